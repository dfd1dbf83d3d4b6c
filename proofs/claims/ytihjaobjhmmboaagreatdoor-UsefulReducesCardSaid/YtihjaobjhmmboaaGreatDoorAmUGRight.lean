/- A part of a proof. Its conditions: none. -/
import Derived.Test.YtihjaobjhmmboaaGreatDoorAmUNum
import Derived.Test.YtihjaobjhmmboaaGreatDoorAmULfTold
import Derived.Test.YtihjaobjhmmboaaGreatDoorAmC
import Derived.Test.YtihjaobjhmmboaaGreatDoorAmULfStr
import Derived.Test.YtihjaobjhmmboaaGreatDoorAmULfNullable
set_option linter.all false
namespace Go.Proofs.YtihjaobjhmmboaaGreatDoor
open Go.AM Ieee
set_option maxRecDepth 100000
theorem snoc_ind {p : List UInt8 → Prop} (h0 : p []) (hs : ∀ l b, p l → p (l ++ [b])) (l : List UInt8) : p l := by
 have : ∀ k, ∀ l : List UInt8, l.length = k → p l := by
  intro k
  induction k with
  | zero => intro l hl; rw [List.length_eq_zero_iff.1 hl]; exact h0
  | succ k ih =>
   intro l hl
   have hne : l ≠ [] := by intro e; rw [e] at hl; cases hl
   rw [← List.dropLast_concat_getLast hne]
   exact hs _ _ (ih _ (by rw [List.length_dropLast]; omega))
 exact this _ l rfl
theorem dig_at (l : List UInt8) : l.all isD = true → ∀ i (b : UInt8), l[i]? = some b → valL l / 10 ^ (l.length - 1 - i) % 10 = b.toNat - 48 := by
 refine snoc_ind (p := fun l => l.all isD = true → ∀ i (b : UInt8), l[i]? = some b → valL l / 10 ^ (l.length - 1 - i) % 10 = b.toNat - 48) ?_ ?_ l
 ·intro _ i b h; simp at h
 ·intro l x ih hall i b hb
  rw [List.all_append, Bool.and_eq_true] at hall
  have hx : isD x = true := by simpa using hall.2
  have hx2 := (isD_iff x).1 hx
  rw [valL_snoc, List.length_append]
  simp only [List.length_cons, List.length_nil]
  by_cases hi : i < l.length
  ·rw [List.getElem?_append_left hi] at hb
   have := ih hall.1 i b hb
   rw [show l.length + (0 + 1) - 1 - i = (l.length - 1 - i) + 1 by omega, Nat.pow_succ', ← Nat.div_div_eq_div_mul, show (10 * valL l + (x.toNat - 48)) / 10 = valL l by omega]
   exact this
  ·rw [List.getElem?_append_right (by omega)] at hb
   have hi0 : i - l.length = 0 := by
    cases h : i - l.length with
    | zero => rfl
    | succ k => rw [h] at hb; simp at hb
   rw [hi0] at hb
   simp at hb
   subst hb
   rw [show l.length + (0 + 1) - 1 - i = 0 by omega, Nat.pow_zero, Nat.div_one]
   omega
theorem chr_at {l : List UInt8} (h : l.all isD = true) {i : Nat} {b : UInt8} (hb : l[i]? = some b) : UInt8.ofNat (48 + valL l / 10 ^ (l.length - 1 - i) % 10) = b := by
 have hd := dig_at l h i b hb
 have hx := (isD_iff b).1 (List.all_eq_true.1 h b (List.mem_of_getElem? hb))
 rw [hd, show 48 + (b.toNat - 48) = b.toNat by omega]
 exact UInt8.ofNat_toNat
theorem len_unique {n a b : Nat} (h1 : 10 ^ a ≤ n) (h2 : n < 10 ^ (b + 1)) : a ≤ b := by
 have : 10 ^ a < 10 ^ (b + 1) := Nat.lt_of_le_of_lt h1 h2
 have := (Nat.pow_lt_pow_iff_right (a := 10) (by omega)).1 this
 omega
theorem valL_append (h t : List UInt8) : valL (h ++ t) = valL h * 10 ^ t.length + valL t := by
 refine snoc_ind (p := fun t => valL (h ++ t) = valL h * 10 ^ t.length + valL t) ?_ ?_ t
 ·simp [valL]
 ·intro t b ih
  rw [← List.append_assoc, valL_snoc, ih, valL_snoc, List.length_append]
  simp only [List.length_cons, List.length_nil, Nat.zero_add, Nat.pow_succ]
  rw [Nat.mul_add, ← Nat.mul_assoc, Nat.mul_comm 10 (valL h), Nat.mul_assoc (valL h) 10, Nat.mul_comm 10 (10 ^ _)]
  omega
theorem valL_ge {a : UInt8} {l : List UInt8} (h : (a :: l).all isD = true) (ha : a ≠ 48) : 10 ^ l.length ≤ valL (a :: l) := by
 have hx : isD a = true := List.all_eq_true.1 h a (List.mem_cons_self ..)
 have hx2 := (isD_iff a).1 hx
 have ha' : a.toNat ≠ 48 := fun e => ha (UInt8.toNat_inj.1 (by rw [e]; rfl))
 have : valL (a :: l) = valL [a] * 10 ^ l.length + valL l := valL_append [a] l
 rw [this]
 have h1 : valL [a] = a.toNat - 48 := by simp [valL]
 rw [h1]
 have := Nat.mul_le_mul_right (10 ^ l.length) (show 1 ≤ a.toNat - 48 by omega)
 omega
theorem lft_spec {N s : Nat} (hN : N ≠ 0) (hb : N * 10 ^ s < 9223372036854775808) :
  ∃ nn, 1 ≤ nn ∧ numD (N * 10 ^ s) = nn + s ∧ 10 ^ (nn - 1) ≤ N ∧ N < 10 ^ nn ∧ (∀ i, i < nn → lft (N * 10 ^ s) (nn + s) i = N / 10 ^ (nn - 1 - i) % 10) ∧ (∀ i, nn ≤ i → i < nn + s → lft (N * 10 ^ s) (nn + s) i = 0) := by
 have hp : 0 < 10 ^ s := Nat.pow_pos (by omega)
 have hd0 : N * 10 ^ s ≠ 0 := Nat.mul_ne_zero hN (by omega)
 obtain ⟨a, b, c, _⟩ := numD_spec hd0 hb
 obtain ⟨nd, hnd⟩ : ∃ nd, numD (N * 10 ^ s) = nd := ⟨_, rfl⟩
 rw [hnd] at a b c ⊢
 have hs : s < nd := by
  have : 10 ^ s ≤ N * 10 ^ s := Nat.le_mul_of_pos_left _ (by omega)
  exact (Nat.pow_lt_pow_iff_right (a := 10) (by omega)).1 (Nat.lt_of_le_of_lt this b)
 refine ⟨nd - s, by omega, by omega, ?_, ?_, ?_, ?_⟩
 ·rw [show nd - 1 = (nd - s - 1) + s by omega, Nat.pow_add] at a
  exact Nat.le_of_mul_le_mul_right a hp
 ·rw [show nd = (nd - s) + s by omega, Nat.pow_add] at b
  exact Nat.lt_of_mul_lt_mul_right b
 ·intro i hi
  unfold lft
  rw [show nd - s + s - 1 - i = s + (nd - s - 1 - i) by omega, Nat.pow_add, ← Nat.div_div_eq_div_mul, Nat.mul_div_cancel _ hp]
 ·intro i hi hi2
  unfold lft
  rw [show 10 ^ s = 10 ^ (s - (nd - s + s - 1 - i)) * 10 ^ (nd - s + s - 1 - i) by rw [← Nat.pow_add]; congr 1; omega, ← Nat.mul_assoc, Nat.mul_div_cancel _ (Nat.pow_pos (by omega))]
  rw [show s - (nd - s + s - 1 - i) = (s - (nd - s + s - 1 - i) - 1) + 1 by omega, Nat.pow_succ, ← Nat.mul_assoc, Nat.mul_mod_left]
theorem range_rep (f : Nat → UInt8) (m n : Nat) (h : m ≤ n) (c : UInt8) : (List.range m).map f ++ List.replicate (n - m) c = (List.range n).map fun i => if i < m then f i else c := by
 apply List.ext_getElem?
 intro i
 by_cases him : i < m
 ·rw [List.getElem?_append_left (by simpa using him), List.getElem?_map, List.getElem?_map, List.getElem?_range him, List.getElem?_range (by omega)]
  simp [him]
 ·rw [List.getElem?_append_right (by simp; omega), List.length_map, List.length_range, List.getElem?_replicate, List.getElem?_map]
  by_cases hin : i < n
  ·rw [if_pos (by omega), List.getElem?_range hin]; simp [him]
  ·rw [if_neg (by omega), List.getElem?_eq_none (by simp; omega)]; rfl
theorem rep_range (f : Nat → UInt8) (m n : Nat) (c : UInt8) : List.replicate m c ++ (List.range n).map f = (List.range (m + n)).map fun i => if i < m then c else f (i - m) := by
 apply List.ext_getElem?
 intro i
 by_cases him : i < m
 ·rw [List.getElem?_append_left (by simpa using him), List.getElem?_map, List.getElem?_replicate, if_pos him, List.getElem?_range (by omega)]
  simp [him]
 ·rw [List.getElem?_append_right (by simp; omega), List.length_replicate, List.getElem?_map, List.getElem?_map]
  by_cases hin : i < m + n
  ·rw [List.getElem?_range hin, List.getElem?_range (by omega)]; simp [him]
  ·rw [List.getElem?_eq_none (by simp; omega), List.getElem?_eq_none (by simp; omega)]; rfl
theorem map_range_eq {l : List UInt8} {f : Nat → UInt8} {n : Nat} (hn : n = l.length) (h : ∀ i b, l[i]? = some b → f i = b) : (List.range n).map f = l := by
 subst hn
 apply List.ext_getElem?
 intro i
 rw [List.getElem?_map]
 by_cases hi : i < l.length
 ·rw [List.getElem?_range hi, List.getElem?_eq_getElem hi]
  exact congrArg some (h i _ (List.getElem?_eq_getElem hi))
 ·rw [List.getElem?_eq_none (by simp; omega), List.getElem?_eq_none (by omega)]; rfl
def sgn (neg : Bool) : List UInt8 := if neg then [45] else []
def fracL (t : List UInt8) : List UInt8 := if trimZ t = [] then [] else 46 :: trimZ t
theorem out_short {h t : List UInt8} {neg : Bool} {q nz : Nat} (hda : h.all isD = true) (hd1 : 1 ≤ h.length) (hlead : lead0 h = false) (hta : t.all isD = true) (htq : t.length ≤ q) (hN : valL (h ++ t) ≠ 0)
    (htrim : Trim (valL (h ++ t) * 10 ^ (q - t.length)) nz) (hdb : valL (h ++ t) * 10 ^ (q - t.length) < 9223372036854775808) :
    (outS neg (valL (h ++ t) * 10 ^ (q - t.length)) nz q).map UInt8.ofNat = sgn neg ++ h ++ fracL t := by
  obtain ⟨nn, hn1, hnd, hnlo, hnhi, hl1, hl2⟩ := lft_spec hN hdb
  unfold Trim at htrim
  unfold outS
  rw [hnd] at htrim ⊢
  obtain ⟨t1, t2, t3⟩ := htrim
  generalize valL (h ++ t) * 10 ^ (q - t.length) = d at *
  have hall : (h ++ t).all isD = true := by rw [List.all_append, hda, hta]; rfl
  have hchr := fun i b => chr_at (l := h ++ t) hall (i := i) (b := b)
  have hdig := dig_at (h ++ t) hall
  have hlenL : (h ++ t).length = h.length + t.length := List.length_append
  rw [hlenL] at hchr hdig
  generalize hNN : valL (h ++ t) = N at *
  have hnz : nz ≤ nn := by
    refine Decidable.byContradiction fun hlt => ?_
    rcases t3 with h0 | h0
    · omega
    · exact h0 (hl2 _ (by omega) (by omega))
  have hfmt : ∀ dp prec : Int, (fmtS neg (fun i => 48 + lft d (nn + (q - t.length)) i) nz dp prec).map UInt8.ofNat =
      sgn neg ++ (intS (fun i => 48 + lft d (nn + (q - t.length)) i) nz dp).map UInt8.ofNat ++ (if 0 < prec then (fracS (fun i => 48 + lft d (nn + (q - t.length)) i) nz dp).map UInt8.ofNat else []) := by
    intro dp prec
    unfold fmtS sgn
    rw [List.map_append, List.map_append]
    congr 1
    · congr 1
      cases neg <;> rfl
    · split <;> rfl
  rw [hfmt]
  have h48 : UInt8.ofNat 48 = 48 := rfl
  cases h with
  | nil => simp at hd1
  | cons a h =>
    by_cases ha : a = 48
    · -- nought ahead of the point
      have hh : h = [] := by
        unfold lead0 at hlead
        rw [ha] at hlead
        simp at hlead
        cases h with
        | nil => rfl
        | cons b h => simp at hlead
      subst hh ha
      generalize hk : t.length = k at *
      have hNt : valL t = N := by
        have : valL ([48] ++ t) = valL [48] * 10 ^ t.length + valL t := valL_append [48] t
        rw [hNN] at this
        have h0 : valL [48] = 0 := rfl
        rw [h0, Nat.zero_mul, Nat.zero_add] at this
        exact this.symm
      have hNk : N < 10 ^ k := by rw [← hNt, ← hk]; exact valL_lt t hta
      have hk1 : 1 ≤ k := by
        refine Decidable.byContradiction fun hc => ?_
        rw [show k = 0 by omega] at hNk
        simp at hNk; exact hN hNk
      have hnk : nn ≤ k := by
        have := len_unique (a := nn - 1) (b := k - 1) hnlo (by rw [show k - 1 + 1 = k by omega]; exact hNk)
        omega
      have htd : ∀ j (b : UInt8), t[j]? = some b → N / 10 ^ (k - 1 - j) % 10 = b.toNat - 48 := by
        intro j b hb
        have := hdig (j + 1) b (by simpa using hb)
        rw [show ([48] : List UInt8).length + k - 1 - (j + 1) = k - 1 - j by simp; omega] at this
        exact this
      have htD : ∀ j (b : UInt8), t[j]? = some b → 48 ≤ b.toNat := fun j b hb => ((isD_iff b).1 (List.all_eq_true.1 hta b (List.mem_of_getElem? hb))).1
      have htc : ∀ j (b : UInt8), t[j]? = some b → UInt8.ofNat (48 + N / 10 ^ (k - 1 - j) % 10) = b := by
        intro j b hb
        have h1 := htD j b hb
        rw [htd j b hb, show 48 + (b.toNat - 48) = b.toNat by omega]
        exact UInt8.ofNat_toNat
      have hfirst : lft d (nn + (q - k)) 0 ≠ 0 := by
        rw [hl1 0 (by omega), Nat.sub_zero]
        have a1 : N / 10 ^ (nn - 1) < 10 := by
          refine Nat.div_lt_of_lt_mul ?_
          rw [Nat.mul_comm, ← Nat.pow_succ', show (nn - 1).succ = nn by omega]; exact hnhi
        have a2 : 1 ≤ N / 10 ^ (nn - 1) := (Nat.le_div_iff_mul_le (Nat.pow_pos (by omega))).2 (by omega)
        omega
      have hz1 : 1 ≤ nz := by
        refine Decidable.byContradiction fun hc => ?_
        exact hfirst (t2 0 (by omega) (by omega))
      have hlast : lft d (nn + (q - k)) (nz - 1) ≠ 0 := by
        rcases t3 with h0 | h0
        · omega
        · exact h0
      obtain ⟨dp, hdp⟩ : ∃ dp : Int, ((nn + (q - k) : Nat) : Int) - (q : Int) = dp := ⟨_, rfl⟩
      rw [hdp]
      have hdp2 : dp = (nn : Int) - (k : Int) := by omega
      have hpos : 0 < max ((nz : Int) - dp) 0 := by omega
      rw [if_pos hpos]
      have hint : intS (fun i => 48 + lft d (nn + (q - k)) i) nz dp = [48] := by unfold intS; rw [if_neg (by omega)]
      rw [hint]
      have hdpt : dp.toNat = 0 := by omega
      have hdpn : (-dp).toNat = k - nn := by omega
      have hfr : (fracS (fun i => 48 + lft d (nn + (q - k)) i) nz dp).map UInt8.ofNat = 46 :: t.take (k - nn + nz) := by
        unfold fracS
        rw [hdpt, hdpn, List.map_cons, List.map_append, List.map_replicate, List.map_map, Nat.sub_zero, rep_range]
        congr 1
        refine map_range_eq (by rw [List.length_take, hk]; omega) ?_
        intro i b hb
        by_cases hir : i < k - nn + nz
        · rw [List.getElem?_take, if_pos hir] at hb
          by_cases hi : i < k - nn
          · rw [if_pos hi]
            have hc := htc i b hb
            have : N / 10 ^ (k - 1 - i) = 0 := Nat.div_eq_of_lt (Nat.lt_of_lt_of_le hnhi (Nat.pow_le_pow_right (by omega) (by omega)))
            rw [this] at hc
            exact hc
          · rw [if_neg hi]
            simp only [Function.comp_apply, Nat.zero_add]
            rw [hl1 (i - (k - nn)) (by omega), show nn - 1 - (i - (k - nn)) = k - 1 - i by omega]
            exact htc i b hb
        · rw [List.getElem?_take, if_neg hir] at hb; cases hb
      have htrim : t.take (k - nn + nz) = trimZ t := by
        refine trim_take (by omega) ?_ (.inr ?_)
        · intro j hj b hb
          have hjl : j < k := by
            have := (List.getElem?_eq_some_iff.1 hb).1; omega
          have h0 := t2 (j - (k - nn)) (by omega) (by omega)
          rw [hl1 _ (by omega), show nn - 1 - (j - (k - nn)) = k - 1 - j by omega] at h0
          have := htc j b hb
          rw [h0] at this; exact this.symm
        · have hg : t[k - nn + nz - 1]? = some t[k - nn + nz - 1] := List.getElem?_eq_getElem (by omega)
          refine ⟨_, hg, fun e => ?_⟩
          have h0 := htd _ _ hg
          rw [e, show k - 1 - (k - nn + nz - 1) = nn - 1 - (nz - 1) by omega, ← hl1 (nz - 1) (by omega)] at h0
          exact hlast (by rw [h0]; rfl)
      rw [hfr, htrim]
      have hne : trimZ t ≠ [] := by
        rw [← htrim]
        intro e
        have := congrArg List.length e
        rw [List.length_take, hk, List.length_nil] at this
        omega
      unfold fracL
      rw [if_neg hne]
      rfl
    · have hge := valL_ge (l := h ++ t) hall ha
      have hNN' : valL (a :: (h ++ t)) = N := hNN
      rw [hNN', List.length_append] at hge
      have hlt : N < 10 ^ ((a :: h).length + t.length) := by rw [← hNN, ← hlenL]; exact valL_lt _ hall
      generalize hk : t.length = k at *
      have hlc : (a :: h).length = h.length + 1 := rfl
      obtain ⟨hl, hhl⟩ : ∃ hl, (a :: h).length = hl := ⟨_, rfl⟩
      rw [hhl] at hlc hlt hchr hdig
      have hnm : nn = hl + k := by
        have h1 := len_unique (a := nn - 1) (b := hl + k - 1) hnlo (by rw [show hl + k - 1 + 1 = hl + k by omega]; exact hlt)
        have h2 := len_unique (a := h.length + k) (b := nn - 1) hge (by rw [show nn - 1 + 1 = nn by omega]; exact hnhi)
        omega
      obtain ⟨dp, hdp⟩ : ∃ dp : Int, ((nn + (q - k) : Nat) : Int) - (q : Int) = dp := ⟨_, rfl⟩
      rw [hdp]
      have hdp2 : dp = (hl : Int) := by omega
      have hdpt : dp.toNat = hl := by omega
      have hdpn : (-dp).toNat = 0 := by omega
      have hLd : ∀ i (b : UInt8), (a :: h ++ t)[i]? = some b → i < nn ∧ UInt8.ofNat (48 + lft d (nn + (q - k)) i) = b ∧ lft d (nn + (q - k)) i = b.toNat - 48 := by
        intro i b hb
        have hi : i < nn := by
          have := (List.getElem?_eq_some_iff.1 hb).1
          rw [List.length_append, hhl, hk] at this; omega
        rw [hl1 i hi, hnm]
        exact ⟨by omega, hchr i b hb, hdig i b hb⟩
      have hint : (intS (fun i => 48 + lft d (nn + (q - k)) i) nz dp).map UInt8.ofNat = a :: h := by
        unfold intS
        rw [if_pos (by omega), hdpt, List.map_append, List.map_replicate, List.map_map, range_rep _ _ _ (by omega)]
        refine map_range_eq hhl.symm ?_
        intro i b hb
        have hi : i < hl := by rw [← hhl]; exact (List.getElem?_eq_some_iff.1 hb).1
        have hb2 : (a :: h ++ t)[i]? = some b := by rw [List.getElem?_append_left (by rw [hhl]; exact hi)]; exact hb
        obtain ⟨_, c1, _⟩ := hLd i b hb2
        split
        · exact c1
        · rw [t2 i (by omega) (by omega)] at c1
          exact c1
      rw [hint]
      have htL : ∀ j (b : UInt8), t[j]? = some b → (a :: h ++ t)[hl + j]? = some b := by
        intro j b hb
        rw [List.getElem?_append_right (by rw [hhl]; omega), hhl, Nat.add_sub_cancel_left]; exact hb
      have htz : ∀ j, nz - hl ≤ j → ∀ b, t[j]? = some b → b = 48 := by
        intro j hj b hb
        obtain ⟨hi, c1, _⟩ := hLd _ _ (htL j b hb)
        rw [t2 (hl + j) (by omega) (by omega)] at c1
        exact c1.symm
      by_cases hp : hl < nz
      · have hpos : 0 < max ((nz : Int) - dp) 0 := by omega
        rw [if_pos hpos]
        have hlast : lft d (nn + (q - k)) (nz - 1) ≠ 0 := by
          rcases t3 with h0 | h0
          · omega
          · exact h0
        have htrim : t.take (nz - hl) = trimZ t := by
          refine trim_take (by omega) htz (.inr ?_)
          have hg : t[nz - hl - 1]? = some t[nz - hl - 1] := List.getElem?_eq_getElem (by omega)
          refine ⟨_, hg, fun e => ?_⟩
          obtain ⟨_, _, c2⟩ := hLd _ _ (htL _ _ hg)
          rw [e, show hl + (nz - hl - 1) = nz - 1 by omega] at c2
          exact hlast (by rw [c2]; rfl)
        have hfr : (fracS (fun i => 48 + lft d (nn + (q - k)) i) nz dp).map UInt8.ofNat = 46 :: t.take (nz - hl) := by
          unfold fracS
          rw [hdpt, hdpn, List.map_cons, List.replicate_zero, List.nil_append, List.map_map]
          congr 1
          refine map_range_eq (by rw [List.length_take, hk]; omega) ?_
          intro i b hb
          by_cases hir : i < nz - hl
          · rw [List.getElem?_take, if_pos hir] at hb
            exact (hLd _ _ (htL i b hb)).2.1
          · rw [List.getElem?_take, if_neg hir] at hb; cases hb
        rw [hfr, htrim]
        have hne : trimZ t ≠ [] := by
          rw [← htrim]
          intro e
          have := congrArg List.length e
          rw [List.length_take, hk, List.length_nil] at this
          omega
        unfold fracL
        rw [if_neg hne]
      · have hpos : ¬ (0 < max ((nz : Int) - dp) 0) := by omega
        rw [if_neg hpos]
        have htrim : t.take 0 = trimZ t := trim_take (Nat.zero_le _) (fun j _ => htz j (by omega)) (.inl rfl)
        have hne : trimZ t = [] := by rw [← htrim]; rfl
        unfold fracL
        rw [if_pos hne]
end Go.Proofs.YtihjaobjhmmboaaGreatDoor

namespace Go.Proofs.YtihjaobjhmmboaaGreatDoor
open Go.AM Ieee
set_option maxRecDepth 100000
theorem xor_top (b : Nat) (h : b < 2 ^ 63) : b ^^^ 2 ^ 63 = 2 ^ 63 + b := by
 apply Nat.eq_of_testBit_eq
 intro i
 rw [Nat.testBit_xor, Nat.testBit_two_pow]
 by_cases h1 : i < 63
 ·rw [Nat.testBit_two_pow_add_gt h1]
  have : decide (63 = i) = false := by simp; omega
  rw [this, Bool.xor_false]
 ·by_cases h2 : i = 63
  ·subst h2
   rw [Nat.testBit_two_pow_add_eq]
   simp
  ·have h3 : 2 ^ 64 ≤ 2 ^ i := Nat.pow_le_pow_right (by omega) (by omega)
   rw [Nat.testBit_lt_two_pow (by omega), Nat.testBit_lt_two_pow (by omega)]
   simp; omega
theorem neg_word {neg : Bool} {E F : Nat} (hE : E ≤ 2046) (hF : F < 4503599627370496) : Op.negFloat .f64 (word neg E F) = word (!neg) E F := by
 have hx := xor_top (E * 4503599627370496 + F) (by omega)
 have e : ∀ b : Nat, Op.negFloat .f64 b = b ^^^ 2 ^ 63 := fun b => rfl
 rw [e]
 cases neg with
 | false =>
  have h1 : word false E F = E * 4503599627370496 + F := by unfold word; simp
  have h2 : word (!false) E F = 2 ^ 63 + (E * 4503599627370496 + F) := by unfold word; simp; omega
  rw [h1, h2]; exact hx
 | true =>
  have h1 : word (!true) E F = E * 4503599627370496 + F := by unfold word; simp
  have h2 : word true E F = 2 ^ 63 + (E * 4503599627370496 + F) := by unfold word; simp; omega
  rw [h1, h2, ← hx, Nat.xor_assoc, Nat.xor_self, Nat.xor_zero]
theorem real_word {neg : Bool} {E F : Nat} (hE : E ≤ 2046) (hF : F < 4503599627370496) : realB (word neg E F) = true ∧ word neg E F < 18446744073709551616 ∧ nanB (word neg E F) = false := by
 have h1 : word neg E F < 18446744073709551616 := by unfold word; cases neg <;> simp <;> omega
 have h2 : nanB (word neg E F) = false := by
  rw [nanB_eq h1]
  have : word neg E F % 9223372036854775808 = E * 4503599627370496 + F := by unfold word; cases neg <;> simp <;> omega
  rw [this]
  exact decide_eq_false (by omega)
 exact ⟨by rw [realB_eq h1, h2]; rfl, h1, h2⟩
def GH (n : Nat) (H : Heap) : Prop := WF n H ∧ ∀ x, G x ≠ .dead → H x = G x
theorem G4 : G 4 = .cells pows 179 false := by
 unfold G; rfl
theorem G3 : G 3 = .cells tens 168 false := by
 unfold G; rfl
theorem GH.keep {n n' : Nat} {H H' : Heap} (h : GH n H) (hk : Kp n H n' H') : GH n' H' := by
 refine ⟨hk.wf h.1, fun x hx => ?_⟩
 rw [hk.keep x ?_, h.2 x hx]
 apply Decidable.byContradiction
 intro hlt
 have := h.2 x hx
 rw [h.1 x (by omega)] at this
 exact hx this.symm
theorem text_word {neg : Bool} {E F : Nat} (hE : E ≤ 2046) (hF : F < 4503599627370496) {n : Nat} {H : Heap} {R : List Nat → Prop} (hw : GH n H)
  (hft : ∀ n H1, GH (n + 1) H1 → H1 n = .cells [] 5 true → GivesX Tryz.prog (fun z => z = n) 110 [.slice (some ⟨n, 0, none⟩) 0 0, .float .f64 (word neg E F), .int .u8 102, .int .i64 (-1)] (n + 1) H1 fun v n' H' =>
   ∃ out, R out ∧ ∃ y, v = .slice (some ⟨y, 0, none⟩) out.length out.length ∧ H' y = .cells (out.map bv) 5 true) :
  Gives Tryz.prog 60 [.float .f64 (word neg E F)] n H fun v n' H' => ∃ out, R out ∧ v = .string (toBA out) := by
 refine text_fin (real_word hE hF).1 (order_max hE hF) (by rw [neg_word hE hF]; exact order_max hE hF) ?_
 intro n' H' hk
 refine format_of ?_ (hk.wf hw.1)
 intro H1 h1 hwf hkeep
 have g' := hw.keep hk
 refine hft n' H1 ⟨hwf, fun x hx => ?_⟩ h1
 have hlt : x < n' := by
  apply Decidable.byContradiction
  intro hlt
  have := g'.2 x hx
  rw [g'.1 x (by omega)] at this
  exact hx this.symm
 rw [hkeep x hlt, g'.2 x hx]
theorem toBA_eq (out : List Nat) : toBA out = BA (out.map UInt8.ofNat) := rfl
theorem short_eq {l : List UInt8} (h : okE l = true) : shortL l = sgn (hasMinus l) ++ hs l ++ fracL (ts l) := by
 unfold shortL sgn fracL; rw [h, if_pos rfl]
theorem val_zero {l : List UInt8} (hall : l.all isD = true) (h : valL l = 0) : ∀ (i : Nat) (b : UInt8), l[i]? = some b → b = 48 := by
 intro i b hb
 have := chr_at hall hb
 rw [h] at this
 simp at this
 exact this.symm
theorem fwE_zero {l : List UInt8} (h : okE l = true) (h0 : valL (hs l ++ ts l) = 0) : fwE l = word (hasMinus l) 0 0 ∧ hs l = [48] ∧ trimZ (ts l) = [] := by
 obtain ⟨hda, hd1, hd2, hl0, hta, htl6, _⟩ := ok_facts h
 have hall : (hs l ++ ts l).all isD = true := by rw [List.all_append, hda, hta]; rfl
 have hz := val_zero hall h0
 refine ⟨?_, ?_, ?_⟩
 ·unfold fwE quo word
  have hzd := eq_of_beq (List.all_eq_true.1 zero_div (ts l).length (List.mem_range.2 (by omega)))
  rw [h0, hzd]
  cases hasMinus l <;> rfl
 ·cases hc : hs l with
  | nil => rw [hc] at hd1; simp at hd1
  | cons a h' =>
   have ha : a = 48 := hz 0 a (by rw [hc]; rfl)
   rw [hc, ha] at hl0
   cases h' with
   | nil => rw [ha]
   | cons b h'' => simp [lead0] at hl0
 ·have := trim_take (t := ts l) (r := 0) (Nat.zero_le _) (fun j _ b hb => hz ((hs l).length + j) b (by rw [List.getElem?_append_right (by omega), Nat.add_sub_cancel_left]; exact hb)) (.inl rfl)
  rw [← this]; rfl
theorem fwE_word {l : List UInt8} (h : okE l = true) (h0 : valL (hs l ++ ts l) ≠ 0) :
  ∃ M t : Nat, fwE l = word (hasMinus l) (1075 - t) (M - 2 ^ 52) ∧ 2 ^ 52 ≤ M ∧ M < 2 ^ 53 ∧ 23 ≤ t ∧ t ≤ 72 ∧ Near (valL (hs l ++ ts l)) (10 ^ (ts l).length) M t := by
 obtain ⟨hda, hd1, hd2, hl0, hta, htl6, _⟩ := ok_facts h
 have hall : (hs l ++ ts l).all isD = true := by rw [List.all_append, hda, hta]; rfl
 have hlt := valL_lt _ hall
 have hb : valL (hs l ++ ts l) < 10 ^ 9 * 10 ^ (ts l).length := by
  refine Nat.lt_of_lt_of_le hlt ?_
  rw [← Nat.pow_add]
  exact Nat.pow_le_pow_right (by omega) (by rw [List.length_append]; omega)
 obtain ⟨M, t, hd, hM1, hM2, ht1, ht2, hn⟩ := div_ten (n := valL (hs l ++ ts l)) (k := (ts l).length) (by omega) htl6 hb
 refine ⟨M, t, ?_, hM1, hM2, ht1, ht2, hn⟩
 unfold fwE quo word
 rw [hd, Option.getD_some]
 unfold wd
 have : (-(t : Int) + 1074).toNat = 1074 - t := by omega
 rw [this]
 cases hasMinus l <;> simp <;> omega
theorem text_gives {l : List UInt8} (h : okE l = true) {n : Nat} {H : Heap} (hw : GH n H) : Gives Tryz.prog 60 [.float .f64 (fwE l)] n H fun v n' H' => v = .string (BA (shortL l)) := by
 obtain ⟨hda, hd1, hd2, hl0, hta, htl6, _⟩ := ok_facts h
 have conv : ∀ {R : List Nat → Prop}, (∀ out, R out → out.map UInt8.ofNat = shortL l) → (Gives Tryz.prog 60 [.float .f64 (fwE l)] n H fun v n' H' => ∃ out, R out ∧ v = .string (toBA out)) → Gives Tryz.prog 60 [.float .f64 (fwE l)] n H fun v n' H' => v = .string (BA (shortL l)) := by
  rintro R hR ⟨v, n', H', a, b, out, ho, e⟩
  exact ⟨v, n', H', a, b, by rw [e, toBA_eq, hR out ho]⟩
 by_cases h0 : valL (hs l ++ ts l) = 0
 ·obtain ⟨e1, e2, e3⟩ := fwE_zero h h0
  refine conv (R := fun out => out = fmtS (hasMinus l) (fun _ => 0) 0 0 (-1)) ?_ ?_
  ·rintro out rfl
   rw [short_eq h, e2]
   unfold fracL
   rw [e3, if_pos rfl]
   cases hasMinus l <;> rfl
  ·rw [e1]
   refine text_word (by omega) (by omega) hw ?_
   intro n1 H1 g1 hc
   obtain ⟨v, n', H', a, b, y, e, c⟩ := ftoa_zero (b := word (hasMinus l) 0 0) (neg := hasMinus l) rfl hc (Nat.lt_succ_self n1)
   exact ⟨v, n', H', a, b, _, rfl, y, e, c⟩
 ·obtain ⟨M, t, e1, hM1, hM2, ht1, ht2, hn⟩ := fwE_word h h0
  refine conv (R := fun out => ∃ P nz : Nat, 7 ≤ P ∧ P ≤ 23 ∧ Trim (valL (hs l ++ ts l) * 10 ^ (P - 1 - (ts l).length)) nz ∧ valL (hs l ++ ts l) * 10 ^ (P - 1 - (ts l).length) < 9223372036854775808 ∧ out = outS (hasMinus l) (valL (hs l ++ ts l) * 10 ^ (P - 1 - (ts l).length)) nz (P - 1)) ?_ ?_
  ·rintro out ⟨P, nz, hP1, hP2, htr, hdb, rfl⟩
   rw [short_eq h]
   exact out_short hda hd1 hl0 hta (by omega) h0 htr hdb
  ·rw [e1]
   refine text_word (by omega) (by omega) hw ?_
   intro n1 H1 g1 hc
   obtain ⟨v, n', H', a, b, P, nz, p1, p2, p3, p4, y, e, c⟩ := ftoa_gives (b := word (hasMinus l) (1075 - t) (M - 2 ^ 52)) (neg := hasMinus l) htl6 ht1 ht2 hM1 hM2 hn h0 rfl hc (Nat.lt_succ_self n1) g1.1 ((g1.2 _ (by rw [G4]; simp)).trans G4) ((g1.2 _ (by rw [G3]; simp)).trans G3)
   exact ⟨v, n', H', a, b, _, ⟨P, nz, p1, p2, p3, p4, rfl⟩, y, e, c⟩
end Go.Proofs.YtihjaobjhmmboaaGreatDoor

namespace Go.Proofs.YtihjaobjhmmboaaGreatDoor
open Go.AM Ieee
set_option maxRecDepth 100000
def spec3 (l : List UInt8) : Option (Nat) := if l = [110, 97, 110] then some 9221120237041090561 else if l = [105, 110, 102] then some 9218868437227405312 else if l = [45, 105, 110, 102] then some 18442240474082181120 else none
def rdF (l : List UInt8) : Nat := match spec3 l with | some w => w | none => if okE l then fwE l else 0
def rdO (l : List UInt8) : Bool := match spec3 l with | some _ => true | none => okE l
theorem spec3_cases (l : List UInt8) : (l = [110, 97, 110] ∧ rdF l = 9221120237041090561 ∧ rdO l = true) ∨ (l = [105, 110, 102] ∧ rdF l = 9218868437227405312 ∧ rdO l = true) ∨ (l = [45, 105, 110, 102] ∧ rdF l = 18442240474082181120 ∧ rdO l = true) ∨
  (l ≠ [110, 97, 110] ∧ l ≠ [105, 110, 102] ∧ l ≠ [45, 105, 110, 102] ∧ rdF l = (if okE l then fwE l else 0) ∧ rdO l = okE l) := by
 by_cases h1 : l = [110, 97, 110]
 ·subst h1; exact .inl ⟨rfl, rfl, rfl⟩
 by_cases h2 : l = [105, 110, 102]
 ·subst h2; exact .inr (.inl ⟨rfl, rfl, rfl⟩)
 by_cases h3 : l = [45, 105, 110, 102]
 ·subst h3; exact .inr (.inr (.inl ⟨rfl, rfl, rfl⟩))
 ·have : spec3 l = none := by unfold spec3; rw [if_neg h1, if_neg h2, if_neg h3]
  refine .inr (.inr (.inr ⟨h1, h2, h3, ?_, ?_⟩))
  ·unfold rdF; rw [this]
  ·unfold rdO; rw [this]
set_option maxHeartbeats 2000000 in
theorem readall_gives (l : List UInt8) (hl : l.length ≤ 40) (n : Nat) (H : Heap) : Gives Tryz.prog 74 [.string (BA l)] n H fun v n' H' => v = .tuple #[.float .f64 (rdF l), .bool (rdO l)] ∧ n' = n ∧ H' = H := by
 rcases spec3_cases l with ⟨rfl, e1, e2⟩ | ⟨rfl, e1, e2⟩ | ⟨rfl, e1, e2⟩ | ⟨h1, h2, h3, e1, e2⟩ <;> rw [e1, e2]
 ·refine Gives.of orders ok74 (Nat.le_of_ble_eq_true rfl) ?_
  have z1 : (([110, 97, 110] : List UInt8) == [110, 97, 110]) = true := rfl
  repeat (first | refine qqm rfl ?_ | ((first | refine qqr ?_ | refine qqt ?_); simp only [SS, qx28, vun, simprocAttr, BAS, ba_list, z1, ff_74]))
  refine AtCall.by (mathnan_gives _ _) ?_
  rintro v n' H' hk ⟨rfl, rfl, rfl⟩
  simp only [SS, qx28, vun, simprocAttr, ff_74]
  repeat (first | refine qqm rfl ?_ | ((first | refine qqr ?_ | refine qqt ?_); simp only [SS, qx28, vun, simprocAttr, ff_74]))
  first | refine qqf ?_ ?_ | refine qqg ?_ ?_
  ·exact fun _ _ => rfl
  ·simp only [packed, qv, Nat.reduceEqDiff, ↓reduceIte, ff_74]
   first | exact ⟨rfl, trivial, trivial⟩ | exact ⟨trivial, trivial, trivial⟩
 ·refine Gives.of orders ok74 (Nat.le_of_ble_eq_true rfl) ?_
  have z1 : (([105, 110, 102] : List UInt8) == [110, 97, 110]) = false := rfl
  have z2 : (([105, 110, 102] : List UInt8) == [105, 110, 102]) = true := rfl
  repeat (first | refine qqm rfl ?_ | ((first | refine qqr ?_ | refine qqt ?_); simp only [SS, qx28, vun, simprocAttr, BAS, ba_list, z1, z2, ff_74]))
  refine AtCall.by (inf1_gives _ _) ?_
  rintro v n' H' hk ⟨rfl, rfl, rfl⟩
  simp only [SS, qx28, vun, simprocAttr, ff_74]
  repeat (first | refine qqm rfl ?_ | ((first | refine qqr ?_ | refine qqt ?_); simp only [SS, qx28, vun, simprocAttr, ff_74]))
  first | refine qqf ?_ ?_ | refine qqg ?_ ?_
  ·exact fun _ _ => rfl
  ·simp only [packed, qv, Nat.reduceEqDiff, ↓reduceIte, ff_74]
   first | exact ⟨rfl, trivial, trivial⟩ | exact ⟨trivial, trivial, trivial⟩
 ·refine Gives.of orders ok74 (Nat.le_of_ble_eq_true rfl) ?_
  have z1 : (([45, 105, 110, 102] : List UInt8) == [110, 97, 110]) = false := rfl
  have z2 : (([45, 105, 110, 102] : List UInt8) == [105, 110, 102]) = false := rfl
  have z3 : (([45, 105, 110, 102] : List UInt8) == [45, 105, 110, 102]) = true := rfl
  repeat (first | refine qqm rfl ?_ | ((first | refine qqr ?_ | refine qqt ?_); simp only [SS, qx28, vun, simprocAttr, BAS, ba_list, z1, z2, z3, ff_74]))
  refine AtCall.by (inf2_gives _ _) ?_
  rintro v n' H' hk ⟨rfl, rfl, rfl⟩
  simp only [SS, qx28, vun, simprocAttr, ff_74]
  repeat (first | refine qqm rfl ?_ | ((first | refine qqr ?_ | refine qqt ?_); simp only [SS, qx28, vun, simprocAttr, ff_74]))
  first | refine qqf ?_ ?_ | refine qqg ?_ ?_
  ·exact fun _ _ => rfl
  ·simp only [packed, qv, Nat.reduceEqDiff, ↓reduceIte, ff_74]
   first | exact ⟨rfl, trivial, trivial⟩ | exact ⟨trivial, trivial, trivial⟩
 ·exact read_gives l hl h1 h2 h3 n H
end Go.Proofs.YtihjaobjhmmboaaGreatDoor

namespace Go.Proofs.YtihjaobjhmmboaaGreatDoor
open Go.AM Go.RowKit Ieee
set_option maxRecDepth 100000
theorem same_bits {b c : Nat} (hb : nanB b = false) (hc : nanB c = false) (h : sameB b c = true) : b = c := by
 unfold sameB lessB at h
 rw [hb, hc] at h
 cases h1 : belowB b <;> cases h2 : belowB c <;> simp [h1, h2] at h <;> omega
theorem dig_of (d : Nat) (h : d < 10) : ∃ x : UInt8, x.toNat = 48 + d ∧ isD x = true := by
 have e : (UInt8.ofNat (48 + d)).toNat = 48 + d := by rw [UInt8.toNat_ofNat']; omega
 refine ⟨_, e, ?_⟩
 unfold isD
 rw [e]
 simp; omega
theorem digits_ex (k : Nat) : ∀ N, N < 10 ^ k → ∃ t : List UInt8, t.length = k ∧ t.all isD = true ∧ valL t = N := by
 induction k with
 | zero => intro N h; exact ⟨[], rfl, rfl, by rw [Nat.pow_zero] at h; show 0 = N; omega⟩
 | succ k ih =>
  intro N h
  obtain ⟨t, h1, h2, h3⟩ := ih (N / 10) (by rw [Nat.pow_succ] at h; omega)
  obtain ⟨z, e1, e2⟩ := dig_of (N % 10) (by omega)
  refine ⟨t ++ [z], by simp [h1], by simp [h2, e2], ?_⟩
  rw [valL_snoc, h3, e1]; omega
theorem head_ex (k : Nat) : ∀ N, N < 10 ^ (k + 1) → ∃ t : List UInt8, 1 ≤ t.length ∧ t.length ≤ k + 1 ∧ t.all isD = true ∧ valL t = N ∧ (N = 0 → t.length = 1) ∧ (N ≠ 0 → ∀ x, t.head? = some x → x ≠ 48) := by
 induction k with
 | zero =>
  intro N h
  obtain ⟨z, e1, e2⟩ := dig_of N (by simpa using h)
  refine ⟨[z], by simp, by simp, by simp [e2], ?_, by simp, fun h0 x hx => ?_⟩
  ·unfold valL; simp [e1]
  ·simp at hx
   intro e
   have := congrArg UInt8.toNat (hx.trans e)
   rw [e1] at this
   simp at this
   omega
 | succ k ih =>
  intro N h
  by_cases h10 : N < 10
  ·obtain ⟨t, a, b, c⟩ := ih N (Nat.lt_of_lt_of_le h10 (by rw [Nat.pow_succ]; have : 0 < 10 ^ k := Nat.pow_pos (by omega); omega))
   exact ⟨t, a, by omega, c⟩
  ·obtain ⟨t, a, b, c, d, e, f⟩ := ih (N / 10) (by rw [Nat.pow_succ] at h; omega)
   obtain ⟨z, e1, e2⟩ := dig_of (N % 10) (by omega)
   refine ⟨t ++ [z], by simp, by simp; omega, by simp [c, e2], ?_, fun h0 => by omega, fun h0 x hx => ?_⟩
   ·rw [valL_snoc, d, e1]; omega
   ·refine f (by omega) x ?_
    cases t with
    | nil => simp at a
    | cons y t => simpa using hx
theorem parts_of {h t : List UInt8} (hh : h.all isD = true) : headL (h ++ 46 :: t) = h ∧ tailL (h ++ 46 :: t) = t ∧ hasDot (h ++ 46 :: t) = true := by
 have key : ∀ h : List UInt8, h.all isD = true → (h ++ 46 :: t).takeWhile (· != 46) = h ∧ (h ++ 46 :: t).dropWhile (· != 46) = 46 :: t := by
  intro h
  induction h with
  | nil => intro _; simp
  | cons x h ih =>
   intro hx
   rw [List.all_cons, Bool.and_eq_true] at hx
   obtain ⟨i1, i2⟩ := ih hx.2
   have hne : (x != 46) = true := by
    have h1 := hx.1
    unfold isD at h1
    simp at h1
    rw [bne_iff_ne]
    rintro rfl
    have : (46 : UInt8).toNat = 46 := rfl
    omega
   simp [List.takeWhile_cons, List.dropWhile_cons, hne, i1, i2]
 obtain ⟨a, b⟩ := key h hh
 refine ⟨a, by unfold tailL; rw [b]; rfl, ?_⟩
 unfold hasDot
 simp
theorem near_ten : Format.nearest double false (10 ^ 6) 0 = 4696837146684686336 := by kernel_rfl
theorem text_ex (neg : Bool) {m q : Nat} (hm : m < 1000000000000000) (hq : Format.div double (FloatKind.nearest .f64 (m : Int)) 4696837146684686336 = some q) : ∃ l : List UInt8, okE l = true ∧ fwE l = q + (if neg then 9223372036854775808 else 0) ∧ q < 9223372036854775808 := by
 obtain ⟨h, a1, a2, a3, a4, a5, a6⟩ := head_ex 8 (m / 1000000) (by omega)
 obtain ⟨t, b1, b2, b3⟩ := digits_ex 6 (m % 1000000) (by omega)
 obtain ⟨p1, p2, p3⟩ := parts_of (t := t) a3
 have hval : valL (h ++ t) = m := by rw [valL_append, a4, b1, b3]; omega
 have hquo : quo h t = q := by
  unfold quo
  rw [hval, b1, near_ten]
  have e : FloatKind.nearest .f64 (m : Int) = Format.nearest double false m 0 := by
   show Format.nearest double (decide ((m : Int) < 0)) (m : Int).natAbs 0 = _
   rw [decide_eq_false (by omega), Int.natAbs_natCast]
  rw [← e, hq]; rfl
 have hq63 : q < 9223372036854775808 := by
  have := (quo_ok (h := h) (t := t) a3 b2 (by omega) (by omega)).2
  rwa [hquo] at this
 have hlead : lead0 h = false := by
  unfold lead0
  by_cases h0 : m / 1000000 = 0
  ·rw [a5 h0]; rfl
  ·cases h with
   | nil => simp at a1
   | cons x h =>
    have := a6 h0 x rfl
    simp [this]
 have hm0 : hasMinus (h ++ 46 :: t) = false := by
  unfold hasMinus
  cases h with
  | nil => simp at a1
  | cons x h =>
   rw [List.all_cons, Bool.and_eq_true] at a3
   have h1 := a3.1
   unfold isD at h1
   simp at h1
   simp
   rintro rfl
   have : (45 : UInt8).toNat = 45 := rfl
   omega
 have hdh : digsB h 1 9 = true := by unfold digsB; rw [a3]; simp; omega
 have hdt : digsB t 1 6 = true := by unfold digsB; rw [b2]; simp; omega
 cases neg with
 | false =>
  have hc : cutM (h ++ 46 :: t) = h ++ 46 :: t := by unfold cutM; rw [hm0]; rfl
  refine ⟨h ++ 46 :: t, ?_, ?_, hq63⟩
  ·unfold okE hs ts
   rw [hc, p1, p2, p3, hdh, hdt, hlead]; rfl
  ·unfold fwE hs ts
   rw [hc, p1, p2, hm0, hquo]
 | true =>
  have hm1 : hasMinus (45 :: (h ++ 46 :: t)) = true := rfl
  have hc : cutM (45 :: (h ++ 46 :: t)) = h ++ 46 :: t := by unfold cutM; rw [hm1]; rfl
  refine ⟨45 :: (h ++ 46 :: t), ?_, ?_, hq63⟩
  ·unfold okE hs ts
   rw [hc, p1, p2, p3, hdh, hdt, hlead]; rfl
  ·unfold fwE hs ts
   rw [hc, p1, p2, hm1, hquo]
theorem short17 {l : List UInt8} (h : okE l = true) : (shortL l).length ≤ 17 := by
 obtain ⟨_, hd1, hd2, _, hta, htl6, _⟩ := ok_facts h
 have hz : (trimZ (ts l)).length ≤ (ts l).length := by
  unfold trimZ
  rw [List.length_reverse]
  refine Nat.le_trans (List.dropWhile_sublist _).length_le ?_
  rw [List.length_reverse]; exact Nat.le_refl _
 unfold shortL
 rw [if_pos h]
 rw [List.length_append, List.length_append]
 have h1 : (if hasMinus l then [45] else [] : List UInt8).length ≤ 1 := by split <;> simp
 have h2 : (if trimZ (ts l) = [] then [] else 46 :: trimZ (ts l) : List UInt8).length ≤ 7 := by split <;> simp <;> omega
 omega
end Go.Proofs.YtihjaobjhmmboaaGreatDoor

namespace Go.Proofs.YtihjaobjhmmboaaGreatDoor
open Go.AM
set_option maxRecDepth 100000
end Go.Proofs.YtihjaobjhmmboaaGreatDoor

namespace Go.Proofs.YtihjaobjhmmboaaGreatDoor
open Go.AM
set_option maxRecDepth 100000
theorem lexLetter_gives (x : Int) (n : Nat) (H : Heap) : Gives Tryz.prog 85 [.int .u8 x] n H fun v n' H' => v = .bool (letter x) ∧ n' = n ∧ H' = H := by
 refine Gives.of orders ok85 (Nat.le_of_ble_eq_true rfl) ?_
 by_cases h1 : 97 ≤ x
 ·by_cases h2 : x ≤ 122
  ·repeat (first | refine qqm rfl ?_ | ((first | refine qqr ?_ | refine qqt ?_); simp only [SS, qx3, simprocAttr, h1, h2]))
   first | refine qqf ?_ ?_ | refine qqg ?_ ?_
   ·exact fun _ _ => rfl
   ·simp only [packed, qv, Nat.reduceEqDiff, ↓reduceIte, letter, h1, h2]
    simp
  ·by_cases h3 : 65 ≤ x
   ·by_cases h4 : x ≤ 90
    ·omega
    ·repeat (first | refine qqm rfl ?_ | ((first | refine qqr ?_ | refine qqt ?_); simp only [SS, qx3, simprocAttr, h1, h2, h3, h4]))
     first | refine qqf ?_ ?_ | refine qqg ?_ ?_
     ·exact fun _ _ => rfl
     ·simp only [packed, qv, Nat.reduceEqDiff, ↓reduceIte, letter, h1, h2, h3, h4]
      simp
   ·omega
 ·by_cases h3 : 65 ≤ x
  ·by_cases h4 : x ≤ 90
   ·repeat (first | refine qqm rfl ?_ | ((first | refine qqr ?_ | refine qqt ?_); simp only [SS, qx3, simprocAttr, h1, h3, h4]))
    first | refine qqf ?_ ?_ | refine qqg ?_ ?_
    ·exact fun _ _ => rfl
    ·simp only [packed, qv, Nat.reduceEqDiff, ↓reduceIte, letter, h1, h3, h4]
     simp
   ·repeat (first | refine qqm rfl ?_ | ((first | refine qqr ?_ | refine qqt ?_); simp only [SS, qx3, simprocAttr, h1, h3, h4]))
    first | refine qqf ?_ ?_ | refine qqg ?_ ?_
    ·exact fun _ _ => rfl
    ·simp only [packed, qv, Nat.reduceEqDiff, ↓reduceIte, letter, h1, h3, h4]
     simp
  ·repeat (first | refine qqm rfl ?_ | ((first | refine qqr ?_ | refine qqt ?_); simp only [SS, qx3, simprocAttr, h1, h3]))
   first | refine qqf ?_ ?_ | refine qqg ?_ ?_
   ·exact fun _ _ => rfl
   ·simp only [packed, qv, Nat.reduceEqDiff, ↓reduceIte, letter, h1, h3]
    simp
theorem lexDigit_gives (x : Int) (n : Nat) (H : Heap) : Gives Tryz.prog 86 [.int .u8 x] n H fun v n' H' => v = .bool (digit x) ∧ n' = n ∧ H' = H := by
 refine Gives.of orders ok86 (Nat.le_of_ble_eq_true rfl) ?_
 by_cases h1 : 48 ≤ x
 ·by_cases h2 : x ≤ 57
  ·repeat (first | refine qqm rfl ?_ | ((first | refine qqr ?_ | refine qqt ?_); simp only [SS, qx3, simprocAttr, h1, h2]))
   first | refine qqf ?_ ?_ | refine qqg ?_ ?_
   ·exact fun _ _ => rfl
   ·simp only [packed, qv, Nat.reduceEqDiff, ↓reduceIte, digit, h1, h2]
    simp
  ·repeat (first | refine qqm rfl ?_ | ((first | refine qqr ?_ | refine qqt ?_); simp only [SS, qx3, simprocAttr, h1, h2]))
   first | refine qqf ?_ ?_ | refine qqg ?_ ?_
   ·exact fun _ _ => rfl
   ·simp only [packed, qv, Nat.reduceEqDiff, ↓reduceIte, digit, h1, h2]
    simp
 ·repeat (first | refine qqm rfl ?_ | ((first | refine qqr ?_ | refine qqt ?_); simp only [SS, qx3, simprocAttr, h1]))
  first | refine qqf ?_ ?_ | refine qqg ?_ ?_
  ·exact fun _ _ => rfl
  ·simp only [packed, qv, Nat.reduceEqDiff, ↓reduceIte, digit, h1]
   simp
end Go.Proofs.YtihjaobjhmmboaaGreatDoor

namespace Go.Proofs.YtihjaobjhmmboaaGreatDoor
open Go.AM
set_option maxRecDepth 100000
def Fgn (H : Heap) (p : Option Addr) : Prop := ∀ x k cs ty own, p = some ⟨x, k, none⟩ → H x = .cells cs ty own → own = true → isz Tryz.prog ty = some 1
theorem Fgn.kp {n n' : Nat} {H H' : Heap} {p : Option Addr} (h : Fgn H p) (hw : WF n H) (k : Kp n H n' H') (hl : ∀ x k, p = some ⟨x, k, none⟩ → x < n) : Fgn H' p := fun x k' cs ty own e1 e2 => h x k' cs ty own e1 (by rw [← k.keep x (hl x k' e1)]; exact e2)
theorem gsymbol_gives {v : Value} {g : Gram} {s : Int} {n : Nat} {H : Heap} (hw : WF n H) (hg : RG H v g) (hs : inI s) (hl : g.vars.length ≤ maxL ∧ g.terms.length ≤ maxL) :
  Gives Tryz.prog 51 [v, .int .i64 s] n H fun v _ _ => v = .bool (if 0 ≤ s then decide (s < g.vars.length) else decide (-s - 1 < g.terms.length)) := by
 obtain ⟨pt, pv, pr, rfl, ht, hv, hr⟩ := hg
 refine Gives.of orders ok51 (Nat.le_of_ble_eq_true rfl) ?_
 have k1 := Kp.new n H (.cells (gcells pt pv pr g) 25 true)
 have hb := hset_at H n (.cells (gcells pt pv pr g) 25 true)
 unfold inI at hs
 have hn := bnot_i64 hs.1 hs.2
 repeat refine qqn rfl ?_
 (refine qqr ?_; simp only [SS, qx27, vun, simprocAttr, box_cells, box_one, ff_51])
 generalize hset H n (.cells (gcells pt pv pr g) 25 true) = H1 at *
 repeat (first | refine qqm rfl ?_ | ((first | refine qqr ?_ | refine qqt ?_); simp only [SS, qx27, vun, simprocAttr, ff_51]))
 refine AtCall.by (isVar_gives _ _ _) ?_
 rintro v n2 H2 k2 ⟨rfl, rfl, rfl⟩
 by_cases h0 : 0 ≤ s
 ·by_cases h1 : s < (g.vars.length : Int)
  ·simp only [SS, qx27, vun, simprocAttr, h0, decide_true, ff_51]
   repeat (first | refine qqm rfl ?_ | ((first | refine qqr ?_ | refine qqt ?_); simp only [SS, qx27, vun, simprocAttr, hb, gc_0, gc_1, gc_len, h1, ff_51]))
   first | refine qqf ?_ ?_ | refine qqg ?_ ?_
   ·exact k1.keep
   ·simp only [packed, qv, Nat.reduceEqDiff, ↓reduceIte, ff_51]
  ·simp only [SS, qx27, vun, simprocAttr, h0, decide_true, ff_51]
   repeat (first | refine qqm rfl ?_ | ((first | refine qqr ?_ | refine qqt ?_); simp only [SS, qx27, vun, simprocAttr, hb, gc_0, gc_1, gc_len, h1, ff_51]))
   first | refine qqf ?_ ?_ | refine qqg ?_ ?_
   ·exact k1.keep
   ·simp only [packed, qv, Nat.reduceEqDiff, ↓reduceIte, ff_51]
 ·by_cases h1 : -s - 1 < (g.terms.length : Int)
  ·simp only [SS, qx27, vun, simprocAttr, h0, decide_false, ff_51]
   repeat (first | refine qqm rfl ?_ | ((first | refine qqr ?_ | refine qqt ?_); simp only [SS, qx27, vun, simprocAttr, hb, gc_0, gc_1, gc_len, hn, h1, ff_51]))
   first | refine qqf ?_ ?_ | refine qqg ?_ ?_
   ·exact k1.keep
   ·simp only [packed, qv, Nat.reduceEqDiff, ↓reduceIte, ff_51]
  ·simp only [SS, qx27, vun, simprocAttr, h0, decide_false, ff_51]
   repeat (first | refine qqm rfl ?_ | ((first | refine qqr ?_ | refine qqt ?_); simp only [SS, qx27, vun, simprocAttr, hb, gc_0, gc_1, gc_len, hn, h1, ff_51]))
   first | refine qqf ?_ ?_ | refine qqg ?_ ?_
   ·exact k1.keep
   ·simp only [packed, qv, Nat.reduceEqDiff, ↓reduceIte, ff_51]
end Go.Proofs.YtihjaobjhmmboaaGreatDoor
