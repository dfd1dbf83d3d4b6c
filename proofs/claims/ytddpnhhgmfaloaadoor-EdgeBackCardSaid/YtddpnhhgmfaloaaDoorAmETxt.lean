/- A part of a proof. Its conditions: none. -/
import Derived.Test.YtddpnhhgmfaloaaDoorAmERLaw
set_option linter.all false
namespace Go.Proofs.YtddpnhhgmfaloaaDoor
open Go.AM Ieee
set_option maxRecDepth 100000

theorem xor_top (b : Nat) (h : b < 2 ^ 63) : b ^^^ 2 ^ 63 = 2 ^ 63 + b := by
  apply Nat.eq_of_testBit_eq
  intro i
  rw [Nat.testBit_xor, Nat.testBit_two_pow]
  by_cases h1 : i < 63
  · rw [Nat.testBit_two_pow_add_gt h1]
    have : decide (63 = i) = false := by simp; omega
    rw [this, Bool.xor_false]
  · by_cases h2 : i = 63
    · subst h2
      rw [Nat.testBit_two_pow_add_eq]
      simp
    · have h3 : 2 ^ 64 ≤ 2 ^ i := Nat.pow_le_pow_right (by omega) (by omega)
      rw [Nat.testBit_lt_two_pow (by omega), Nat.testBit_lt_two_pow (by omega)]
      simp; omega
theorem neg_word {neg : Bool} {E F : Nat} (hE : E ≤ 2046) (hF : F < 4503599627370496) : Op.negFloat .f64 (word neg E F) = word (!neg) E F := by
  have hx := xor_top (E * 4503599627370496 + F) (by omega)
  have e : ∀ b : Nat, Op.negFloat .f64 b = b ^^^ 2 ^ 63 := fun b => rfl
  rw [e]
  cases neg with
  | false =>
    have h1 : word false E F = E * 4503599627370496 + F := by unfold word; simp
    have h2 : word (!false) E F = 2 ^ 63 + (E * 4503599627370496 + F) := by unfold word; simp; omega
    rw [h1, h2]; exact hx
  | true =>
    have h1 : word (!true) E F = E * 4503599627370496 + F := by unfold word; simp
    have h2 : word true E F = 2 ^ 63 + (E * 4503599627370496 + F) := by unfold word; simp; omega
    rw [h1, h2, ← hx, Nat.xor_assoc, Nat.xor_self, Nat.xor_zero]
theorem real_word {neg : Bool} {E F : Nat} (hE : E ≤ 2046) (hF : F < 4503599627370496) : realB (word neg E F) = true ∧ word neg E F < 18446744073709551616 ∧ nanB (word neg E F) = false := by
  have h1 : word neg E F < 18446744073709551616 := by unfold word; cases neg <;> simp <;> omega
  have h2 : nanB (word neg E F) = false := by
    rw [nanB_eq h1]
    have : word neg E F % 9223372036854775808 = E * 4503599627370496 + F := by unfold word; cases neg <;> simp <;> omega
    rw [this]
    exact decide_eq_false (by omega)
  exact ⟨by rw [realB_eq h1, h2]; rfl, h1, h2⟩

/-- What lies in the package's variables. -/
def GH (n : Nat) (H : Heap) : Prop := WF n H ∧ ∀ x, G x ≠ .dead → H x = G x
theorem G4 : G 4 = .cells pows 124 false := by
  unfold G; rfl
theorem G3 : G 3 = .cells tens 114 false := by
  unfold G; rfl
theorem GH.keep {n n' : Nat} {H H' : Heap} (h : GH n H) (hk : Kp n H n' H') : GH n' H' := by
  refine ⟨hk.wf h.1, fun x hx => ?_⟩
  rw [hk.keep x ?_, h.2 x hx]
  apply Decidable.byContradiction
  intro hlt
  have := h.2 x hx
  rw [h.1 x (by omega)] at this
  exact hx this.symm

theorem text_word {neg : Bool} {E F : Nat} (hE : E ≤ 2046) (hF : F < 4503599627370496) {n : Nat} {H : Heap} {R : List Nat → Prop} (hw : GH n H)
    (hft : ∀ n H1, GH (n + 1) H1 → H1 n = .cells [] 5 true → GivesX Tryd.prog (fun z => z = n) 50 [.slice (some ⟨n, 0, none⟩) 0 0, .float .f64 (word neg E F), .int .u8 102, .int .i64 (-1)] (n + 1) H1 fun v n' H' =>
      ∃ out, R out ∧ ∃ y, v = .slice (some ⟨y, 0, none⟩) out.length out.length ∧ H' y = .cells (out.map bv) 5 true) :
    Gives Tryd.prog 22 [.float .f64 (word neg E F)] n H fun v n' H' => ∃ out, R out ∧ v = .string (toBA out) := by
  refine text_fin (real_word hE hF).1 (order_max hE hF) (by rw [neg_word hE hF]; exact order_max hE hF) ?_
  intro n' H' hk
  refine format_of ?_ (hk.wf hw.1)
  intro H1 h1 hwf hkeep
  have g' := hw.keep hk
  refine hft n' H1 ⟨hwf, fun x hx => ?_⟩ h1
  have hlt : x < n' := by
    apply Decidable.byContradiction
    intro hlt
    have := g'.2 x hx
    rw [g'.1 x (by omega)] at this
    exact hx this.symm
  rw [hkeep x hlt, g'.2 x hx]

theorem toBA_eq (out : List Nat) : toBA out = BA (out.map UInt8.ofNat) := rfl
theorem short_eq {l : List UInt8} (h : okE l = true) : shortL l = sgn (hasMinus l) ++ hs l ++ fracL (ts l) := by
  unfold shortL sgn fracL; rw [h, if_pos rfl]

/-- Nothing but noughts. -/
theorem val_zero {l : List UInt8} (hall : l.all isD = true) (h : valL l = 0) : ∀ (i : Nat) (b : UInt8), l[i]? = some b → b = 48 := by
  intro i b hb
  have := chr_at hall hb
  rw [h] at this
  simp at this
  exact this.symm

theorem fwE_zero {l : List UInt8} (h : okE l = true) (h0 : valL (hs l ++ ts l) = 0) : fwE l = word (hasMinus l) 0 0 ∧ hs l = [48] ∧ trimZ (ts l) = [] := by
  obtain ⟨hda, hd1, hd2, hl0, hta, htl6, _⟩ := ok_facts h
  have hall : (hs l ++ ts l).all isD = true := by rw [List.all_append, hda, hta]; rfl
  have hz := val_zero hall h0
  refine ⟨?_, ?_, ?_⟩
  · unfold fwE quo word
    have hzd := eq_of_beq (List.all_eq_true.1 zero_div (ts l).length (List.mem_range.2 (by omega)))
    rw [h0, hzd]
    cases hasMinus l <;> rfl
  · cases hc : hs l with
    | nil => rw [hc] at hd1; simp at hd1
    | cons a h' =>
      have ha : a = 48 := hz 0 a (by rw [hc]; rfl)
      rw [hc, ha] at hl0
      cases h' with
      | nil => rw [ha]
      | cons b h'' => simp [lead0] at hl0
  · have := trim_take (t := ts l) (r := 0) (Nat.zero_le _) (fun j _ b hb => hz ((hs l).length + j) b (by rw [List.getElem?_append_right (by omega), Nat.add_sub_cancel_left]; exact hb)) (.inl rfl)
    rw [← this]; rfl

theorem fwE_word {l : List UInt8} (h : okE l = true) (h0 : valL (hs l ++ ts l) ≠ 0) :
    ∃ M t : Nat, fwE l = word (hasMinus l) (1075 - t) (M - 2 ^ 52) ∧ 2 ^ 52 ≤ M ∧ M < 2 ^ 53 ∧ 23 ≤ t ∧ t ≤ 72 ∧ Near (valL (hs l ++ ts l)) (10 ^ (ts l).length) M t := by
  obtain ⟨hda, hd1, hd2, hl0, hta, htl6, _⟩ := ok_facts h
  have hall : (hs l ++ ts l).all isD = true := by rw [List.all_append, hda, hta]; rfl
  have hlt := valL_lt _ hall
  have hb : valL (hs l ++ ts l) < 10 ^ 9 * 10 ^ (ts l).length := by
    refine Nat.lt_of_lt_of_le hlt ?_
    rw [← Nat.pow_add]
    exact Nat.pow_le_pow_right (by omega) (by rw [List.length_append]; omega)
  obtain ⟨M, t, hd, hM1, hM2, ht1, ht2, hn⟩ := div_ten (n := valL (hs l ++ ts l)) (k := (ts l).length) (by omega) htl6 hb
  refine ⟨M, t, ?_, hM1, hM2, ht1, ht2, hn⟩
  unfold fwE quo word
  rw [hd, Option.getD_some]
  unfold wd
  have : (-(t : Int) + 1074).toNat = 1074 - t := by omega
  rw [this]
  cases hasMinus l <;> simp <;> omega

/-- THE TEXT of a weight that was read. -/
theorem text_gives {l : List UInt8} (h : okE l = true) {n : Nat} {H : Heap} (hw : GH n H) : Gives Tryd.prog 22 [.float .f64 (fwE l)] n H fun v n' H' => v = .string (BA (shortL l)) := by
  obtain ⟨hda, hd1, hd2, hl0, hta, htl6, _⟩ := ok_facts h
  have conv : ∀ {R : List Nat → Prop}, (∀ out, R out → out.map UInt8.ofNat = shortL l) → (Gives Tryd.prog 22 [.float .f64 (fwE l)] n H fun v n' H' => ∃ out, R out ∧ v = .string (toBA out)) → Gives Tryd.prog 22 [.float .f64 (fwE l)] n H fun v n' H' => v = .string (BA (shortL l)) := by
    rintro R hR ⟨v, n', H', a, b, out, ho, e⟩
    exact ⟨v, n', H', a, b, by rw [e, toBA_eq, hR out ho]⟩
  by_cases h0 : valL (hs l ++ ts l) = 0
  · obtain ⟨e1, e2, e3⟩ := fwE_zero h h0
    refine conv (R := fun out => out = fmtS (hasMinus l) (fun _ => 0) 0 0 (-1)) ?_ ?_
    · rintro out rfl
      rw [short_eq h, e2]
      unfold fracL
      rw [e3, if_pos rfl]
      cases hasMinus l <;> rfl
    · rw [e1]
      refine text_word (by omega) (by omega) hw ?_
      intro n1 H1 g1 hc
      obtain ⟨v, n', H', a, b, y, e, c⟩ := ftoa_zero (b := word (hasMinus l) 0 0) (neg := hasMinus l) rfl hc (Nat.lt_succ_self n1)
      exact ⟨v, n', H', a, b, _, rfl, y, e, c⟩
  · obtain ⟨M, t, e1, hM1, hM2, ht1, ht2, hn⟩ := fwE_word h h0
    refine conv (R := fun out => ∃ P nz : Nat, 7 ≤ P ∧ P ≤ 23 ∧ Trim (valL (hs l ++ ts l) * 10 ^ (P - 1 - (ts l).length)) nz ∧ valL (hs l ++ ts l) * 10 ^ (P - 1 - (ts l).length) < 9223372036854775808 ∧ out = outS (hasMinus l) (valL (hs l ++ ts l) * 10 ^ (P - 1 - (ts l).length)) nz (P - 1)) ?_ ?_
    · rintro out ⟨P, nz, hP1, hP2, htr, hdb, rfl⟩
      rw [short_eq h]
      exact out_short hda hd1 hl0 hta (by omega) h0 htr hdb
    · rw [e1]
      refine text_word (by omega) (by omega) hw ?_
      intro n1 H1 g1 hc
      obtain ⟨v, n', H', a, b, P, nz, p1, p2, p3, p4, y, e, c⟩ := ftoa_gives (b := word (hasMinus l) (1075 - t) (M - 2 ^ 52)) (neg := hasMinus l) htl6 ht1 ht2 hM1 hM2 hn h0 rfl hc (Nat.lt_succ_self n1) g1.1 ((g1.2 _ (by rw [G4]; simp)).trans G4) ((g1.2 _ (by rw [G3]; simp)).trans G3)
      exact ⟨v, n', H', a, b, _, ⟨P, nz, p1, p2, p3, p4, rfl⟩, y, e, c⟩
end Go.Proofs.YtddpnhhgmfaloaaDoor
