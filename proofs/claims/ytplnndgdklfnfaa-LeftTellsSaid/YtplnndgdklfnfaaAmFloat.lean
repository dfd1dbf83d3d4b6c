/- How great what floating point operations make may be, by powers of two. -/
import Derived.Test.YtplnndgdklfnfaaAmWk
set_option linter.all false
namespace Go.AM
open Ieee

/-- A number below '2 ^ (K + 1)'. -/
def Low (K : Int) (m : Nat) (e : Int) : Prop := m = 0 ∨ e + (m.log2 : Int) ≤ K

theorem Low.mono {K L : Int} {m : Nat} {e : Int} (h : Low K m e) (hl : K ≤ L) : Low L m e := by
  rcases h with h | h
  · exact .inl h
  · exact .inr (by omega)

theorem cut_even_le (neg : Bool) (n drop B : Nat) (h : n < B * 2 ^ drop) (hB : 0 < B) : Toward.cut .even neg n drop ≤ B := by
  unfold Toward.cut
  simp only
  have key : n / 1 <<< min drop (n.log2 + 2) < B := by
    rw [Nat.shiftLeft_eq, Nat.one_mul]
    rcases Nat.le_total drop (n.log2 + 2) with hd | hd
    · rw [Nat.min_eq_left hd]
      exact (Nat.div_lt_iff_lt_mul (Nat.two_pow_pos _)).2 h
    · rw [Nat.min_eq_right hd]
      have : n < 2 ^ (n.log2 + 2) := Nat.lt_of_lt_of_le Nat.lt_log2_self (Nat.pow_le_pow_right (by omega) (by omega))
      rw [Nat.div_eq_of_lt this]; exact hB
  have h1 : ∀ b : Bool, b.toNat ≤ 1 := fun b => by cases b <;> simp
  exact Nat.le_trans (Nat.add_le_add_left (h1 _) _) key

theorem low_write {K : Int} {s : Bool} {m : Nat} {e : Int} (h : Low K m e) (h0 : 0 ≤ K) (h1 : K ≤ 900) :
    ∃ m' e', Format.read double (Format.write double (.number s m e)) = .number s m' e' ∧ Low (K + 1) m' e' := by
  have rd : ∀ R : Nat, R ≤ (K + 1024).toNat * 2 ^ 52 → ∃ m' e', Format.read double (Format.word double s R) = .number s m' e' ∧ Low (K + 1) m' e' := by
    intro R hR
    have hK : (K + 1024).toNat ≤ 1924 := by omega
    have hR2 : R ≤ 1924 * 2 ^ 52 := Nat.le_trans hR (Nat.mul_le_mul_right _ hK)
    have hsw : Format.signWeight double = 2 ^ 63 := rfl
    have hbin : Format.binade double = 2 ^ 52 := rfl
    have hinf : Format.infRung double = 2047 * 2 ^ 52 := rfl
    have hlp : Format.leastPlace double = -1074 := rfl
    have hneg : (Format.word double s R / 2 ^ 63 % 2 == 1) = s := by
      unfold Format.word; rw [hsw]
      cases s
      · simp only [Bool.false_eq_true, if_false]; rw [Nat.div_eq_of_lt (by omega)]; rfl
      · simp only [if_true]; rw [show (2 ^ 63 + R) / 2 ^ 63 = 1 by omega]; rfl
    have hrung : Format.word double s R % 2 ^ 63 = R := by
      unfold Format.word; rw [hsw]
      cases s
      · simp only [Bool.false_eq_true, if_false]; omega
      · simp only [if_true]; omega
    unfold Format.read
    simp only [hsw, hbin, hinf, hlp, hneg, hrung]
    split
    · rename_i hlt
      refine ⟨_, _, rfl, ?_⟩
      rcases Nat.eq_zero_or_pos R with e | e
      · exact .inl e
      · right
        have : R.log2 < 52 := (Nat.log2_lt (by omega)).2 hlt
        omega
    · rename_i hge
      rw [if_pos (by omega)]
      refine ⟨_, _, rfl, .inr ?_⟩
      have hm : R % 2 ^ 52 < 2 ^ 52 := Nat.mod_lt _ (Nat.two_pow_pos _)
      have hl : (2 ^ 52 + R % 2 ^ 52).log2 < 53 := (Nat.log2_lt (by omega)).2 (by omega)
      have hq : R / 2 ^ 52 ≤ (K + 1024).toNat := by
        have := Nat.div_le_div_right (c := 2 ^ 52) hR
        rwa [Nat.mul_div_cancel _ (Nat.two_pow_pos _)] at this
      have hq1 : 1 ≤ R / 2 ^ 52 := by omega
      omega
  unfold Format.write Format.nearest
  simp only
  split
  · exact rd 0 (Nat.zero_le _)
  rename_i hm
  have hL : e + (m.log2 : Int) ≤ K := by rcases h with h | h; exact absurd h hm; exact h
  have hlp : Format.leastPlace double = -1074 := rfl
  have hfb : ((Format.fractionBits double : Nat) : Int) = 52 := rfl
  have hbin : Format.binade double = 2 ^ 52 := rfl
  have hinf : Format.infRung double = 2047 * 2 ^ 52 := rfl
  rw [hlp, hfb, hbin, hinf]
  generalize hlast : max (e + (m.log2 : Int) - 52) (-1074) = last
  have hl1 : e + (m.log2 : Int) - 52 ≤ last := by omega
  have hl2 : last ≤ K - 52 ∨ last = -1074 := by omega
  have hl3 : -1074 ≤ last := by omega
  have hkept : Toward.cut .even s (m <<< (e - last).toNat) (last - e).toNat ≤ 2 ^ 53 := by
    refine cut_even_le _ _ _ _ ?_ (Nat.two_pow_pos _)
    rw [Nat.shiftLeft_eq, ← Nat.pow_add]
    have h2 : m < 2 ^ (m.log2 + 1) := Nat.lt_log2_self
    calc m * 2 ^ (e - last).toNat < 2 ^ (m.log2 + 1) * 2 ^ (e - last).toNat := Nat.mul_lt_mul_of_pos_right h2 (Nat.two_pow_pos _)
      _ = 2 ^ (m.log2 + 1 + (e - last).toNat) := by rw [← Nat.pow_add]
      _ ≤ 2 ^ (53 + (last - e).toNat) := Nat.pow_le_pow_right (by omega) (by omega)
  refine rd _ (Nat.le_trans (Nat.min_le_left _ _) ?_)
  have hpl : (last - -1074).toNat ≤ (K + 1022).toNat := by omega
  calc (last - -1074).toNat * 2 ^ 52 + Toward.cut .even s (m <<< (e - last).toNat) (last - e).toNat ≤ (K + 1022).toNat * 2 ^ 52 + 2 ^ 53 := Nat.add_le_add (Nat.mul_le_mul_right _ hpl) hkept
    _ = ((K + 1022).toNat + 2) * 2 ^ 52 := by rw [Nat.add_mul]
    _ ≤ (K + 1024).toNat * 2 ^ 52 := Nat.mul_le_mul_right _ (by omega)

theorem log2_mul_le {m n : Nat} (hm : m ≠ 0) (hn : n ≠ 0) : (m * n).log2 ≤ m.log2 + n.log2 + 1 := by
  have h1 : m < 2 ^ (m.log2 + 1) := Nat.lt_log2_self
  have h2 : n < 2 ^ (n.log2 + 1) := Nat.lt_log2_self
  have : m * n < 2 ^ (m.log2 + n.log2 + 2) := by
    calc m * n < 2 ^ (m.log2 + 1) * 2 ^ (n.log2 + 1) := Nat.mul_lt_mul'' h1 h2
      _ = 2 ^ (m.log2 + n.log2 + 2) := by rw [← Nat.pow_add]; congr 1; omega
  have := (Nat.log2_lt (Nat.mul_ne_zero hm hn)).2 this
  omega

theorem low_mul {K L : Int} {x y : Nat} {s t : Bool} {m n : Nat} {e j : Int} (hx : Format.read double x = .number s m e) (hy : Format.read double y = .number t n j) (h1 : Low K m e) (h2 : Low L n j) (h0 : 0 ≤ K + L + 1) (h9 : K + L + 1 ≤ 900) :
    ∃ r m' e', Format.mul double x y = some r ∧ Format.read double r = .number (s ^^ t) m' e' ∧ Low (K + L + 2) m' e' := by
  have hl : Low (K + L + 1) (m * n) (e + j) := by
    rcases Nat.eq_zero_or_pos m with hm | hm
    · exact .inl (by simp [hm])
    rcases Nat.eq_zero_or_pos n with hn | hn
    · exact .inl (by simp [hn])
    right
    have a : e + (m.log2 : Int) ≤ K := by rcases h1 with h | h; omega; exact h
    have b : j + (n.log2 : Int) ≤ L := by rcases h2 with h | h; omega; exact h
    have := log2_mul_le (m := m) (n := n) (by omega) (by omega)
    omega
  obtain ⟨m', e', h3, h4⟩ := low_write (s := s ^^ t) hl h0 h9
  exact ⟨_, m', e', by unfold Format.mul; rw [hx, hy]; rfl, h3, h4.mono (by omega)⟩

theorem signed_abs (s : Bool) (m up : Nat) : (signed s m up).natAbs = m * 2 ^ up := by
  unfold signed
  rw [Nat.shiftLeft_eq]
  cases s <;> simp [Int.natAbs_mul, Int.natAbs_pow]

theorem low_add {K : Int} {x y : Nat} {s t : Bool} {m n : Nat} {e j : Int} (hx : Format.read double x = .number s m e) (hy : Format.read double y = .number t n j) (h1 : Low K m e) (h2 : Low K n j) (h0 : 0 ≤ K) (h9 : K ≤ 899) :
    ∃ r s' m' e', Format.add double x y = some r ∧ Format.read double r = .number s' m' e' ∧ Low (K + 2) m' e' := by
  have part : ∀ (m : Nat) (e base : Int), Low K m e → base ≤ e → m * 2 ^ (e - base).toNat < 2 ^ (K + 1 - base).toNat ∨ m = 0 := by
    intro m e base h hb
    rcases Nat.eq_zero_or_pos m with hm | hm
    · exact .inr hm
    left
    have a : e + (m.log2 : Int) ≤ K := by rcases h with h | h; omega; exact h
    have h2 : m < 2 ^ (m.log2 + 1) := Nat.lt_log2_self
    calc m * 2 ^ (e - base).toNat < 2 ^ (m.log2 + 1) * 2 ^ (e - base).toNat := Nat.mul_lt_mul_of_pos_right h2 (Nat.two_pow_pos _)
      _ = 2 ^ (m.log2 + 1 + (e - base).toNat) := by rw [← Nat.pow_add]
      _ ≤ 2 ^ (K + 1 - base).toNat := Nat.pow_le_pow_right (by omega) (by omega)
  generalize hb : min e j = base
  have hl : Low (K + 1) (signed s m (e - base).toNat + signed t n (j - base).toNat).natAbs base := by
    rcases Nat.eq_zero_or_pos (signed s m (e - base).toNat + signed t n (j - base).toNat).natAbs with h | h
    · exact .inl h
    right
    have tri := Int.natAbs_add_le (signed s m (e - base).toNat) (signed t n (j - base).toNat)
    rw [signed_abs, signed_abs] at tri
    have hbound : (signed s m (e - base).toNat + signed t n (j - base).toNat).natAbs < 2 ^ ((K + 1 - base).toNat + 1) := by
      rw [Nat.pow_succ]
      have p1 := part m e base h1 (by omega)
      have p2 := part n j base h2 (by omega)
      have pos := Nat.two_pow_pos (K + 1 - base).toNat
      rcases p1 with p1 | p1 <;> rcases p2 with p2 | p2
      · omega
      · subst p2; simp only [Nat.zero_mul] at tri; omega
      · subst p1; simp only [Nat.zero_mul] at tri; omega
      · subst p1; subst p2; simp only [Nat.zero_mul] at tri; omega
    have := (Nat.log2_lt (by omega)).2 hbound
    have hK : 0 ≤ K + 1 - base := by
      apply Classical.byContradiction
      intro hc
      have p1 := part m e base h1 (by omega)
      have p2 := part n j base h2 (by omega)
      rw [show (K + 1 - base).toNat = 0 by omega] at p1 p2
      have q1 : m = 0 := by
        rcases p1 with p1 | p1
        · have := Nat.two_pow_pos (e - base).toNat
          rcases Nat.eq_zero_or_pos m with h | h
          · exact h
          · have := Nat.mul_pos h this; omega
        · exact p1
      have q2 : n = 0 := by
        rcases p2 with p2 | p2
        · have := Nat.two_pow_pos (j - base).toNat
          rcases Nat.eq_zero_or_pos n with h | h
          · exact h
          · have := Nat.mul_pos h this; omega
        · exact p2
      subst q1; subst q2; simp only [Nat.zero_mul] at tri; omega
    omega
  obtain ⟨m', e', h3, h4⟩ := low_write (s := if signed s m (e - base).toNat + signed t n (j - base).toNat = 0 then s && t else decide (signed s m (e - base).toNat + signed t n (j - base).toNat < 0)) hl (by omega) (by omega)
  refine ⟨_, _, m', e', ?_, h3, h4.mono (by omega)⟩
  unfold Format.add
  rw [hx, hy]
  simp only [Datum.sum, hb, Option.map_some]

theorem low_int {K : Int} {s : Bool} {m : Nat} {e : Int} (h : Low K m e) (h0 : 0 ≤ K) : ∃ z, Datum.toInt .zero (.number s m e) = some z ∧ z.natAbs < 2 ^ (K + 1).toNat := by
  refine ⟨_, rfl, ?_⟩
  rw [signed_abs, Nat.pow_zero, Nat.mul_one]
  unfold Toward.cut
  simp only [Bool.toNat_false, Nat.add_zero]
  have hn : m <<< e.toNat < 2 ^ (K + 1).toNat * 2 ^ (-e).toNat := by
    rw [Nat.shiftLeft_eq]
    rcases Nat.eq_zero_or_pos m with hm | hm
    · subst hm; rw [Nat.zero_mul]; exact Nat.mul_pos (Nat.two_pow_pos _) (Nat.two_pow_pos _)
    have a : e + (m.log2 : Int) ≤ K := by rcases h with h | h; omega; exact h
    have h2 : m < 2 ^ (m.log2 + 1) := Nat.lt_log2_self
    calc m * 2 ^ e.toNat < 2 ^ (m.log2 + 1) * 2 ^ e.toNat := Nat.mul_lt_mul_of_pos_right h2 (Nat.two_pow_pos _)
      _ = 2 ^ (m.log2 + 1 + e.toNat) := by rw [← Nat.pow_add]
      _ ≤ 2 ^ ((K + 1).toNat + (-e).toNat) := Nat.pow_le_pow_right (by omega) (by omega)
      _ = _ := by rw [Nat.pow_add]
  generalize m <<< e.toNat = n at *
  rw [Nat.shiftLeft_eq, Nat.one_mul]
  rcases Nat.le_total (-e).toNat (n.log2 + 2) with hd | hd
  · rw [Nat.min_eq_left hd]
    exact (Nat.div_lt_iff_lt_mul (Nat.two_pow_pos _)).2 hn
  · rw [Nat.min_eq_right hd]
    have : n < 2 ^ (n.log2 + 2) := Nat.lt_of_lt_of_le Nat.lt_log2_self (Nat.pow_le_pow_right (by omega) (by omega))
    rw [Nat.div_eq_of_lt this]; exact Nat.two_pow_pos _


/-- Below a number that is no zero, and not below nought. -/
theorem low_order {x y : Nat} {m n : Nat} {e j : Int} (hx : Format.read double x = .number false m e) (hy : Format.read double y = .number false n j) (h : Format.order double x y = some .lt) : Low (j + (n.log2 : Int)) m e := by
  unfold Format.order at h
  rw [hx, hy] at h
  simp only [Datum.order, signed, Bool.false_eq_true, if_false, Option.some.injEq] at h
  rcases Nat.eq_zero_or_pos m with hm | hm
  · exact .inl hm
  right
  generalize hb : min e j = base at h
  rw [Nat.shiftLeft_eq, Nat.shiftLeft_eq] at h
  have hlt : m * 2 ^ (e - base).toNat < n * 2 ^ (j - base).toNat := by
    have hi : ((m * 2 ^ (e - base).toNat : Nat) : Int) < ((n * 2 ^ (j - base).toNat : Nat) : Int) := by
      apply Classical.byContradiction
      intro hc
      simp only [compare, compareOfLessAndEq, if_neg hc] at h
      split at h <;> cases h
    omega
  have h1 : 2 ^ m.log2 ≤ m := Nat.log2_self_le (by omega)
  have h2 : n < 2 ^ (n.log2 + 1) := Nat.lt_log2_self
  have h3 : 2 ^ (m.log2 + (e - base).toNat) < 2 ^ (n.log2 + 1 + (j - base).toNat) := by
    calc 2 ^ (m.log2 + (e - base).toNat) = 2 ^ m.log2 * 2 ^ (e - base).toNat := by rw [Nat.pow_add]
      _ ≤ m * 2 ^ (e - base).toNat := Nat.mul_le_mul_right _ h1
      _ < n * 2 ^ (j - base).toNat := hlt
      _ ≤ 2 ^ (n.log2 + 1) * 2 ^ (j - base).toNat := Nat.mul_le_mul_right _ (Nat.le_of_lt h2)
      _ = 2 ^ (n.log2 + 1 + (j - base).toNat) := (Nat.pow_add 2 (n.log2 + 1) (j - base).toNat).symm
  have h4 := (Nat.pow_lt_pow_iff_right (a := 2) (by omega)).1 h3
  omega

theorem read_e9 : Format.read double 4741671816366391296 = .number false 8388608000000000 (-23) := by decide
theorem read_e6 : Format.read double 4696837146684686336 = .number false 8589934592000000 (-33) := by decide
theorem read_half : Format.read double 4602678819172646912 = .number false 4503599627370496 (-53) := by decide

theorem read_zero : Format.read double 0 = .number false 0 (-1074) := by decide

theorem read_neg {b : Nat} (hb : b < 2 ^ 64) : Format.read double (b ^^^ 2 ^ 63) = (Format.read double b).opposite := by
  have h1 : (b ^^^ 2 ^ 63) % 2 ^ 63 = b % 2 ^ 63 := by rw [Nat.xor_mod_two_pow]; simp
  have h2 : (b ^^^ 2 ^ 63) / 2 ^ 63 = (b / 2 ^ 63) ^^^ 1 := by rw [Nat.xor_div_two_pow]
  have hsw : Format.signWeight double = 2 ^ 63 := rfl
  have hneg : ((b ^^^ 2 ^ 63) / 2 ^ 63 % 2 == 1) = !(b / 2 ^ 63 % 2 == 1) := by
    rw [h2]
    have hq : b / 2 ^ 63 = 0 ∨ b / 2 ^ 63 = 1 := by omega
    rcases hq with hq | hq <;> rw [hq] <;> rfl
  unfold Format.read
  simp only [hsw, h1, hneg]
  split
  · rfl
  · split
    · rfl
    · split <;> rfl

theorem told_ok {a : Nat} (h : Format.order double a 4741671816366391296 = some .lt) (hs : ∀ m e, Format.read double a = .number true m e → m = 0) (hi : Format.read double a ≠ .infinity true) :
    ∃ r1 r2 z, Format.mul double a 4696837146684686336 = some r1 ∧ Format.add double r1 4602678819172646912 = some r2 ∧ (Format.read double r2).toInt .zero = some z ∧ z.natAbs < 2 ^ 60 := by
  have key : ∃ s m e, Format.read double a = .number s m e ∧ Low 29 m e := by
    cases hr : Format.read double a with
    | nan s t => unfold Format.order at h; rw [hr] at h; simp [Datum.order] at h
    | infinity s =>
      unfold Format.order at h
      rw [hr, read_e9] at h
      cases s
      · simp [Datum.order] at h
      · exact absurd hr hi
    | number s m e =>
      refine ⟨s, m, e, rfl, ?_⟩
      cases s with
      | true => exact .inl (hs m e hr)
      | false =>
        have := low_order hr read_e9 h
        exact this.mono (by decide)
  obtain ⟨s, m, e, h1, h2⟩ := key
  obtain ⟨r1, m1, e1, a1, a2, a3⟩ := low_mul h1 read_e6 h2 (L := 20) (.inr (by decide)) (by omega) (by omega)
  obtain ⟨r2, s2, m2, e2, b1, b2, b3⟩ := low_add a2 read_half (a3.mono (by omega : _ ≤ (52 : Int))) (.inr (by decide)) (by omega) (by omega)
  obtain ⟨z, c1, c2⟩ := low_int (s := s2) b3 (by omega)
  refine ⟨r1, r2, z, a1, b1, by rw [b2]; exact c1, Nat.lt_of_lt_of_le c2 (Nat.pow_le_pow_right (by omega) (by omega))⟩

theorem div_ok (k : Int) (hk : k.natAbs < 2 ^ 64) : ∃ q, Format.div double (FloatKind.nearest .f64 k) 4696837146684686336 = some q := by
  have hl : Low 64 k.natAbs 0 := by
    rcases Nat.eq_zero_or_pos k.natAbs with h | h
    · exact .inl h
    · have := (Nat.log2_lt (by omega)).2 hk
      exact .inr (by omega)
  obtain ⟨m, e, h1, h2⟩ := low_write (s := decide (k < 0)) hl (by omega) (by omega)
  have hd : ∃ d, Datum.quotient (double.fractionBits + 2) (Format.read double (Format.write double (.number (decide (k < 0)) k.natAbs 0))) (Format.read double 4696837146684686336) = some d := by
    rw [h1, read_e6]
    exact ⟨_, rfl⟩
  obtain ⟨d, hd⟩ := hd
  refine ⟨Format.write double d, ?_⟩
  show (Datum.quotient (double.fractionBits + 2) (Format.read double (Format.write double (.number (decide (k < 0)) k.natAbs 0))) (Format.read double 4696837146684686336)).map _ = _
  rw [hd]; rfl

/-- What stands ahead of nought, turned round, or what does not: no infinite one below nought, and none below it. -/
theorem pos_ok {b : Nat} (h : Format.order double b 0 ≠ some .lt) : (∀ m e, Format.read double b = .number true m e → m = 0) ∧ Format.read double b ≠ .infinity true := by
  unfold Format.order at h
  rw [read_zero] at h
  constructor
  · intro m e hr
    rw [hr] at h
    apply Classical.byContradiction
    intro hm
    apply h
    simp only [Datum.order, signed, Option.some.injEq]
    simp only [if_true, Bool.false_eq_true, if_false, Nat.zero_shiftLeft, Nat.shiftLeft_eq]
    have hp : 0 < m * 2 ^ (e - min e (-1074)).toNat := Nat.mul_pos (by omega) (Nat.two_pow_pos _)
    simp only [compare, compareOfLessAndEq]
    rw [if_pos (by omega)]
  · intro hr
    rw [hr] at h
    exact h rfl

theorem neg_ok {b : Nat} (hb : b < 2 ^ 64) (h : Format.order double b 0 = some .lt) (h9 : Format.order double (b ^^^ 2 ^ 63) 4741671816366391296 = some .lt) :
    (∀ m e, Format.read double (b ^^^ 2 ^ 63) = .number true m e → m = 0) ∧ Format.read double (b ^^^ 2 ^ 63) ≠ .infinity true := by
  have hn := read_neg hb
  unfold Format.order at h
  rw [read_zero] at h
  constructor
  · intro m e hr
    rw [hn] at hr
    cases hrb : Format.read double b with
    | nan s t => rw [hrb] at hr; cases hr
    | infinity s => rw [hrb] at hr; cases hr
    | number s m' e' =>
      rw [hrb] at hr h
      simp only [Datum.opposite, Datum.number.injEq, Bool.not_eq_true'] at hr
      obtain ⟨rfl, rfl, rfl⟩ := hr
      exfalso
      simp only [Datum.order, signed, Bool.false_eq_true, if_false, Option.some.injEq, Nat.zero_shiftLeft] at h
      generalize m' <<< (e' - min e' (-1074)).toNat = q at h
      simp only [compare, compareOfLessAndEq] at h
      rw [if_neg (by omega)] at h
      split at h <;> cases h
  · intro hr
    rw [hn] at hr
    cases hrb : Format.read double b with
    | nan s t => rw [hrb] at hr; cases hr
    | number s m' e' => rw [hrb] at hr; cases hr
    | infinity s =>
      rw [hrb] at hr h
      cases s
      · cases h
      · cases hr

end Go.AM
