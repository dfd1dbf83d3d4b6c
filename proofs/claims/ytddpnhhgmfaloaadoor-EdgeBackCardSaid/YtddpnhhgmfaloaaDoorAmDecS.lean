/- A part of a proof. Its conditions: none. -/
import Derived.Test.YtddpnhhgmfaloaaDoorAmDec
import GoSem.PinnedTables
set_option linter.all false
/- Of a double near n / 10 ^ k: the shortest decimal that lies in its interval, as the program works it out. -/
namespace Go.AM
set_option maxRecDepth 20000

theorem odd_ten (c n k z : Nat) (hc : c % 2 = 1) (hk : k ≤ 6) (hz : 6 < z) : c * 10 ^ k ≠ n * 2 ^ z := by
  intro h
  have e1 : (10 : Nat) ^ k = 5 ^ k * 2 ^ k := by rw [← Nat.mul_pow]
  have e2 : (2 : Nat) ^ z = 2 ^ (z - k - 1) * 2 * 2 ^ k := by rw [← Nat.pow_succ, ← Nat.pow_add]; congr 1; omega
  rw [e1, e2, ← Nat.mul_assoc, ← Nat.mul_assoc, ← Nat.mul_assoc] at h
  have h2 := Nat.eq_of_mul_eq_mul_right (Nat.two_pow_pos k) h
  have h3 : (c * 5 ^ k) % 2 = 1 := by
    rw [Nat.mul_mod, Nat.pow_mod, hc]; simp
  rw [h2, Nat.mul_mod_left] at h3
  omega

/-- n / d lies nearer to M * 2 ^ -t than to any other double. -/
def Near (n d M t : Nat) : Prop := n * 2 ^ (t + 1) < (2 * M + 1) * d ∧ (M = 2 ^ 52 → (4 * M - 1) * d < n * 2 ^ (t + 2)) ∧ (M ≠ 2 ^ 52 → (2 * M - 1) * d < n * 2 ^ (t + 1))

theorem Near.scale {n d M t : Nat} (h : Near n d M t) (c : Nat) (hc : 0 < c) : Near (n * c) (d * c) M t := by
  obtain ⟨a, b, b'⟩ := h
  refine ⟨?_, fun e => ?_, fun e => ?_⟩
  · rw [Nat.mul_right_comm, ← Nat.mul_assoc]; exact Nat.mul_lt_mul_of_pos_right a hc
  · rw [Nat.mul_right_comm, ← Nat.mul_assoc]; exact Nat.mul_lt_mul_of_pos_right (b e) hc
  · rw [Nat.mul_right_comm, ← Nat.mul_assoc]; exact Nat.mul_lt_mul_of_pos_right (b' e) hc

theorem near_le {n d M t M' t' : Nat} (hd : 0 < d) (h : Near n d M t) (h' : Near n d M' t') (hM : 2 ^ 52 ≤ M) (hM' : 2 ^ 52 ≤ M' ∧ M' < 2 ^ 53) : t' ≤ t := by
  refine Decidable.byContradiction fun hlt => ?_
  have low : (2 ^ 54 - 1) * d < n * 2 ^ (t + 2) := by
    by_cases e : M = 2 ^ 52
    · have := h.2.1 e
      rw [e] at this; exact this
    · have := h.2.2 e
      have h2 : (2 ^ 53 + 1) * d ≤ (2 * M - 1) * d := Nat.mul_le_mul_right _ (by omega)
      rw [show (2 : Nat) ^ (t + 2) = 2 ^ (t + 1) * 2 from Nat.pow_succ 2 (t + 1), ← Nat.mul_assoc]
      have h3 : (2 ^ 54 - 1) * d ≤ (2 ^ 53 + 1) * d * 2 := by rw [Nat.mul_right_comm]; exact Nat.mul_le_mul_right _ (by omega)
      omega
  have up : n * 2 ^ (t' + 1) < (2 ^ 54 - 1) * d := Nat.lt_of_lt_of_le h'.1 (Nat.mul_le_mul_right _ (by omega))
  have : n * 2 ^ (t + 2) ≤ n * 2 ^ (t' + 1) := Nat.mul_le_mul_left _ (Nat.pow_le_pow_right (by omega) (by omega))
  omega

theorem near_unique {n d n' d' M t M' t' : Nat} (hd : 0 < d) (hd' : 0 < d') (hr : n * d' = n' * d) (h : Near n d M t) (h' : Near n' d' M' t') (hM : 2 ^ 52 ≤ M ∧ M < 2 ^ 53) (hM' : 2 ^ 52 ≤ M' ∧ M' < 2 ^ 53) : M = M' ∧ t = t' := by
  have a := h.scale d' hd'
  have b := h'.scale d hd
  rw [← hr, Nat.mul_comm d' d] at b
  generalize n * d' = R at a b
  have hD : 0 < d * d' := Nat.mul_pos hd hd'
  generalize d * d' = D at a b hD
  have t1 := near_le hD a b hM.1 hM'
  have t2 := near_le hD b a hM'.1 hM
  have te : t = t' := by omega
  subst te
  refine ⟨?_, rfl⟩
  have one : ∀ {M M' : Nat}, Near R D M t → Near R D M' t → 2 ^ 52 ≤ M → 2 ^ 52 ≤ M' → M ≤ M' := by
    intro M M' a b hM hM'
    by_cases e : M = 2 ^ 52
    · omega
    · have l := a.2.2 e
      have u := b.1
      have := Nat.lt_of_mul_lt_mul_right (Nat.lt_trans l u)
      omega
  have := one a b hM.1 hM'.1
  have := one b a hM'.1 hM.1
  omega

/-- What the scaled value is (the same as in the walk). -/
def usc (x hi lo s : Nat) : Nat :=
  if x * hi / 18446744073709551616 / 2 ^ s * 2 ^ s = x * hi / 18446744073709551616 then
    (x * hi / 18446744073709551616 + 18446744073709551616 - (decide (x * hi % 18446744073709551616 < x * lo / 18446744073709551616)).toNat) % 18446744073709551616 / 2 ^ s |||
      (decide (1 < (x * hi % 18446744073709551616 + 18446744073709551616 - x * lo / 18446744073709551616) % 18446744073709551616)).toNat
  else x * hi / 18446744073709551616 / 2 ^ s ||| 1

theorem or_one (n : Nat) : n ||| 1 = n / 2 * 2 + 1 := by
  have h1 : (n ||| 1) % 2 = 1 := by rw [Nat.or_mod_two_eq_one]; simp
  have h2 : (n ||| 1) / 2 = n / 2 := by
    rw [Nat.or_div_two]; simp
  omega

theorem usc_spec {x hi s D : Nat} (hx : x % 2 = 0) (hxl : x < 18446744073709551616) (hhi : hi < 18446744073709551616) (hD : D = 2 ^ (64 + s)) :
    (usc x hi 0 s = x * hi / D ∧ x * hi % D = 0) ∨ (usc x hi 0 s = x * hi / D / 2 * 2 + 1 ∧ x * hi % D ≠ 0) := by
  have hT : x * hi < 18446744073709551616 * 18446744073709551616 := Nat.mul_lt_mul'' hxl hhi
  have hev : x * hi % 2 = 0 := by rw [Nat.mul_mod, hx]; simp
  unfold usc
  generalize x * hi = T at *
  have hD2 : D = 18446744073709551616 * 2 ^ s := by rw [hD, Nat.pow_add]
  have hF : T / D = T / 18446744073709551616 / 2 ^ s := by rw [hD2, Nat.div_div_eq_div_mul]
  have hm : T % D = T % 18446744073709551616 + 18446744073709551616 * (T / 18446744073709551616 % 2 ^ s) := by rw [hD2, Nat.mod_mul]
  have hA : T / 18446744073709551616 < 18446744073709551616 := Nat.div_lt_of_lt_mul hT
  rw [hF, hm]
  have hps := Nat.two_pow_pos s
  have hdm := Nat.div_add_mod (T / 18446744073709551616) (2 ^ s)
  rw [Nat.mul_comm] at hdm
  generalize hAA : T / 18446744073709551616 = A at *
  have hmid : T % 18446744073709551616 % 2 = 0 := by omega
  generalize hMM : T % 18446744073709551616 = Mid at *
  have hMl : Mid < 18446744073709551616 := by omega
  by_cases h1 : A / 2 ^ s * 2 ^ s = A
  · have h0 : A % 2 ^ s = 0 := by omega
    rw [if_pos h1, h0]
    simp only [Nat.mul_zero, Nat.zero_div, Nat.not_lt_zero, decide_false, Bool.toNat_false, Nat.sub_zero, Nat.add_mod_right, Nat.mod_eq_of_lt hA, Nat.mod_eq_of_lt hMl, Nat.add_zero]
    by_cases hM0 : Mid = 0
    · left; rw [hM0]; simp
    · right
      have : decide (1 < Mid) = true := by simp; omega
      rw [this]
      exact ⟨or_one _, hM0⟩
  · rw [if_neg h1]
    right
    refine ⟨or_one _, ?_⟩
    have : A % 2 ^ s ≠ 0 := by omega
    omega

theorem usc_below {x hi s D N : Nat} (hx : x % 2 = 0) (hxl : x < 18446744073709551616) (hhi : hi < 18446744073709551616) (hD : D = 2 ^ (64 + s)) (h : x * hi < 4 * N * D) : usc x hi 0 s + 1 ≤ 4 * N := by
  have hDp : 0 < D := by rw [hD]; exact Nat.two_pow_pos _
  have hF : x * hi / D < 4 * N := (Nat.div_lt_iff_lt_mul hDp).2 h
  rcases usc_spec hx hxl hhi hD with ⟨e, _⟩ | ⟨e, _⟩ <;> rw [e] <;> omega

theorem usc_above {x hi s D N : Nat} (hx : x % 2 = 0) (hxl : x < 18446744073709551616) (hhi : hi < 18446744073709551616) (hD : D = 2 ^ (64 + s)) (h : 4 * N * D < x * hi) : 4 * N + 1 ≤ usc x hi 0 s ∧ 4 * (usc x hi 0 s / 4) * D ≤ x * hi := by
  have hDp : 0 < D := by rw [hD]; exact Nat.two_pow_pos _
  have hF : 4 * N ≤ x * hi / D := (Nat.le_div_iff_mul_le hDp).2 (Nat.le_of_lt h)
  have hdm := Nat.div_add_mod (x * hi) D
  have hback : ∀ q, q ≤ x * hi / D → q * D ≤ x * hi := fun q hq => (Nat.le_div_iff_mul_le hDp).1 hq
  rcases usc_spec hx hxl hhi hD with ⟨e, h0⟩ | ⟨e, _⟩ <;> rw [e]
  · refine ⟨?_, hback _ (by omega)⟩
    refine Decidable.byContradiction fun hn => ?_
    have : x * hi / D = 4 * N := by omega
    rw [this, h0, Nat.mul_comm D] at hdm
    omega
  · exact ⟨by omega, hback _ (by omega)⟩

theorem usc_small {x hi s D : Nat} (hx : x % 2 = 0) (hxl : x < 18446744073709551616) (hhi : hi < 18446744073709551616) (hD : D = 2 ^ (64 + s)) (hs : 1 ≤ s) : usc x hi 0 s < 18446744073709551600 := by
  have hDp : 0 < D := by rw [hD]; exact Nat.two_pow_pos _
  have hT : x * hi < 18446744073709551616 * 18446744073709551616 := Nat.mul_lt_mul'' hxl hhi
  have hD1 : 2 * 18446744073709551616 ≤ D := by
    have h65 : 2 * 18446744073709551616 = 2 ^ 65 := by simp only [Nat.reduceMul, Nat.reducePow]
    rw [hD, h65]; exact Nat.pow_le_pow_right (by omega) (by omega)
  have hF : x * hi / D < 9223372036854775808 := by
    refine (Nat.div_lt_iff_lt_mul hDp).2 (Nat.lt_of_lt_of_le hT ?_)
    clear hD
    generalize D = E at *
    omega
  rcases usc_spec hx hxl hhi hD with ⟨e, _⟩ | ⟨e, _⟩ <;> rw [e] <;> omega

theorem ac1 (c B hi A K P Q : Nat) (hq : hi * A = P * Q) : c * B * hi * (A * K) = c * K * (P * (Q * B)) := by
  calc c * B * hi * (A * K) = c * B * K * (hi * A) := by ac_rfl
    _ = c * K * (P * (Q * B)) := by rw [hq]; ac_rfl
theorem ac2 (n P' F D A K P Z Q B : Nat) (h2 : F * D * A = Z * Q * B) (hp : P = P' * K) : F * (n * P') * D * (A * K) = n * Z * (P * (Q * B)) := by
  calc F * (n * P') * D * (A * K) = n * (P' * K) * (F * D * A) := by ac_rfl
    _ = n * Z * (P * (Q * B)) := by rw [← hp, h2]; ac_rfl

theorem sc_lt {n c k p q z j s hi : Nat} (hq : hi * 2 ^ 100 = 10 ^ p * 2 ^ q) (hk : k ≤ p) (hs : z + j + q = 166 + s) :
    (n * 2 ^ z < c * 10 ^ k → 4 * (n * 10 ^ (p - k)) * 2 ^ (64 + s) < c * 2 ^ j * hi) ∧ (c * 10 ^ k < n * 2 ^ z → c * 2 ^ j * hi < 4 * (n * 10 ^ (p - k)) * 2 ^ (64 + s)) := by
  have e1 : c * 2 ^ j * hi * (2 ^ 100 * 10 ^ k) = c * 10 ^ k * (10 ^ p * (2 ^ q * 2 ^ j)) := ac1 _ _ _ _ _ _ _ hq
  have e2 : 4 * (n * 10 ^ (p - k)) * 2 ^ (64 + s) * (2 ^ 100 * 10 ^ k) = n * 2 ^ z * (10 ^ p * (2 ^ q * 2 ^ j)) := by
    refine ac2 _ _ _ _ _ _ _ _ _ _ ?_ ?_
    · rw [show (4 : Nat) = 2 ^ 2 from rfl, ← Nat.pow_add, ← Nat.pow_add, ← Nat.pow_add, ← Nat.pow_add]; congr 1; omega
    · rw [← Nat.pow_add]; congr 1; omega
  have hX : 0 < 2 ^ 100 * 10 ^ k := Nat.mul_pos (Nat.two_pow_pos _) (Nat.pow_pos (by omega))
  have hY : 0 < 10 ^ p * (2 ^ q * 2 ^ j) := Nat.mul_pos (Nat.pow_pos (by omega)) (Nat.mul_pos (Nat.two_pow_pos _) (Nat.two_pow_pos _))
  constructor
  · intro h
    refine Nat.lt_of_mul_lt_mul_right (a := 2 ^ 100 * 10 ^ k) ?_
    rw [e1, e2]; exact Nat.mul_lt_mul_of_pos_right h hY
  · intro h
    refine Nat.lt_of_mul_lt_mul_right (a := 2 ^ 100 * 10 ^ k) ?_
    rw [e1, e2]; exact Nat.mul_lt_mul_of_pos_right h hY

/-- The power of ten and the shift that the program takes at the place -t. -/
def pT (skew : Bool) (t : Nat) : Int := if skew then -((-(t : Int)) * 631305 - 261663).fdiv (2 ^ 21) else -((-(t : Int)) * 78913).fdiv (2 ^ 18)
def sT (skew : Bool) (t : Nat) : Int := -((-(t : Int) - 11) + (pT skew t * 108853).fdiv (2 ^ 15) + 3)
def hiT (p : Int) : Nat := (Go.Pinned.pow10Rows.getD (p + 348).toNat (0, 0)).1
def loT (p : Int) : Nat := (Go.Pinned.pow10Rows.getD (p + 348).toNat (0, 0)).2
def chk (skew : Bool) (t : Nat) : Bool :=
  decide (7 ≤ pT skew t) && decide (pT skew t ≤ 23) && decide (1 ≤ sT skew t) && decide (sT skew t < 64) && (loT (pT skew t) == 0) && decide (hiT (pT skew t) < 18446744073709551616) &&
    (hiT (pT skew t) * 2 ^ 100 == 10 ^ (pT skew t).toNat * 2 ^ (155 + (sT skew t).toNat - t)) && decide (t ≤ 155) && decide ((if skew then 1536 else 2048) * hiT (pT skew t) < 40 * 2 ^ (64 + (sT skew t).toNat))
theorem chk_all : (List.range 50).all (fun t => chk true (t + 23) && chk false (t + 23)) = true := by kernel_rfl
theorem chk_at (skew : Bool) (t : Nat) (h1 : 23 ≤ t) (h2 : t ≤ 72) : chk skew t = true := by
  have := List.all_eq_true.1 chk_all (t - 23) (List.mem_range.2 (by omega))
  rw [show t - 23 + 23 = t by omega, Bool.and_eq_true] at this
  cases skew
  · exact this.2
  · exact this.1

/-- What is left once the interval is known: the decimal is n * 10 ^ (p - k) without its last digit. -/
theorem short_core {n k p s hi mn mx odd W D : Nat} (hk : k + 1 ≤ p) (hs : 1 ≤ s) (hhi : hi < 18446744073709551616) (hmn : mn % 2 = 0) (hmx : mx % 2 = 0) (hmxl : mx < 18446744073709551616) (hmm : mn ≤ mx)
    (hD : D = 2 ^ (64 + s)) (h1 : mn * hi < 4 * (n * 10 ^ (p - k)) * D) (h2 : 4 * (n * 10 ^ (p - k)) * D < mx * hi) (hW : W = mx - mn) (hw : W * hi < 40 * D) (ho : odd < 2) :
    usc mn hi 0 s < 18446744073709551600 ∧ usc mx hi 0 s < 18446744073709551600 ∧ odd ≤ usc mx hi 0 s ∧ (usc mn hi 0 s + odd + 3) / 4 ≤ (usc mx hi 0 s - odd) / 4 / 10 * 10 ∧
      (usc mx hi 0 s - odd) / 4 / 10 = n * 10 ^ (p - 1 - k) := by
  have hDp : 0 < D := by rw [hD]; exact Nat.two_pow_pos _
  have hN : n * 10 ^ (p - k) = 10 * (n * 10 ^ (p - 1 - k)) := by
    rw [show p - k = (p - 1 - k) + 1 by omega, Nat.pow_succ, ← Nat.mul_assoc, Nat.mul_comm]
  rw [hN] at h1 h2
  generalize n * 10 ^ (p - 1 - k) = N' at *
  have a := usc_below hmn (by omega) hhi hD h1
  obtain ⟨b, b'⟩ := usc_above hmx hmxl hhi hD h2
  have s1 := usc_small hmn (by omega) hhi hD hs
  have s2 := usc_small hmx hmxl hhi hD hs
  generalize usc mn hi 0 s = U1 at *
  generalize usc mx hi 0 s = U2 at *
  have hmxe : mx * hi = mn * hi + W * hi := by rw [← Nat.add_mul]; congr 1; omega
  have hup : 4 * (U2 / 4) * D < (4 * (10 * N') + 40) * D := by rw [Nat.add_mul]; omega
  have := Nat.lt_of_mul_lt_mul_right hup
  refine ⟨s1, s2, by omega, by omega, by omega⟩

theorem short_math {n k M t : Nat} (hk : k ≤ 6) (ht : 23 ≤ t) (ht2 : t ≤ 72) (hM : 2 ^ 52 ≤ M) (hM2 : M < 2 ^ 53) (hN : Near n (10 ^ k) M t) :
    ∃ P sh mn hi : Nat, 7 ≤ P ∧ P ≤ 23 ∧ sh < 64 ∧ hi < 18446744073709551616 ∧ hi = hiT P ∧ 0 = loT P ∧
      (M * 2048 = 9223372036854775808 → -(((-(t : Int) - 11) + 11) * 631305 - 261663).fdiv (2 ^ 21) = (P : Int) ∧ mn = M * 2048 - 512) ∧
      (M * 2048 ≠ 9223372036854775808 → -(((-(t : Int) - 11) + 11) * 78913).fdiv (2 ^ 18) = (P : Int) ∧ mn = M * 2048 - 1024) ∧
      -((-(t : Int) - 11) + ((P : Int) * 108853).fdiv (2 ^ 15) + 3) = (sh : Int) ∧
      usc mn hi 0 sh < 18446744073709551600 ∧ usc (M * 2048 + 1024) hi 0 sh < 18446744073709551600 ∧ M * 2048 / 2048 % 2 ≤ usc (M * 2048 + 1024) hi 0 sh ∧
      (usc mn hi 0 sh + M * 2048 / 2048 % 2 + 3) / 4 ≤ (usc (M * 2048 + 1024) hi 0 sh - M * 2048 / 2048 % 2) / 4 / 10 * 10 ∧
      (usc (M * 2048 + 1024) hi 0 sh - M * 2048 / 2048 % 2) / 4 / 10 = n * 10 ^ (P - 1 - k) := by
  obtain ⟨sk, hsk⟩ : ∃ sk : Bool, sk = decide (M = 2 ^ 52) := ⟨_, rfl⟩
  have hc := chk_at sk t ht ht2
  unfold chk at hc
  simp only [Bool.and_eq_true, decide_eq_true_eq, beq_iff_eq] at hc
  obtain ⟨⟨⟨⟨⟨⟨⟨⟨hp1, hp2⟩, hs1⟩, hs2⟩, hlo⟩, hhi⟩, hq⟩, ht3⟩, hw⟩ := hc
  obtain ⟨P, hP⟩ : ∃ P : Nat, pT sk t = (P : Int) := ⟨(pT sk t).toNat, by omega⟩
  obtain ⟨s, hs⟩ : ∃ s : Nat, sT sk t = (s : Int) := ⟨(sT sk t).toNat, by omega⟩
  have hsd : -((-(t : Int) - 11) + ((P : Int) * 108853).fdiv (2 ^ 15) + 3) = (s : Int) := by rw [← hs]; unfold sT; rw [hP]
  rw [hP] at hp1 hp2 hlo hhi hq hw
  rw [hs] at hs1 hs2 hq hw
  rw [Int.toNat_natCast, Int.toNat_natCast] at hq
  rw [Int.toNat_natCast] at hw
  generalize hhT : hiT (P : Int) = hi at *
  have h12 : -(t : Int) - 11 + 11 = -(t : Int) := by omega
  have hMx : M * 2048 + 1024 = (2 * M + 1) * 2 ^ 10 := by omega
  have ho : M * 2048 / 2048 % 2 < 2 := Nat.mod_lt _ (by omega)
  by_cases h52 : M = 2 ^ 52
  · have hskT : sk = true := by rw [hsk, h52]; rfl
    subst hskT
    obtain ⟨a1, a2, a3, a4, a5⟩ := short_core (n := n) (k := k) (p := P) (s := s) (hi := hi) (mn := M * 2048 - 512) (mx := M * 2048 + 1024) (odd := M * 2048 / 2048 % 2) (W := 1536) (D := 2 ^ (64 + s)) (by omega) (by omega) hhi (by omega) (by omega) (by omega) (by omega) rfl
      (by
        have e : M * 2048 - 512 = (4 * M - 1) * 2 ^ 9 := by omega
        rw [e]
        exact (sc_lt hq (by omega) (z := t + 2) (by omega)).2 (hN.2.1 h52))
      (by rw [hMx]; exact (sc_lt hq (by omega) (z := t + 1) (by omega)).1 hN.1) (by omega) (by simpa using hw) ho
    refine ⟨P, s, M * 2048 - 512, hi, by omega, by omega, by omega, hhi, hhT.symm, hlo.symm, fun _ => ⟨?_, rfl⟩, fun h => absurd (by rw [h52]) h, hsd, a1, a2, a3, a4, a5⟩
    rw [h12, ← hP]; rfl
  · have hskF : sk = false := by rw [hsk]; simpa using h52
    subst hskF
    obtain ⟨a1, a2, a3, a4, a5⟩ := short_core (n := n) (k := k) (p := P) (s := s) (hi := hi) (mn := M * 2048 - 1024) (mx := M * 2048 + 1024) (odd := M * 2048 / 2048 % 2) (W := 2048) (D := 2 ^ (64 + s)) (by omega) (by omega) hhi (by omega) (by omega) (by omega) (by omega) rfl
      (by
        have e : M * 2048 - 1024 = (2 * M - 1) * 2 ^ 10 := by omega
        rw [e]
        exact (sc_lt hq (by omega) (z := t + 1) (by omega)).2 (hN.2.2 h52))
      (by rw [hMx]; exact (sc_lt hq (by omega) (z := t + 1) (by omega)).1 hN.1) (by omega) (by simpa using hw) ho
    refine ⟨P, s, M * 2048 - 1024, hi, by omega, by omega, by omega, hhi, hhT.symm, hlo.symm, fun h => absurd (by omega) h52, fun _ => ⟨?_, rfl⟩, hsd, a1, a2, a3, a4, a5⟩
    rw [h12, ← hP]; rfl

/-- The double of n / 10 ^ k. -/
theorem div_ten {n k : Nat} (hn : 0 < n) (hk : k ≤ 6) (hnk : n < 10 ^ 9 * 10 ^ k) :
    ∃ M t : Nat, Ieee.Format.div Ieee.double (Ieee.Format.nearest Ieee.double false n 0) (Ieee.Format.nearest Ieee.double false (10 ^ k) 0) = some (wd M (-(t : Int))) ∧ 2 ^ 52 ≤ M ∧ M < 2 ^ 53 ∧ 23 ≤ t ∧ t ≤ 72 ∧ Near n (10 ^ k) M t := by
  have hd : 0 < 10 ^ k := Nat.pow_pos (by omega)
  have hd6 : 10 ^ k ≤ 10 ^ 6 := Nat.pow_le_pow_right (by omega) hk
  have hn15 : n < 10 ^ 15 := by omega
  have hln : n.log2 < 50 := (Nat.log2_lt (by omega)).2 (by omega)
  have hld : (10 ^ k).log2 < 20 := (Nat.log2_lt (by omega)).2 (by omega)
  obtain ⟨M, t, e, hdv, hM1, hM2, he1, he2, hb, ht⟩ := div_near n (10 ^ k) hn hd (by omega) (by omega)
  have hte := ht (by omega)
  obtain ⟨up, dn⟩ := hb (by omega) hte
  have hte' : e = -(t : Int) := by omega
  have ht72 : t ≤ 72 := by omega
  have ht2 : 2 ≤ t := by omega
  have ht23 : 23 ≤ t := by
    refine Decidable.byContradiction fun hlt => ?_
    have low : (2 ^ 54 - 1) * 10 ^ k ≤ n * 2 ^ (t + 2) := by
      by_cases h52 : M = 2 ^ 52
      · rw [if_pos h52, h52] at dn; exact dn
      · rw [if_neg h52] at dn
        have h2 : (2 ^ 53 + 1) * 10 ^ k ≤ (2 * M - 1) * 10 ^ k := Nat.mul_le_mul_right _ (by omega)
        rw [show (2 : Nat) ^ (t + 2) = 2 ^ (t + 1) * 2 from Nat.pow_succ 2 (t + 1), ← Nat.mul_assoc]
        have h3 : (2 ^ 54 - 1) * 10 ^ k ≤ (2 ^ 53 + 1) * 10 ^ k * 2 := by rw [Nat.mul_right_comm]; exact Nat.mul_le_mul_right _ (by omega)
        omega
    have h24 : 2 ^ (t + 2) ≤ 2 ^ 24 := Nat.pow_le_pow_right (by omega) (by omega)
    have h3 := Nat.mul_le_mul_left n h24
    omega
  refine ⟨M, t, by rw [hdv, hte'], hM1, hM2, ht23, ht72, ?_, fun e => ?_, fun e => ?_⟩
  · exact Nat.lt_of_le_of_ne up fun h => odd_ten (2 * M + 1) n k (t + 1) (by omega) hk (by omega) h.symm
  · rw [if_pos e] at dn
    exact Nat.lt_of_le_of_ne dn fun h => odd_ten (4 * M - 1) n k (t + 2) (by omega) hk (by omega) h
  · rw [if_neg e] at dn
    exact Nat.lt_of_le_of_ne dn fun h => odd_ten (2 * M - 1) n k (t + 1) (by omega) hk (by omega) h
end Go.AM
