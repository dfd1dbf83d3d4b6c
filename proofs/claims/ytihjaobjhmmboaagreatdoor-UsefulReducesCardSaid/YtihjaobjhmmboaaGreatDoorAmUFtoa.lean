/- A part of a proof. Its conditions: none. -/
import Derived.Test.YtihjaobjhmmboaaGreatDoorAmDec
import GoSem.PinnedTables
import Derived.Test.YtihjaobjhmmboaaGreatDoorAmUFmt
import Derived.Test.YtihjaobjhmmboaaGreatDoorAmUDigits
import Derived.Test.YtihjaobjhmmboaaGreatDoorAmC
set_option linter.all false
namespace Go.AM
set_option maxRecDepth 20000
theorem odd_ten (c n k z : Nat) (hc : c % 2 = 1) (hk : k ≤ 6) (hz : 6 < z) : c * 10 ^ k ≠ n * 2 ^ z := by
 intro h
 have e1 : (10 : Nat) ^ k = 5 ^ k * 2 ^ k := by rw [← Nat.mul_pow]
 have e2 : (2 : Nat) ^ z = 2 ^ (z - k - 1) * 2 * 2 ^ k := by rw [← Nat.pow_succ, ← Nat.pow_add]; congr 1; omega
 rw [e1, e2, ← Nat.mul_assoc, ← Nat.mul_assoc, ← Nat.mul_assoc] at h
 have h2 := Nat.eq_of_mul_eq_mul_right (Nat.two_pow_pos k) h
 have h3 : (c * 5 ^ k) % 2 = 1 := by
  rw [Nat.mul_mod, Nat.pow_mod, hc]; simp
 rw [h2, Nat.mul_mod_left] at h3
 omega
def Near (n d M t : Nat) : Prop := n * 2 ^ (t + 1) < (2 * M + 1) * d ∧ (M = 2 ^ 52 → (4 * M - 1) * d < n * 2 ^ (t + 2)) ∧ (M ≠ 2 ^ 52 → (2 * M - 1) * d < n * 2 ^ (t + 1))
theorem Near.scale {n d M t : Nat} (h : Near n d M t) (c : Nat) (hc : 0 < c) : Near (n * c) (d * c) M t := by
 obtain ⟨a, b, b'⟩ := h
 refine ⟨?_, fun e => ?_, fun e => ?_⟩
 ·rw [Nat.mul_right_comm, ← Nat.mul_assoc]; exact Nat.mul_lt_mul_of_pos_right a hc
 ·rw [Nat.mul_right_comm, ← Nat.mul_assoc]; exact Nat.mul_lt_mul_of_pos_right (b e) hc
 ·rw [Nat.mul_right_comm, ← Nat.mul_assoc]; exact Nat.mul_lt_mul_of_pos_right (b' e) hc
theorem near_le {n d M t M' t' : Nat} (hd : 0 < d) (h : Near n d M t) (h' : Near n d M' t') (hM : 2 ^ 52 ≤ M) (hM' : 2 ^ 52 ≤ M' ∧ M' < 2 ^ 53) : t' ≤ t := by
 refine Decidable.byContradiction fun hlt => ?_
 have low : (2 ^ 54 - 1) * d < n * 2 ^ (t + 2) := by
  by_cases e : M = 2 ^ 52
  ·have := h.2.1 e
   rw [e] at this; exact this
  ·have := h.2.2 e
   have h2 : (2 ^ 53 + 1) * d ≤ (2 * M - 1) * d := Nat.mul_le_mul_right _ (by omega)
   rw [show (2 : Nat) ^ (t + 2) = 2 ^ (t + 1) * 2 from Nat.pow_succ 2 (t + 1), ← Nat.mul_assoc]
   have h3 : (2 ^ 54 - 1) * d ≤ (2 ^ 53 + 1) * d * 2 := by rw [Nat.mul_right_comm]; exact Nat.mul_le_mul_right _ (by omega)
   omega
 have up : n * 2 ^ (t' + 1) < (2 ^ 54 - 1) * d := Nat.lt_of_lt_of_le h'.1 (Nat.mul_le_mul_right _ (by omega))
 have : n * 2 ^ (t + 2) ≤ n * 2 ^ (t' + 1) := Nat.mul_le_mul_left _ (Nat.pow_le_pow_right (by omega) (by omega))
 omega
theorem near_unique {n d n' d' M t M' t' : Nat} (hd : 0 < d) (hd' : 0 < d') (hr : n * d' = n' * d) (h : Near n d M t) (h' : Near n' d' M' t') (hM : 2 ^ 52 ≤ M ∧ M < 2 ^ 53) (hM' : 2 ^ 52 ≤ M' ∧ M' < 2 ^ 53) : M = M' ∧ t = t' := by
 have a := h.scale d' hd'
 have b := h'.scale d hd
 rw [← hr, Nat.mul_comm d' d] at b
 generalize n * d' = R at a b
 have hD : 0 < d * d' := Nat.mul_pos hd hd'
 generalize d * d' = D at a b hD
 have t1 := near_le hD a b hM.1 hM'
 have t2 := near_le hD b a hM'.1 hM
 have te : t = t' := by omega
 subst te
 refine ⟨?_, rfl⟩
 have one : ∀ {M M' : Nat}, Near R D M t → Near R D M' t → 2 ^ 52 ≤ M → 2 ^ 52 ≤ M' → M ≤ M' := by
  intro M M' a b hM hM'
  by_cases e : M = 2 ^ 52
  ·omega
  ·have l := a.2.2 e
   have u := b.1
   have := Nat.lt_of_mul_lt_mul_right (Nat.lt_trans l u)
   omega
 have := one a b hM.1 hM'.1
 have := one b a hM'.1 hM.1
 omega
def usc (x hi lo s : Nat) : Nat :=
 if x * hi / 18446744073709551616 / 2 ^ s * 2 ^ s = x * hi / 18446744073709551616 then
  (x * hi / 18446744073709551616 + 18446744073709551616 - (decide (x * hi % 18446744073709551616 < x * lo / 18446744073709551616)).toNat) % 18446744073709551616 / 2 ^ s |||
   (decide (1 < (x * hi % 18446744073709551616 + 18446744073709551616 - x * lo / 18446744073709551616) % 18446744073709551616)).toNat
 else x * hi / 18446744073709551616 / 2 ^ s ||| 1
theorem or_one (n : Nat) : n ||| 1 = n / 2 * 2 + 1 := by
 have h1 : (n ||| 1) % 2 = 1 := by rw [Nat.or_mod_two_eq_one]; simp
 have h2 : (n ||| 1) / 2 = n / 2 := by
  rw [Nat.or_div_two]; simp
 omega
theorem usc_spec {x hi s D : Nat} (hx : x % 2 = 0) (hxl : x < 18446744073709551616) (hhi : hi < 18446744073709551616) (hD : D = 2 ^ (64 + s)) :
  (usc x hi 0 s = x * hi / D ∧ x * hi % D = 0) ∨ (usc x hi 0 s = x * hi / D / 2 * 2 + 1 ∧ x * hi % D ≠ 0) := by
 have hT : x * hi < 18446744073709551616 * 18446744073709551616 := Nat.mul_lt_mul'' hxl hhi
 have hev : x * hi % 2 = 0 := by rw [Nat.mul_mod, hx]; simp
 unfold usc
 generalize x * hi = T at *
 have hD2 : D = 18446744073709551616 * 2 ^ s := by rw [hD, Nat.pow_add]
 have hF : T / D = T / 18446744073709551616 / 2 ^ s := by rw [hD2, Nat.div_div_eq_div_mul]
 have hm : T % D = T % 18446744073709551616 + 18446744073709551616 * (T / 18446744073709551616 % 2 ^ s) := by rw [hD2, Nat.mod_mul]
 have hA : T / 18446744073709551616 < 18446744073709551616 := Nat.div_lt_of_lt_mul hT
 rw [hF, hm]
 have hps := Nat.two_pow_pos s
 have hdm := Nat.div_add_mod (T / 18446744073709551616) (2 ^ s)
 rw [Nat.mul_comm] at hdm
 generalize hAA : T / 18446744073709551616 = A at *
 have hmid : T % 18446744073709551616 % 2 = 0 := by omega
 generalize hMM : T % 18446744073709551616 = Mid at *
 have hMl : Mid < 18446744073709551616 := by omega
 by_cases h1 : A / 2 ^ s * 2 ^ s = A
 ·have h0 : A % 2 ^ s = 0 := by omega
  rw [if_pos h1, h0]
  simp only [Nat.mul_zero, Nat.zero_div, Nat.not_lt_zero, decide_false, Bool.toNat_false, Nat.sub_zero, Nat.add_mod_right, Nat.mod_eq_of_lt hA, Nat.mod_eq_of_lt hMl, Nat.add_zero]
  by_cases hM0 : Mid = 0
  ·left; rw [hM0]; simp
  ·right
   have : decide (1 < Mid) = true := by simp; omega
   rw [this]
   exact ⟨or_one _, hM0⟩
 ·rw [if_neg h1]
  right
  refine ⟨or_one _, ?_⟩
  have : A % 2 ^ s ≠ 0 := by omega
  omega
theorem usc_below {x hi s D N : Nat} (hx : x % 2 = 0) (hxl : x < 18446744073709551616) (hhi : hi < 18446744073709551616) (hD : D = 2 ^ (64 + s)) (h : x * hi < 4 * N * D) : usc x hi 0 s + 1 ≤ 4 * N := by
 have hDp : 0 < D := by rw [hD]; exact Nat.two_pow_pos _
 have hF : x * hi / D < 4 * N := (Nat.div_lt_iff_lt_mul hDp).2 h
 rcases usc_spec hx hxl hhi hD with ⟨e, _⟩ | ⟨e, _⟩ <;> rw [e] <;> omega
theorem usc_above {x hi s D N : Nat} (hx : x % 2 = 0) (hxl : x < 18446744073709551616) (hhi : hi < 18446744073709551616) (hD : D = 2 ^ (64 + s)) (h : 4 * N * D < x * hi) : 4 * N + 1 ≤ usc x hi 0 s ∧ 4 * (usc x hi 0 s / 4) * D ≤ x * hi := by
 have hDp : 0 < D := by rw [hD]; exact Nat.two_pow_pos _
 have hF : 4 * N ≤ x * hi / D := (Nat.le_div_iff_mul_le hDp).2 (Nat.le_of_lt h)
 have hdm := Nat.div_add_mod (x * hi) D
 have hback : ∀ q, q ≤ x * hi / D → q * D ≤ x * hi := fun q hq => (Nat.le_div_iff_mul_le hDp).1 hq
 rcases usc_spec hx hxl hhi hD with ⟨e, h0⟩ | ⟨e, _⟩ <;> rw [e]
 ·refine ⟨?_, hback _ (by omega)⟩
  refine Decidable.byContradiction fun hn => ?_
  have : x * hi / D = 4 * N := by omega
  rw [this, h0, Nat.mul_comm D] at hdm
  omega
 ·exact ⟨by omega, hback _ (by omega)⟩
theorem usc_small {x hi s D : Nat} (hx : x % 2 = 0) (hxl : x < 18446744073709551616) (hhi : hi < 18446744073709551616) (hD : D = 2 ^ (64 + s)) (hs : 1 ≤ s) : usc x hi 0 s < 18446744073709551600 := by
 have hDp : 0 < D := by rw [hD]; exact Nat.two_pow_pos _
 have hT : x * hi < 18446744073709551616 * 18446744073709551616 := Nat.mul_lt_mul'' hxl hhi
 have hD1 : 2 * 18446744073709551616 ≤ D := by
  have h65 : 2 * 18446744073709551616 = 2 ^ 65 := by simp only [Nat.reduceMul, Nat.reducePow]
  rw [hD, h65]; exact Nat.pow_le_pow_right (by omega) (by omega)
 have hF : x * hi / D < 9223372036854775808 := by
  refine (Nat.div_lt_iff_lt_mul hDp).2 (Nat.lt_of_lt_of_le hT ?_)
  clear hD
  generalize D = E at *
  omega
 rcases usc_spec hx hxl hhi hD with ⟨e, _⟩ | ⟨e, _⟩ <;> rw [e] <;> omega
theorem ac1 (c B hi A K P Q : Nat) (hq : hi * A = P * Q) : c * B * hi * (A * K) = c * K * (P * (Q * B)) := by
 calc c * B * hi * (A * K) = c * B * K * (hi * A) := by ac_rfl
  _ = c * K * (P * (Q * B)) := by rw [hq]; ac_rfl
theorem ac2 (n P' F D A K P Z Q B : Nat) (h2 : F * D * A = Z * Q * B) (hp : P = P' * K) : F * (n * P') * D * (A * K) = n * Z * (P * (Q * B)) := by
 calc F * (n * P') * D * (A * K) = n * (P' * K) * (F * D * A) := by ac_rfl
  _ = n * Z * (P * (Q * B)) := by rw [← hp, h2]; ac_rfl
theorem sc_lt {n c k p q z j s hi : Nat} (hq : hi * 2 ^ 100 = 10 ^ p * 2 ^ q) (hk : k ≤ p) (hs : z + j + q = 166 + s) :
  (n * 2 ^ z < c * 10 ^ k → 4 * (n * 10 ^ (p - k)) * 2 ^ (64 + s) < c * 2 ^ j * hi) ∧ (c * 10 ^ k < n * 2 ^ z → c * 2 ^ j * hi < 4 * (n * 10 ^ (p - k)) * 2 ^ (64 + s)) := by
 have e1 : c * 2 ^ j * hi * (2 ^ 100 * 10 ^ k) = c * 10 ^ k * (10 ^ p * (2 ^ q * 2 ^ j)) := ac1 _ _ _ _ _ _ _ hq
 have e2 : 4 * (n * 10 ^ (p - k)) * 2 ^ (64 + s) * (2 ^ 100 * 10 ^ k) = n * 2 ^ z * (10 ^ p * (2 ^ q * 2 ^ j)) := by
  refine ac2 _ _ _ _ _ _ _ _ _ _ ?_ ?_
  ·rw [show (4 : Nat) = 2 ^ 2 from rfl, ← Nat.pow_add, ← Nat.pow_add, ← Nat.pow_add, ← Nat.pow_add]; congr 1; omega
  ·rw [← Nat.pow_add]; congr 1; omega
 have hX : 0 < 2 ^ 100 * 10 ^ k := Nat.mul_pos (Nat.two_pow_pos _) (Nat.pow_pos (by omega))
 have hY : 0 < 10 ^ p * (2 ^ q * 2 ^ j) := Nat.mul_pos (Nat.pow_pos (by omega)) (Nat.mul_pos (Nat.two_pow_pos _) (Nat.two_pow_pos _))
 constructor
 ·intro h
  refine Nat.lt_of_mul_lt_mul_right (a := 2 ^ 100 * 10 ^ k) ?_
  rw [e1, e2]; exact Nat.mul_lt_mul_of_pos_right h hY
 ·intro h
  refine Nat.lt_of_mul_lt_mul_right (a := 2 ^ 100 * 10 ^ k) ?_
  rw [e1, e2]; exact Nat.mul_lt_mul_of_pos_right h hY
def pT (skew : Bool) (t : Nat) : Int := if skew then -((-(t : Int)) * 631305 - 261663).fdiv (2 ^ 21) else -((-(t : Int)) * 78913).fdiv (2 ^ 18)
def sT (skew : Bool) (t : Nat) : Int := -((-(t : Int) - 11) + (pT skew t * 108853).fdiv (2 ^ 15) + 3)
def hiT (p : Int) : Nat := (Go.Pinned.pow10Rows.getD (p + 348).toNat (0, 0)).1
def loT (p : Int) : Nat := (Go.Pinned.pow10Rows.getD (p + 348).toNat (0, 0)).2
def chk (skew : Bool) (t : Nat) : Bool :=
 decide (7 ≤ pT skew t) && decide (pT skew t ≤ 23) && decide (1 ≤ sT skew t) && decide (sT skew t < 64) && (loT (pT skew t) == 0) && decide (hiT (pT skew t) < 18446744073709551616) &&
  (hiT (pT skew t) * 2 ^ 100 == 10 ^ (pT skew t).toNat * 2 ^ (155 + (sT skew t).toNat - t)) && decide (t ≤ 155) && decide ((if skew then 1536 else 2048) * hiT (pT skew t) < 40 * 2 ^ (64 + (sT skew t).toNat))
theorem chk_all : (List.range 50).all (fun t => chk true (t + 23) && chk false (t + 23)) = true := by kernel_rfl
theorem chk_at (skew : Bool) (t : Nat) (h1 : 23 ≤ t) (h2 : t ≤ 72) : chk skew t = true := by
 have := List.all_eq_true.1 chk_all (t - 23) (List.mem_range.2 (by omega))
 rw [show t - 23 + 23 = t by omega, Bool.and_eq_true] at this
 cases skew
 ·exact this.2
 ·exact this.1
theorem short_core {n k p s hi mn mx odd W D : Nat} (hk : k + 1 ≤ p) (hs : 1 ≤ s) (hhi : hi < 18446744073709551616) (hmn : mn % 2 = 0) (hmx : mx % 2 = 0) (hmxl : mx < 18446744073709551616) (hmm : mn ≤ mx)
  (hD : D = 2 ^ (64 + s)) (h1 : mn * hi < 4 * (n * 10 ^ (p - k)) * D) (h2 : 4 * (n * 10 ^ (p - k)) * D < mx * hi) (hW : W = mx - mn) (hw : W * hi < 40 * D) (ho : odd < 2) :
  usc mn hi 0 s < 18446744073709551600 ∧ usc mx hi 0 s < 18446744073709551600 ∧ odd ≤ usc mx hi 0 s ∧ (usc mn hi 0 s + odd + 3) / 4 ≤ (usc mx hi 0 s - odd) / 4 / 10 * 10 ∧
   (usc mx hi 0 s - odd) / 4 / 10 = n * 10 ^ (p - 1 - k) := by
 have hDp : 0 < D := by rw [hD]; exact Nat.two_pow_pos _
 have hN : n * 10 ^ (p - k) = 10 * (n * 10 ^ (p - 1 - k)) := by
  rw [show p - k = (p - 1 - k) + 1 by omega, Nat.pow_succ, ← Nat.mul_assoc, Nat.mul_comm]
 rw [hN] at h1 h2
 generalize n * 10 ^ (p - 1 - k) = N' at *
 have a := usc_below hmn (by omega) hhi hD h1
 obtain ⟨b, b'⟩ := usc_above hmx hmxl hhi hD h2
 have s1 := usc_small hmn (by omega) hhi hD hs
 have s2 := usc_small hmx hmxl hhi hD hs
 generalize usc mn hi 0 s = U1 at *
 generalize usc mx hi 0 s = U2 at *
 have hmxe : mx * hi = mn * hi + W * hi := by rw [← Nat.add_mul]; congr 1; omega
 have hup : 4 * (U2 / 4) * D < (4 * (10 * N') + 40) * D := by rw [Nat.add_mul]; omega
 have := Nat.lt_of_mul_lt_mul_right hup
 refine ⟨s1, s2, by omega, by omega, by omega⟩
theorem short_math {n k M t : Nat} (hk : k ≤ 6) (ht : 23 ≤ t) (ht2 : t ≤ 72) (hM : 2 ^ 52 ≤ M) (hM2 : M < 2 ^ 53) (hN : Near n (10 ^ k) M t) :
  ∃ P sh mn hi : Nat, 7 ≤ P ∧ P ≤ 23 ∧ sh < 64 ∧ hi < 18446744073709551616 ∧ hi = hiT P ∧ 0 = loT P ∧
   (M * 2048 = 9223372036854775808 → -(((-(t : Int) - 11) + 11) * 631305 - 261663).fdiv (2 ^ 21) = (P : Int) ∧ mn = M * 2048 - 512) ∧
   (M * 2048 ≠ 9223372036854775808 → -(((-(t : Int) - 11) + 11) * 78913).fdiv (2 ^ 18) = (P : Int) ∧ mn = M * 2048 - 1024) ∧
   -((-(t : Int) - 11) + ((P : Int) * 108853).fdiv (2 ^ 15) + 3) = (sh : Int) ∧
   usc mn hi 0 sh < 18446744073709551600 ∧ usc (M * 2048 + 1024) hi 0 sh < 18446744073709551600 ∧ M * 2048 / 2048 % 2 ≤ usc (M * 2048 + 1024) hi 0 sh ∧
   (usc mn hi 0 sh + M * 2048 / 2048 % 2 + 3) / 4 ≤ (usc (M * 2048 + 1024) hi 0 sh - M * 2048 / 2048 % 2) / 4 / 10 * 10 ∧
   (usc (M * 2048 + 1024) hi 0 sh - M * 2048 / 2048 % 2) / 4 / 10 = n * 10 ^ (P - 1 - k) := by
 obtain ⟨sk, hsk⟩ : ∃ sk : Bool, sk = decide (M = 2 ^ 52) := ⟨_, rfl⟩
 have hc := chk_at sk t ht ht2
 unfold chk at hc
 simp only [Bool.and_eq_true, decide_eq_true_eq, beq_iff_eq] at hc
 obtain ⟨⟨⟨⟨⟨⟨⟨⟨hp1, hp2⟩, hs1⟩, hs2⟩, hlo⟩, hhi⟩, hq⟩, ht3⟩, hw⟩ := hc
 obtain ⟨P, hP⟩ : ∃ P : Nat, pT sk t = (P : Int) := ⟨(pT sk t).toNat, by omega⟩
 obtain ⟨s, hs⟩ : ∃ s : Nat, sT sk t = (s : Int) := ⟨(sT sk t).toNat, by omega⟩
 have hsd : -((-(t : Int) - 11) + ((P : Int) * 108853).fdiv (2 ^ 15) + 3) = (s : Int) := by rw [← hs]; unfold sT; rw [hP]
 rw [hP] at hp1 hp2 hlo hhi hq hw
 rw [hs] at hs1 hs2 hq hw
 rw [Int.toNat_natCast, Int.toNat_natCast] at hq
 rw [Int.toNat_natCast] at hw
 generalize hhT : hiT (P : Int) = hi at *
 have h12 : -(t : Int) - 11 + 11 = -(t : Int) := by omega
 have hMx : M * 2048 + 1024 = (2 * M + 1) * 2 ^ 10 := by omega
 have ho : M * 2048 / 2048 % 2 < 2 := Nat.mod_lt _ (by omega)
 by_cases h52 : M = 2 ^ 52
 ·have hskT : sk = true := by rw [hsk, h52]; rfl
  subst hskT
  obtain ⟨a1, a2, a3, a4, a5⟩ := short_core (n := n) (k := k) (p := P) (s := s) (hi := hi) (mn := M * 2048 - 512) (mx := M * 2048 + 1024) (odd := M * 2048 / 2048 % 2) (W := 1536) (D := 2 ^ (64 + s)) (by omega) (by omega) hhi (by omega) (by omega) (by omega) (by omega) rfl
   (by
    have e : M * 2048 - 512 = (4 * M - 1) * 2 ^ 9 := by omega
    rw [e]
    exact (sc_lt hq (by omega) (z := t + 2) (by omega)).2 (hN.2.1 h52))
   (by rw [hMx]; exact (sc_lt hq (by omega) (z := t + 1) (by omega)).1 hN.1) (by omega) (by simpa using hw) ho
  refine ⟨P, s, M * 2048 - 512, hi, by omega, by omega, by omega, hhi, hhT.symm, hlo.symm, fun _ => ⟨?_, rfl⟩, fun h => absurd (by rw [h52]) h, hsd, a1, a2, a3, a4, a5⟩
  rw [h12, ← hP]; rfl
 ·have hskF : sk = false := by rw [hsk]; simpa using h52
  subst hskF
  obtain ⟨a1, a2, a3, a4, a5⟩ := short_core (n := n) (k := k) (p := P) (s := s) (hi := hi) (mn := M * 2048 - 1024) (mx := M * 2048 + 1024) (odd := M * 2048 / 2048 % 2) (W := 2048) (D := 2 ^ (64 + s)) (by omega) (by omega) hhi (by omega) (by omega) (by omega) (by omega) rfl
   (by
    have e : M * 2048 - 1024 = (2 * M - 1) * 2 ^ 10 := by omega
    rw [e]
    exact (sc_lt hq (by omega) (z := t + 1) (by omega)).2 (hN.2.2 h52))
   (by rw [hMx]; exact (sc_lt hq (by omega) (z := t + 1) (by omega)).1 hN.1) (by omega) (by simpa using hw) ho
  refine ⟨P, s, M * 2048 - 1024, hi, by omega, by omega, by omega, hhi, hhT.symm, hlo.symm, fun h => absurd (by omega) h52, fun _ => ⟨?_, rfl⟩, hsd, a1, a2, a3, a4, a5⟩
  rw [h12, ← hP]; rfl
theorem div_ten {n k : Nat} (hn : 0 < n) (hk : k ≤ 6) (hnk : n < 10 ^ 9 * 10 ^ k) :
  ∃ M t : Nat, Ieee.Format.div Ieee.double (Ieee.Format.nearest Ieee.double false n 0) (Ieee.Format.nearest Ieee.double false (10 ^ k) 0) = some (wd M (-(t : Int))) ∧ 2 ^ 52 ≤ M ∧ M < 2 ^ 53 ∧ 23 ≤ t ∧ t ≤ 72 ∧ Near n (10 ^ k) M t := by
 have hd : 0 < 10 ^ k := Nat.pow_pos (by omega)
 have hd6 : 10 ^ k ≤ 10 ^ 6 := Nat.pow_le_pow_right (by omega) hk
 have hn15 : n < 10 ^ 15 := by omega
 have hln : n.log2 < 50 := (Nat.log2_lt (by omega)).2 (by omega)
 have hld : (10 ^ k).log2 < 20 := (Nat.log2_lt (by omega)).2 (by omega)
 obtain ⟨M, t, e, hdv, hM1, hM2, he1, he2, hb, ht⟩ := div_near n (10 ^ k) hn hd (by omega) (by omega)
 have hte := ht (by omega)
 obtain ⟨up, dn⟩ := hb (by omega) hte
 have hte' : e = -(t : Int) := by omega
 have ht72 : t ≤ 72 := by omega
 have ht2 : 2 ≤ t := by omega
 have ht23 : 23 ≤ t := by
  refine Decidable.byContradiction fun hlt => ?_
  have low : (2 ^ 54 - 1) * 10 ^ k ≤ n * 2 ^ (t + 2) := by
   by_cases h52 : M = 2 ^ 52
   ·rw [if_pos h52, h52] at dn; exact dn
   ·rw [if_neg h52] at dn
    have h2 : (2 ^ 53 + 1) * 10 ^ k ≤ (2 * M - 1) * 10 ^ k := Nat.mul_le_mul_right _ (by omega)
    rw [show (2 : Nat) ^ (t + 2) = 2 ^ (t + 1) * 2 from Nat.pow_succ 2 (t + 1), ← Nat.mul_assoc]
    have h3 : (2 ^ 54 - 1) * 10 ^ k ≤ (2 ^ 53 + 1) * 10 ^ k * 2 := by rw [Nat.mul_right_comm]; exact Nat.mul_le_mul_right _ (by omega)
    omega
  have h24 : 2 ^ (t + 2) ≤ 2 ^ 24 := Nat.pow_le_pow_right (by omega) (by omega)
  have h3 := Nat.mul_le_mul_left n h24
  omega
 refine ⟨M, t, by rw [hdv, hte'], hM1, hM2, ht23, ht72, ?_, fun e => ?_, fun e => ?_⟩
 ·exact Nat.lt_of_le_of_ne up fun h => odd_ten (2 * M + 1) n k (t + 1) (by omega) hk (by omega) h.symm
 ·rw [if_pos e] at dn
  exact Nat.lt_of_le_of_ne dn fun h => odd_ten (4 * M - 1) n k (t + 2) (by omega) hk (by omega) h
 ·rw [if_neg e] at dn
  exact Nat.lt_of_le_of_ne dn fun h => odd_ten (2 * M - 1) n k (t + 1) (by omega) hk (by omega) h
end Go.AM

namespace Go.Proofs.YtihjaobjhmmboaaGreatDoor
open Go.AM
set_option maxRecDepth 100000
def word (neg : Bool) (E F : Nat) : Nat := (if neg then 9223372036854775808 else 0) + E * 4503599627370496 + F
theorem ext_f64 (b : Nat) : aext Tryz.prog 118 [.float .f64 b] = some (.int .u64 b) := by
 have h : (match Tryz.prog.funcs[118]? with | some fn => fn.body.isNone && fn.origin == "" && (fn.name == "math.Float64bits" || fn.name == "internal/strconv.float64bits") | none => false) = true := by kernel_rfl
 unfold aext
 cases hf : Tryz.prog.funcs[118]? with
 | none => rw [hf] at h; cases h
 | some fn =>
  rw [hf] at h
  simp at h
  simp [hf, h]
theorem ft1 : IntKind.i64.wrap (11 + 52) = 63 := rfl
theorem ft2 : min 63 IntKind.u64.bits = 63 := rfl
theorem ft3 : min 52 IntKind.u64.bits = 52 := rfl
theorem ft4 : min 11 IntKind.i64.bits = 11 := rfl
theorem ft5 : IntKind.i64.wrap (1 * 2 ^ 11) = 2048 := rfl
theorem ft6 : IntKind.i64.wrap (2048 - 1) = 2047 := rfl
theorem ft7 : IntKind.u64.wrap (1 * 2 ^ 52) = 4503599627370496 := rfl
theorem ft8 : IntKind.u64.wrap (4503599627370496 - 1) = 4503599627370495 := rfl
theorem nb63 : ((63 : Int) < 0) = False := by simp
theorem nb52 : ((52 : Int) < 0) = False := by simp
theorem word_facts {neg : Bool} {E F b : Nat} (hb : b = word neg E F) (hE : E ≤ 2046) (hF : F < 4503599627370496) :
  b < 18446744073709551616 ∧ (b : Int).fdiv (2 ^ 63) = (neg.toNat : Int) ∧ (b : Int).fdiv (2 ^ 52) = ((b / 2 ^ 52 : Nat) : Int) ∧ IntKind.i64.wrap ((b / 2 ^ 52 : Nat) : Int) = ((b / 2 ^ 52 : Nat) : Int) ∧
   IntKind.i64.wrap (BitVec.ofInt IntKind.i64.bits ((b / 2 ^ 52 : Nat) : Int) &&& BitVec.ofInt IntKind.i64.bits 2047).toNat = (E : Int) ∧
   IntKind.u64.wrap (BitVec.ofInt IntKind.u64.bits (b : Int) &&& BitVec.ofInt IntKind.u64.bits 4503599627370495).toNat = (F : Int) := by
 have h1 : b < 18446744073709551616 := by rw [hb]; unfold word; cases neg <;> simp <;> omega
 have hq : b / 2 ^ 52 < 4096 := by omega
 refine ⟨h1, ?_, shr_nat b 52, wrap_i64n _ (by omega), ?_, ?_⟩
 ·rw [shr_nat]
  congr 1
  rw [hb]; unfold word; cases neg <;> simp <;> omega
 ·have := and_i64 (b / 2 ^ 52) 2047 (by omega) (by omega)
  have h' : IntKind.i64.wrap (BitVec.ofInt IntKind.i64.bits ((b / 2 ^ 52 : Nat) : Int) &&& BitVec.ofInt IntKind.i64.bits 2047).toNat = ((b / 2 ^ 52 &&& 2047 : Nat) : Int) := this
  rw [h', show (2047 : Nat) = 2 ^ 11 - 1 by rfl, and_mask]
  congr 1
  rw [hb]; unfold word; cases neg <;> simp <;> omega
 ·have := and_u64 b 4503599627370495 h1 (by omega)
  have h' : IntKind.u64.wrap (BitVec.ofInt IntKind.u64.bits (b : Int) &&& BitVec.ofInt IntKind.u64.bits 4503599627370495).toNat = ((b &&& 4503599627370495 : Nat) : Int) := this
  rw [h', show (4503599627370495 : Nat) = 2 ^ 52 - 1 by rfl, and_mask]
  congr 1
  rw [hb]; unfold word; cases neg <;> simp <;> omega
set_option maxHeartbeats 4000000 in
theorem ftoa_zero {y0 b : Nat} {neg : Bool} (hb : b = word neg 0 0) {n : Nat} {H : Heap} (hy0 : H y0 = .cells [] 5 true) (hyn : y0 < n) :
  GivesX Tryz.prog (fun z => z = y0) 110 [.slice (some ⟨y0, 0, none⟩) 0 0, .float .f64 b, .int .u8 102, .int .i64 (-1)] n H fun v n' H' =>
   ∃ y, v = .slice (some ⟨y, 0, none⟩) (fmtS neg (fun _ => 0) 0 0 (-1)).length (fmtS neg (fun _ => 0) 0 0 (-1)).length ∧ H' y = .cells ((fmtS neg (fun _ => 0) 0 0 (-1)).map bv) 5 true := by
 refine GivesX.of orders ok110 (Nat.le_of_ble_eq_true rfl) ?_
 obtain ⟨hb1, fS, f52, fw, fE, fF⟩ := word_facts hb (by omega) (by omega)
 rw [show ((0 : Nat) : Int) = 0 from rfl] at fE fF
 have z1 : ((0 : Int) = 2047) = False := by simp
 cases neg
 ·rw [show ((false.toNat : Nat) : Int) = 0 from rfl] at fS
  repeat (first | apply WK.seq | apply WK.block | apply WK.skipSeq | apply WK.skipBlock | apply WK.retSeq | apply WK.retBlock | apply WK.exitSeq | apply WK.exitHere | refine WK.exitOn rfl ?_ | ((first | (refine WK.rgn ?_ ?_; kernel_rfl) | refine AtCall.now ?_); simp (config := { maxSteps := 1000000 }) only [SS, qx20, forall_const, vconv, vun, tap, tap2, tap3, tap4, tsrc, tsrc2, Int.reduceEq, Int.reduceNeg, Nat.reduceGT, Nat.reduceLT, Nat.reduceLeDiff, Nat.reduceEqDiff, ↓reduceIte, reduceCtorEq, Int.reduceToNat, Int.reduceLE, Int.reduceLT, Nat.reduceAdd, Nat.reduceMul, ext_f64, ft1, ft2, ft3, ft4, ft5, ft6, ft7, ft8, nb63, nb52, nb11, fS, f52, fw, fE, fF, z1, ff_110]) | (refine WK.condT ?_ ?_; focus (simp only [ev_tmp, ev_const, fset_apply, Nat.reduceEqDiff, ↓reduceIte, decide_true, decide_false, ext_f64, ft1, ft2, ft3, ft4, ft5, ft6, ft7, ft8, nb63, nb52, nb11, fS, f52, fw, fE, fF, z1, ff_110]; done)) | (refine WK.condF ?_ ?_; focus (simp only [ev_tmp, ev_const, fset_apply, Nat.reduceEqDiff, ↓reduceIte, decide_true, decide_false, ext_f64, ft1, ft2, ft3, ft4, ft5, ft6, ft7, ft8, nb63, nb52, nb11, fS, f52, fw, fE, fF, z1, ff_110]; done)))
  refine AtCall.byX (fmt_gives (x := 0) (y0 := y0) (Ls := 0) (nd := 0) (neg := false) (dg := fun _ => 0) (dp := 0) (prec := -1) (cs := []) (tyb := 0) hy0 hyn (by omega) (by omega) (by omega) (by omega) (by omega) true) ?_
  rintro v n1 H1 kx ⟨y, rfl, hy⟩
  simp (config := { maxSteps := 1000000 }) only [SS, qx20, forall_const, vconv, vun, tap, tap2, tap3, tap4, tsrc, tsrc2, Int.reduceEq, Int.reduceNeg, Nat.reduceGT, Nat.reduceLT, Nat.reduceLeDiff, Nat.reduceEqDiff, ↓reduceIte, reduceCtorEq, Int.reduceToNat, Int.reduceLE, Int.reduceLT, Nat.reduceAdd, Nat.reduceMul, ff_110]
  repeat (first | apply WK.seq | apply WK.block | apply WK.skipSeq | apply WK.skipBlock | apply WK.retSeq | apply WK.retBlock | apply WK.exitSeq | apply WK.exitHere | refine WK.exitOn rfl ?_ | ((first | (refine WK.rgn ?_ ?_; kernel_rfl) | refine AtCall.now ?_); simp (config := { maxSteps := 1000000 }) only [SS, qx20, forall_const, vconv, vun, tap, tap2, tap3, tap4, tsrc, tsrc2, Int.reduceEq, Int.reduceNeg, Nat.reduceGT, Nat.reduceLT, Nat.reduceLeDiff, Nat.reduceEqDiff, ↓reduceIte, reduceCtorEq, Int.reduceToNat, Int.reduceLE, Int.reduceLT, Nat.reduceAdd, Nat.reduceMul, ff_110]) | (refine WK.condT ?_ ?_; focus (simp only [ev_tmp, ev_const, fset_apply, Nat.reduceEqDiff, ↓reduceIte, decide_true, decide_false, ff_110]; done)) | (refine WK.condF ?_ ?_; focus (simp only [ev_tmp, ev_const, fset_apply, Nat.reduceEqDiff, ↓reduceIte, decide_true, decide_false, ff_110]; done)))
  refine WK.retNil ⟨Or.inr rfl, _, rfl, fun z hz hzx => kx.keep z hz hzx, ?_⟩
  simp only [packed, fset_apply, Nat.reduceEqDiff, ↓reduceIte, List.getD_cons_zero, List.getD_cons_succ, ff_110]
  exact ⟨y, rfl, hy⟩
 ·rw [show ((true.toNat : Nat) : Int) = 1 from rfl] at fS
  repeat (first | apply WK.seq | apply WK.block | apply WK.skipSeq | apply WK.skipBlock | apply WK.retSeq | apply WK.retBlock | apply WK.exitSeq | apply WK.exitHere | refine WK.exitOn rfl ?_ | ((first | (refine WK.rgn ?_ ?_; kernel_rfl) | refine AtCall.now ?_); simp (config := { maxSteps := 1000000 }) only [SS, qx20, forall_const, vconv, vun, tap, tap2, tap3, tap4, tsrc, tsrc2, Int.reduceEq, Int.reduceNeg, Nat.reduceGT, Nat.reduceLT, Nat.reduceLeDiff, Nat.reduceEqDiff, ↓reduceIte, reduceCtorEq, Int.reduceToNat, Int.reduceLE, Int.reduceLT, Nat.reduceAdd, Nat.reduceMul, ext_f64, ft1, ft2, ft3, ft4, ft5, ft6, ft7, ft8, nb63, nb52, nb11, fS, f52, fw, fE, fF, z1, ff_110]) | (refine WK.condT ?_ ?_; focus (simp only [ev_tmp, ev_const, fset_apply, Nat.reduceEqDiff, ↓reduceIte, decide_true, decide_false, ext_f64, ft1, ft2, ft3, ft4, ft5, ft6, ft7, ft8, nb63, nb52, nb11, fS, f52, fw, fE, fF, z1, ff_110]; done)) | (refine WK.condF ?_ ?_; focus (simp only [ev_tmp, ev_const, fset_apply, Nat.reduceEqDiff, ↓reduceIte, decide_true, decide_false, ext_f64, ft1, ft2, ft3, ft4, ft5, ft6, ft7, ft8, nb63, nb52, nb11, fS, f52, fw, fE, fF, z1, ff_110]; done)))
  refine AtCall.byX (fmt_gives (x := 0) (y0 := y0) (Ls := 0) (nd := 0) (neg := true) (dg := fun _ => 0) (dp := 0) (prec := -1) (cs := []) (tyb := 0) hy0 hyn (by omega) (by omega) (by omega) (by omega) (by omega) true) ?_
  rintro v n1 H1 kx ⟨y, rfl, hy⟩
  simp (config := { maxSteps := 1000000 }) only [SS, qx20, forall_const, vconv, vun, tap, tap2, tap3, tap4, tsrc, tsrc2, Int.reduceEq, Int.reduceNeg, Nat.reduceGT, Nat.reduceLT, Nat.reduceLeDiff, Nat.reduceEqDiff, ↓reduceIte, reduceCtorEq, Int.reduceToNat, Int.reduceLE, Int.reduceLT, Nat.reduceAdd, Nat.reduceMul, ff_110]
  repeat (first | apply WK.seq | apply WK.block | apply WK.skipSeq | apply WK.skipBlock | apply WK.retSeq | apply WK.retBlock | apply WK.exitSeq | apply WK.exitHere | refine WK.exitOn rfl ?_ | ((first | (refine WK.rgn ?_ ?_; kernel_rfl) | refine AtCall.now ?_); simp (config := { maxSteps := 1000000 }) only [SS, qx20, forall_const, vconv, vun, tap, tap2, tap3, tap4, tsrc, tsrc2, Int.reduceEq, Int.reduceNeg, Nat.reduceGT, Nat.reduceLT, Nat.reduceLeDiff, Nat.reduceEqDiff, ↓reduceIte, reduceCtorEq, Int.reduceToNat, Int.reduceLE, Int.reduceLT, Nat.reduceAdd, Nat.reduceMul, ff_110]) | (refine WK.condT ?_ ?_; focus (simp only [ev_tmp, ev_const, fset_apply, Nat.reduceEqDiff, ↓reduceIte, decide_true, decide_false, ff_110]; done)) | (refine WK.condF ?_ ?_; focus (simp only [ev_tmp, ev_const, fset_apply, Nat.reduceEqDiff, ↓reduceIte, decide_true, decide_false, ff_110]; done)))
  refine WK.retNil ⟨Or.inr rfl, _, rfl, fun z hz hzx => kx.keep z hz hzx, ?_⟩
  simp only [packed, fset_apply, Nat.reduceEqDiff, ↓reduceIte, List.getD_cons_zero, List.getD_cons_succ, ff_110]
  exact ⟨y, rfl, hy⟩
def outS (neg : Bool) (d nz p : Nat) : List Nat := fmtS neg (fun q => 48 + lft d (numD d) q) nz ((numD d : Int) - p) (max ((nz : Int) - ((numD d : Int) - p)) 0)
def Trim (d nz : Nat) : Prop := nz ≤ numD d ∧ (∀ q, nz ≤ q → q < numD d → lft d (numD d) q = 0) ∧ (nz = 0 ∨ lft d (numD d) (nz - 1) ≠ 0)
theorem usc_eq : @uscaleS = @usc := rfl
set_option maxHeartbeats 8000000 in
theorem ftoa_gives {y0 b : Nat} {neg : Bool} {N k M t : Nat} (hk : k ≤ 6) (ht : 23 ≤ t) (ht2 : t ≤ 72) (hM : 2 ^ 52 ≤ M) (hM2 : M < 2 ^ 53) (hN : Near N (10 ^ k) M t) (hN0 : N ≠ 0) (hb : b = word neg (1075 - t) (M - 2 ^ 52)) {n : Nat} {H : Heap} (hy0 : H y0 = .cells [] 5 true) (hyn : y0 < n) (hw : WF n H)
  (h4 : H 4 = .cells pows 179 false) (h3 : H 3 = .cells tens 168 false) :
  GivesX Tryz.prog (fun z => z = y0) 110 [.slice (some ⟨y0, 0, none⟩) 0 0, .float .f64 b, .int .u8 102, .int .i64 (-1)] n H fun v n' H' =>
   ∃ P nz : Nat, 7 ≤ P ∧ P ≤ 23 ∧ Trim (N * 10 ^ (P - 1 - k)) nz ∧ N * 10 ^ (P - 1 - k) < 9223372036854775808 ∧
   ∃ y, v = .slice (some ⟨y, 0, none⟩) (outS neg (N * 10 ^ (P - 1 - k)) nz (P - 1)).length (outS neg (N * 10 ^ (P - 1 - k)) nz (P - 1)).length ∧ H' y = .cells ((outS neg (N * 10 ^ (P - 1 - k)) nz (P - 1)).map bv) 5 true := by
 refine GivesX.of orders ok110 (Nat.le_of_ble_eq_true rfl) ?_
 obtain ⟨E, hE⟩ : ∃ E, 1075 - t = E := ⟨_, rfl⟩
 obtain ⟨F, hF⟩ : ∃ F, M - 2 ^ 52 = F := ⟨_, rfl⟩
 rw [hE, hF] at hb
 obtain ⟨hb1, fS, f52, fw, fE, fF⟩ := word_facts hb (by omega) (by omega)
 have z1 : ((E : Int) = 2047) = False := by simp only [eq_iff_iff, iff_false]; omega
 have z2 : ((E : Int) = 0) = False := by simp only [eq_iff_iff, iff_false]; omega
 have z3 : ((M : Int) = 0) = False := by simp only [eq_iff_iff, iff_false]; omega
 have fM : IntKind.u64.wrap (BitVec.ofInt IntKind.u64.bits (F : Int) ||| BitVec.ofInt IntKind.u64.bits 4503599627370496).toNat = (M : Int) := by
  have h' : IntKind.u64.wrap (BitVec.ofInt IntKind.u64.bits (F : Int) ||| BitVec.ofInt IntKind.u64.bits 4503599627370496).toNat = ((F ||| 4503599627370496 : Nat) : Int) := or_u64 F 4503599627370496 (by omega) (by omega)
  have h2 := or_high F 52 (by omega)
  rw [show (2 : Nat) ^ 52 = 4503599627370496 from rfl] at h2
  exact h'.trans (congrArg Nat.cast (h2.trans (by omega)))
 have fe : IntKind.i64.wrap ((E : Int) + -1023) = 52 - (t : Int) := by rw [wrap_in (by omega) (by omega)]; omega
 have fl : lenN M = 53 := lenN_of (L := 52) hM hM2
 have f64 : IntKind.i64.wrap (64 - ((53 : Nat) : Int)) = 11 := rfl
 have fm : IntKind.u64.wrap ((M : Int) * 2 ^ 11) = ((M * 2048 : Nat) : Int) := by rw [wrap_u64]; omega
 have fe2 : IntKind.i64.wrap (52 - (t : Int) - 11) = 41 - (t : Int) := by rw [wrap_in (by omega) (by omega)]; omega
 have fe3 : IntKind.i64.wrap (41 - (t : Int) - 52) = -(t : Int) - 11 := by rw [wrap_in (by omega) (by omega)]; omega
 obtain ⟨P, sh, mn, hi, hP1, hP2, hsh, hhi, hhiT, hloT, hpow, hnot, hsv, b1, b2, hox, hfirst, hd⟩ := short_math hk ht ht2 hM hM2 hN
 rw [← usc_eq] at b1 b2 hox hfirst hd
 have hng : decide (((neg.toNat : Nat) : Int) = 0) = !neg := by cases neg <;> rfl
 repeat (first | apply WK.seq | apply WK.block | apply WK.skipSeq | apply WK.skipBlock | apply WK.retSeq | apply WK.retBlock | apply WK.exitSeq | apply WK.exitHere | refine WK.exitOn rfl ?_ | ((first | (refine WK.rgn ?_ ?_; kernel_rfl) | refine AtCall.now ?_); simp (config := { maxSteps := 1000000 }) only [SS, qx20, forall_const, vconv, vun, tap, tap2, tap3, tap4, tsrc, tsrc2, Int.reduceEq, Int.reduceNeg, Nat.reduceGT, Nat.reduceLT, Nat.reduceLeDiff, Nat.reduceEqDiff, ↓reduceIte, reduceCtorEq, Int.reduceToNat, Int.reduceLE, Int.reduceLT, Nat.reduceAdd, Nat.reduceMul, ext_f64, ft1, ft2, ft3, ft4, ft5, ft6, ft7, ft8, nb63, nb52, nb11, fS, hng, f52, fw, fE, fF, z1, z2, z3, fM, fe, ff_110]) | (refine WK.condT ?_ ?_; focus (simp only [ev_tmp, ev_const, fset_apply, Nat.reduceEqDiff, ↓reduceIte, decide_true, decide_false, ext_f64, ft1, ft2, ft3, ft4, ft5, ft6, ft7, ft8, nb63, nb52, nb11, fS, hng, f52, fw, fE, fF, z1, z2, z3, fM, fe, ff_110]; done)) | (refine WK.condF ?_ ?_; focus (simp only [ev_tmp, ev_const, fset_apply, Nat.reduceEqDiff, ↓reduceIte, decide_true, decide_false, ext_f64, ft1, ft2, ft3, ft4, ft5, ft6, ft7, ft8, nb63, nb52, nb11, fS, hng, f52, fw, fE, fF, z1, z2, z3, fM, fe, ff_110]; done)))
 refine AtCall.by (len_gives M (by omega) _ _) ?_
 rintro v n1 H1 hk1 ⟨rfl, rfl, rfl⟩
 simp (config := { maxSteps := 1000000 }) only [SS, qx20, forall_const, vconv, vun, tap, tap2, tap3, tap4, tsrc, tsrc2, Int.reduceEq, Int.reduceNeg, Nat.reduceGT, Nat.reduceLT, Nat.reduceLeDiff, Nat.reduceEqDiff, ↓reduceIte, reduceCtorEq, Int.reduceToNat, Int.reduceLE, Int.reduceLT, Nat.reduceAdd, Nat.reduceMul, fl, f64, ff_110]
 repeat (first | apply WK.seq | apply WK.block | apply WK.skipSeq | apply WK.skipBlock | apply WK.retSeq | apply WK.retBlock | apply WK.exitSeq | apply WK.exitHere | refine WK.exitOn rfl ?_ | ((first | (refine WK.rgn ?_ ?_; kernel_rfl) | refine AtCall.now ?_); simp (config := { maxSteps := 1000000 }) only [SS, qx20, forall_const, vconv, vun, tap, tap2, tap3, tap4, tsrc, tsrc2, Int.reduceEq, Int.reduceNeg, Nat.reduceGT, Nat.reduceLT, Nat.reduceLeDiff, Nat.reduceEqDiff, ↓reduceIte, reduceCtorEq, Int.reduceToNat, Int.reduceLE, Int.reduceLT, Nat.reduceAdd, Nat.reduceMul, min11, nb11, fm, fe2, fe3, ff_110]) | (refine WK.condT ?_ ?_; focus (simp only [ev_tmp, ev_const, fset_apply, Nat.reduceEqDiff, ↓reduceIte, decide_true, decide_false, min11, nb11, fm, fe2, fe3, ff_110]; done)) | (refine WK.condF ?_ ?_; focus (simp only [ev_tmp, ev_const, fset_apply, Nat.reduceEqDiff, ↓reduceIte, decide_true, decide_false, min11, nb11, fm, fe2, fe3, ff_110]; done)))
 generalize hzs : ([Value.int .u8 (Int.ofNat 0), Value.int .u8 (Int.ofNat 0), Value.int .u8 (Int.ofNat 0), Value.int .u8 (Int.ofNat 0), Value.int .u8 (Int.ofNat 0), Value.int .u8 (Int.ofNat 0), Value.int .u8 (Int.ofNat 0), Value.int .u8 (Int.ofNat 0), Value.int .u8 (Int.ofNat 0), Value.int .u8 (Int.ofNat 0), Value.int .u8 (Int.ofNat 0), Value.int .u8 (Int.ofNat 0), Value.int .u8 (Int.ofNat 0), Value.int .u8 (Int.ofNat 0), Value.int .u8 (Int.ofNat 0), Value.int .u8 (Int.ofNat 0), Value.int .u8 (Int.ofNat 0), Value.int .u8 (Int.ofNat 0), Value.int .u8 (Int.ofNat 0), Value.int .u8 (Int.ofNat 0), Value.int .u8 (Int.ofNat 0), Value.int .u8 (Int.ofNat 0), Value.int .u8 (Int.ofNat 0), Value.int .u8 (Int.ofNat 0), Value.int .u8 (Int.ofNat 0), Value.int .u8 (Int.ofNat 0), Value.int .u8 (Int.ofNat 0), Value.int .u8 (Int.ofNat 0), Value.int .u8 (Int.ofNat 0), Value.int .u8 (Int.ofNat 0), Value.int .u8 (Int.ofNat 0), Value.int .u8 (Int.ofNat 0)] : List Value) = zs at *
 have hzl : zs.length = 32 := by rw [← hzs]; rfl
 clear hzs
 have hkn := Kp.new n H (.cells zs 140 true)
 have hWF := hkn.wf hw
 have h4a : hset H n (.cells zs 140 true) 4 = .cells pows 179 false := by
  rw [hset_ne _ _ _ (by intro h; rw [h, hw n (Nat.le_refl _)] at h4; cases h4)]; exact h4
 have h3a : hset H n (.cells zs 140 true) 3 = .cells tens 168 false := by
  rw [hset_ne _ _ _ (by intro h; rw [h, hw n (Nat.le_refl _)] at h3; cases h3)]; exact h3
 have hyn1 := hset_at H n (.cells zs 140 true)
 have hya := (hkn.keep y0 hyn).trans hy0
 have g3n : 3 < n + 1 := by
  apply Decidable.byContradiction; intro h; rw [hWF _ (by omega)] at h3a; cases h3a
 generalize hH1 : hset H n (.cells zs 140 true) = H1 at *
 refine AtCall.by (short_gives (M * 2048) (-(t : Int) - 11) P mn (M * 2048 + 1024) (M * 2048 / 2048 % 2) hi 0 sh (by omega) (by omega) (by omega) hpow hnot rfl rfl (by rw [hhiT]; rfl) (by rw [hloT]; rfl) hhi (by omega) hsv hsh b1 b2 hox hfirst hWF h4a) ?_
 rintro v n2 H2 hk2 rfl
 rw [hd]
 have hdb : N * 10 ^ (P - 1 - k) < 9223372036854775808 := by rw [← hd]; omega
 generalize hdd : N * 10 ^ (P - 1 - k) = d at *
 have h3b := (hk2.keep _ g3n).trans h3a
 have hyn2 := (hk2.keep n (by omega)).trans hyn1
 have hyb := (hk2.keep y0 (by omega)).trans hya
 have hle2 := hk2.le
 simp (config := { maxSteps := 1000000 }) only [SS, qx20, forall_const, vconv, vun, tap, tap2, tap3, tap4, tsrc, tsrc2, Int.reduceEq, Int.reduceNeg, Nat.reduceGT, Nat.reduceLT, Nat.reduceLeDiff, Nat.reduceEqDiff, ↓reduceIte, reduceCtorEq, Int.reduceToNat, Int.reduceLE, Int.reduceLT, Nat.reduceAdd, Nat.reduceMul, ff_110]
 repeat (first | apply WK.seq | apply WK.block | apply WK.skipSeq | apply WK.skipBlock | apply WK.retSeq | apply WK.retBlock | apply WK.exitSeq | apply WK.exitHere | refine WK.exitOn rfl ?_)
 have hml : (32 ≤ maxLen) = True := by simp [maxLen]
 (refine WK.rgs [true, true, true, true, true, false] (by kernel_rfl) (by kernel_rfl) ?_; simp (config := { maxSteps := 1000000 }) only [wz, SS, forall_const, wx, tguard, acallee, top, tval, fput, tor, vsh, vbin, vconv, vun, tload, tload2, tload3, tfa, tfa2, tpick, textr, talloc, still, still1, flat1, one, tsl, tsl2, tsl3, tsl4, tsl5, Go.AM.bound, tap, tap2, tap3, tap4, tsrc, tsrc2, Int.reduceEq, Int.reduceNeg, Nat.reduceGT, Nat.reduceLT, Nat.reduceLeDiff, Nat.reduceEqDiff, ↓reduceIte, reduceCtorEq, Int.reduceToNat, Int.reduceLE, Int.reduceLT, Nat.reduceAdd, Nat.reduceMul, hyn2, hzl, hml, ff_110])
 refine AtCall.by (digits_gives d hdb h3b) ?_
 rintro v n3 H3 hk3 ⟨rfl, rfl, rfl⟩
 simp (config := { maxSteps := 1000000 }) only [SS, qx20, forall_const, vconv, vun, tap, tap2, tap3, tap4, tsrc, tsrc2, Int.reduceEq, Int.reduceNeg, Nat.reduceGT, Nat.reduceLT, Nat.reduceLeDiff, Nat.reduceEqDiff, ↓reduceIte, reduceCtorEq, Int.reduceToNat, Int.reduceLE, Int.reduceLT, Nat.reduceAdd, Nat.reduceMul, wz, ff_110]
 have hd0 : d ≠ 0 := by
  rw [← hdd]; exact Nat.mul_ne_zero hN0 (Nat.pos_iff_ne_zero.1 (Nat.pow_pos (by omega)))
 obtain ⟨nd1, nd2, nd3, nd4⟩ := numD_spec hd0 hdb
 obtain ⟨nd, hnd⟩ : ∃ nd, numD d = nd := ⟨_, rfl⟩
 rw [hnd] at nd1 nd2 nd3 nd4
 simp only [hnd]
 refine AtCall.byX (setDigits_gives (x := n) (L := 32) (d := d) (nd := nd) (p := -((P : Int) - 1)) hyn2 hzl.symm (by omega) (by omega) (by omega) nd2 (by omega)) ?_
 rintro v n4 H4 kx4 ⟨rfl, cs, nz, rfl, hcs, hcl, hget, hnz, htrim, hlast⟩
 have hyc := (kx4.keep y0 (by omega) (by omega)).trans hyb
 obtain ⟨dp, hdp⟩ : ∃ dp, (nd : Int) + -((P : Int) - 1) = dp := ⟨_, rfl⟩
 rw [hdp]
 have wdp : IntKind.i64.wrap ((nz : Int) - dp) = (nz : Int) - dp := by rw [wrap_in (by omega) (by omega)]
 obtain ⟨pr, hpr⟩ : ∃ pr, (if (nz : Int) - dp < 0 then 0 else (nz : Int) - dp) = pr := ⟨_, rfl⟩
 simp (config := { maxSteps := 1000000 }) only [SS, qx20, forall_const, vconv, vun, tap, tap2, tap3, tap4, tsrc, tsrc2, Int.reduceEq, Int.reduceNeg, Nat.reduceGT, Nat.reduceLT, Nat.reduceLeDiff, Nat.reduceEqDiff, ↓reduceIte, reduceCtorEq, Int.reduceToNat, Int.reduceLE, Int.reduceLT, Nat.reduceAdd, Nat.reduceMul, wz, ff_110]
 repeat (first | apply WK.seq | apply WK.block | apply WK.skipSeq | apply WK.skipBlock | apply WK.retSeq | apply WK.retBlock | apply WK.exitSeq | apply WK.exitHere | refine WK.exitOn rfl ?_ | ((first | (refine WK.rgn ?_ ?_; kernel_rfl) | refine AtCall.now ?_); simp (config := { maxSteps := 1000000 }) only [SS, qx20, forall_const, vconv, vun, tap, tap2, tap3, tap4, tsrc, tsrc2, Int.reduceEq, Int.reduceNeg, Nat.reduceGT, Nat.reduceLT, Nat.reduceLeDiff, Nat.reduceEqDiff, ↓reduceIte, reduceCtorEq, Int.reduceToNat, Int.reduceLE, Int.reduceLT, Nat.reduceAdd, Nat.reduceMul, aop_max, tmm, wdp, hpr, hcs, hcl, hml, ff_110]) | (refine WK.condT ?_ ?_; focus (simp only [ev_tmp, ev_const, fset_apply, Nat.reduceEqDiff, ↓reduceIte, decide_true, decide_false, aop_max, tmm, wdp, hpr, hcs, hcl, hml, ff_110]; done)) | (refine WK.condF ?_ ?_; focus (simp only [ev_tmp, ev_const, fset_apply, Nat.reduceEqDiff, ↓reduceIte, decide_true, decide_false, aop_max, tmm, wdp, hpr, hcs, hcl, hml, ff_110]; done)))
 refine AtCall.byX (fmt_gives (x := n) (y0 := y0) (Ls := 32) (nd := nz) (neg := neg) (dg := fun q => 48 + lft d nd q) (dp := dp) (prec := pr) hyc (by omega) (fun _ => ⟨rfl, hcs, fun q hq => hget q (by omega), by omega, by omega, by omega⟩) (by omega) (by omega) (by rw [← hpr]; split <;> omega) (by rw [← hpr]; split <;> omega) true) ?_
 rintro v n5 H5 kx5 ⟨y, rfl, hy⟩
 simp (config := { maxSteps := 1000000 }) only [SS, qx20, forall_const, vconv, vun, tap, tap2, tap3, tap4, tsrc, tsrc2, Int.reduceEq, Int.reduceNeg, Nat.reduceGT, Nat.reduceLT, Nat.reduceLeDiff, Nat.reduceEqDiff, ↓reduceIte, reduceCtorEq, Int.reduceToNat, Int.reduceLE, Int.reduceLT, Nat.reduceAdd, Nat.reduceMul, ff_110]
 repeat (first | apply WK.seq | apply WK.block | apply WK.skipSeq | apply WK.skipBlock | apply WK.retSeq | apply WK.retBlock | apply WK.exitSeq | apply WK.exitHere | refine WK.exitOn rfl ?_ | ((first | (refine WK.rgn ?_ ?_; kernel_rfl) | refine AtCall.now ?_); simp (config := { maxSteps := 1000000 }) only [SS, qx20, forall_const, vconv, vun, tap, tap2, tap3, tap4, tsrc, tsrc2, Int.reduceEq, Int.reduceNeg, Nat.reduceGT, Nat.reduceLT, Nat.reduceLeDiff, Nat.reduceEqDiff, ↓reduceIte, reduceCtorEq, Int.reduceToNat, Int.reduceLE, Int.reduceLT, Nat.reduceAdd, Nat.reduceMul, ff_110]) | (refine WK.condT ?_ ?_; focus (simp only [ev_tmp, ev_const, fset_apply, Nat.reduceEqDiff, ↓reduceIte, decide_true, decide_false, ff_110]; done)) | (refine WK.condF ?_ ?_; focus (simp only [ev_tmp, ev_const, fset_apply, Nat.reduceEqDiff, ↓reduceIte, decide_true, decide_false, ff_110]; done)))
 refine WK.retNil ⟨Or.inr rfl, _, rfl, fun z hz hzx => ?_, ?_⟩
 ·show H5 z = H z
  rw [kx5.keep z (by omega) hzx, kx4.keep z (by omega) (by omega), hk2.keep z (by omega)]
  exact hkn.keep z hz
 ·simp only [packed, fset_apply, Nat.reduceEqDiff, ↓reduceIte, List.getD_cons_zero, List.getD_cons_succ, ff_110]
  have hout : fmtS neg (fun q => 48 + lft d nd q) nz dp pr = outS neg d nz (P - 1) := by
   unfold outS
   have hdp' : (nd : Int) - ((P - 1 : Nat) : Int) = dp := by omega
   have hmx : max ((nz : Int) - dp) 0 = pr := by rw [← hpr]; split <;> omega
   rw [hnd, hdp', hmx]
  rw [hout] at hy ⊢
  refine ⟨P, nz, hP1, hP2, ?_, ?_, y, ?_, ?_⟩
  ·rw [hdd]; unfold Trim; rw [hnd]; exact ⟨hnz, htrim, hlast⟩
  ·rw [hdd]; exact hdb
  ·rw [hdd]
  ·rw [hdd]; exact hy
end Go.Proofs.YtihjaobjhmmboaaGreatDoor
