/- A part of a proof. Its conditions: none. -/
import Derived.Test.YtddpnhhgmfaloaaDoorAmC
set_option linter.all false
/- The double that is nearest to n / d. -/
namespace Go.AM
open Ieee
set_option maxRecDepth 20000

theorem cut_near (n drop : Nat) (hd : drop ≤ n.log2 + 2) : 2 * (Toward.cut .even false n drop * 2 ^ drop) ≤ 2 * n + 2 ^ drop ∧ 2 * n ≤ 2 * (Toward.cut .even false n drop * 2 ^ drop) + 2 ^ drop := by
  unfold Toward.cut
  simp only
  rw [Nat.min_eq_left hd, Nat.shiftLeft_eq, Nat.one_mul]
  have hG := Nat.two_pow_pos drop
  generalize 2 ^ drop = G at *
  have h1 := Nat.div_add_mod n G
  have h2 := Nat.mod_lt n hG
  generalize n / G = low at *
  generalize n % G = rest at *
  rw [Nat.add_mul, Nat.mul_comm low G]
  generalize G * low = X at *
  cases hb : (decide (G < 2 * rest) || (G == 2 * rest) && low % 2 == 1)
  · simp only [Bool.toNat_false, Nat.zero_mul, Nat.add_zero]
    simp at hb
    omega
  · simp only [Bool.toNat_true, Nat.one_mul]
    have : G ≤ 2 * rest := by simp at hb; omega
    omega

theorem cut_zero (n : Nat) : Toward.cut .even false n 0 = n := by
  unfold Toward.cut
  simp [Nat.mod_one]

/-- The word of a normal double. -/
def wd (M : Nat) (e : Int) : Nat := (e + 1074).toNat * 2 ^ 52 + M

theorem read_wd {M : Nat} {e : Int} (h1 : 2 ^ 52 ≤ M) (h2 : M < 2 ^ 53) (h3 : -1074 ≤ e) (h4 : e ≤ 900) : Format.read double (wd M e) = .number false M e := by
  have hsw : Format.signWeight double = 2 ^ 63 := rfl
  have hbin : Format.binade double = 2 ^ 52 := rfl
  have hinf : Format.infRung double = 2047 * 2 ^ 52 := rfl
  have hlp : Format.leastPlace double = -1074 := rfl
  obtain ⟨E, hE⟩ : ∃ E, (e + 1074).toNat = E := ⟨_, rfl⟩
  have hE1 : E ≤ 1974 := by omega
  unfold wd Format.read
  rw [hE]
  have hlt : E * 2 ^ 52 + M < 2 ^ 63 := by omega
  have a1 : ((E * 2 ^ 52 + M) / 2 ^ 63 % 2 == 1) = false := by rw [Nat.div_eq_of_lt hlt]; rfl
  have a2 : (E * 2 ^ 52 + M) % 2 ^ 63 = E * 2 ^ 52 + M := Nat.mod_eq_of_lt hlt
  simp only [hsw, hbin, hinf, hlp, a1, a2]
  rw [if_neg (by omega), if_pos (by omega)]
  congr 1 <;> omega

theorem write_norm (mag : Nat) (place : Int) (h0 : 0 < mag) (hp : -1000 ≤ place) (hq : place ≤ 500) (hl : 52 ≤ mag.log2) (hl2 : mag.log2 ≤ 60) :
    ∃ M e, Format.write double (.number false mag place) = wd M e ∧ 2 ^ 52 ≤ M ∧ M < 2 ^ 53 ∧ (e = place + (mag.log2 - 52 : Nat) ∨ e = place + (mag.log2 - 52 : Nat) + 1) ∧
      ∃ kept, kept = Toward.cut .even false mag (mag.log2 - 52) ∧ (M = kept ∧ e = place + (mag.log2 - 52 : Nat) ∨ M = 2 ^ 52 ∧ kept = 2 ^ 53 ∧ e = place + (mag.log2 - 52 : Nat) + 1) := by
  have hlp : Format.leastPlace double = -1074 := rfl
  have hfb : ((Format.fractionBits double : Nat) : Int) = 52 := rfl
  have hbin : Format.binade double = 2 ^ 52 := rfl
  have hinf : Format.infRung double = 2047 * 2 ^ 52 := rfl
  obtain ⟨L, hL⟩ : ∃ L, mag.log2 = L := ⟨_, rfl⟩
  have hlo : 2 ^ L ≤ mag := by rw [← hL]; exact Nat.log2_self_le (by omega)
  have hhi : mag < 2 ^ (L + 1) := by rw [← hL]; exact Nat.lt_log2_self
  rw [hL] at hl hl2 ⊢
  have e1 : (max (place + (L : Int) - 52) (-1074)) = place + (L - 52 : Nat) := by omega
  have e2 : (place - (place + ((L - 52 : Nat) : Int))).toNat = 0 := by omega
  have e3 : (place + ((L - 52 : Nat) : Int) - place).toNat = L - 52 := by omega
  obtain ⟨kept, hk⟩ : ∃ kept, Toward.cut .even false mag (L - 52) = kept := ⟨_, rfl⟩
  have hkn := cut_near mag (L - 52) (by omega)
  rw [hk] at hkn
  have hG : 2 ^ L = 2 ^ (L - 52) * 2 ^ 52 := by rw [← Nat.pow_add]; congr 1; omega
  have hG2 : 2 ^ (L + 1) = 2 ^ (L - 52) * 2 ^ 53 := by rw [← Nat.pow_add]; congr 1; omega
  have hGp := Nat.two_pow_pos (L - 52)
  have hkL : 2 ^ 52 ≤ kept := by
    refine Decidable.byContradiction fun hn => ?_
    have : (kept + 1) * 2 ^ (L - 52) ≤ 2 ^ 52 * 2 ^ (L - 52) := Nat.mul_le_mul_right _ (by omega)
    rw [Nat.add_mul, Nat.one_mul, Nat.mul_comm (2 ^ 52)] at this
    have hc := hkn.2
    generalize kept * 2 ^ (L - 52) = X at *
    omega
  have hkU : kept ≤ 2 ^ 53 := by
    refine Decidable.byContradiction fun hn => ?_
    have : (2 ^ 53 + 1) * 2 ^ (L - 52) ≤ kept * 2 ^ (L - 52) := Nat.mul_le_mul_right _ (by omega)
    rw [Nat.add_mul, Nat.one_mul, Nat.mul_comm (2 ^ 53)] at this
    have hc := hkn.1
    generalize kept * 2 ^ (L - 52) = X at *
    omega
  have hw : Format.write double (.number false mag place) = (place + ((L - 52 : Nat) : Int) + 1074).toNat * 2 ^ 52 + kept := by
    unfold Format.write Format.nearest
    simp only
    rw [if_neg (by omega), hlp, hfb, hbin, hinf, hL, e1, e2, e3, Nat.shiftLeft_zero, hk]
    unfold Format.word
    simp only [Bool.false_eq_true, if_false]
    have hsub : place + ((L - 52 : Nat) : Int) - -1074 = place + ((L - 52 : Nat) : Int) + 1074 := by omega
    rw [Nat.min_eq_left, hsub]
    · have : (place + ((L - 52 : Nat) : Int) - -1074).toNat ≤ 1600 := by omega
      generalize (place + ((L - 52 : Nat) : Int) - -1074).toNat = X at *
      omega
  by_cases h53 : kept = 2 ^ 53
  · refine ⟨2 ^ 52, place + (L - 52 : Nat) + 1, ?_, by omega, by omega, .inr rfl, kept, hk.symm, .inr ⟨rfl, h53, rfl⟩⟩
    rw [hw, h53]
    unfold wd
    have : (place + ((L - 52 : Nat) : Int) + 1 + 1074).toNat = (place + ((L - 52 : Nat) : Int) + 1074).toNat + 1 := by omega
    generalize (place + ((L - 52 : Nat) : Int) + 1 + 1074).toNat = X at *
    generalize (place + ((L - 52 : Nat) : Int) + 1074).toNat = Y at *
    omega
  · exact ⟨kept, place + (L - 52 : Nat), hw, hkL, by omega, .inl rfl, kept, hk.symm, .inl ⟨rfl, rfl⟩⟩

/-- Whole numbers are what they are. -/
theorem write_int (n : Nat) (h0 : 0 < n) (hl : n.log2 ≤ 52) :
    Format.nearest double false n 0 = wd (n * 2 ^ (52 - n.log2)) ((n.log2 : Int) - 52) ∧ 2 ^ 52 ≤ n * 2 ^ (52 - n.log2) ∧ n * 2 ^ (52 - n.log2) < 2 ^ 53 := by
  have hlp : Format.leastPlace double = -1074 := rfl
  have hfb : ((Format.fractionBits double : Nat) : Int) = 52 := rfl
  have hbin : Format.binade double = 2 ^ 52 := rfl
  have hinf : Format.infRung double = 2047 * 2 ^ 52 := rfl
  obtain ⟨L, hL⟩ : ∃ L, n.log2 = L := ⟨_, rfl⟩
  have hlo : 2 ^ L ≤ n := by rw [← hL]; exact Nat.log2_self_le (by omega)
  have hhi : n < 2 ^ (L + 1) := by rw [← hL]; exact Nat.lt_log2_self
  rw [hL] at hl ⊢
  have b1 : 2 ^ 52 ≤ n * 2 ^ (52 - L) := by
    have := Nat.mul_le_mul_right (2 ^ (52 - L)) hlo
    rwa [← Nat.pow_add, show L + (52 - L) = 52 by omega] at this
  have b2 : n * 2 ^ (52 - L) < 2 ^ 53 := by
    have := Nat.mul_lt_mul_of_pos_right hhi (Nat.two_pow_pos (52 - L))
    rwa [← Nat.pow_add, show L + 1 + (52 - L) = 53 by omega] at this
  refine ⟨?_, b1, b2⟩
  unfold Format.nearest
  simp only
  have e1 : (max ((0 : Int) + (L : Int) - 52) (-1074)) = (L : Int) - 52 := by omega
  have e2 : ((0 : Int) - ((L : Int) - 52)).toNat = 52 - L := by omega
  have e3 : ((L : Int) - 52 - 0).toNat = 0 := by omega
  rw [if_neg (by omega), hlp, hfb, hbin, hinf, hL, e1, e2, e3, cut_zero, Nat.shiftLeft_eq]
  unfold Format.word wd
  simp only [Bool.false_eq_true, if_false]
  rw [show (L : Int) - 52 - -1074 = (L : Int) - 52 + 1074 by omega]
  refine Nat.min_eq_left ?_
  have : ((L : Int) - 52 + 1074).toNat ≤ 1074 := by omega
  generalize ((L : Int) - 52 + 1074).toNat = X at *
  generalize n * 2 ^ (52 - L) = Y at *
  omega

/-- Of the quotient of n and d: a double with its significand M and its place e; n / d lies no further off than half a unit. -/
theorem div_near (n d : Nat) (hn : 0 < n) (hd : 0 < d) (hln : n.log2 ≤ 52) (hld : d.log2 ≤ 52) :
    ∃ M t : Nat, ∃ e : Int, Format.div double (Format.nearest double false n 0) (Format.nearest double false d 0) = some (wd M e) ∧ 2 ^ 52 ≤ M ∧ M < 2 ^ 53 ∧
      (n.log2 : Int) - d.log2 - 53 ≤ e ∧ e ≤ (n.log2 : Int) - d.log2 - 51 ∧ (e ≤ 0 → -e = (t : Int) → n * 2 ^ (t + 1) ≤ (2 * M + 1) * d ∧ (if M = 2 ^ 52 then (4 * M - 1) * d ≤ n * 2 ^ (t + 2) else (2 * M - 1) * d ≤ n * 2 ^ (t + 1))) ∧ (e ≤ 0 → -e = (t : Int)) := by
  obtain ⟨wn, an1, an2⟩ := write_int n hn hln
  obtain ⟨wdd, ad1, ad2⟩ := write_int d hd hld
  obtain ⟨Ln, hLn⟩ : ∃ L, n.log2 = L := ⟨_, rfl⟩
  obtain ⟨Ld, hLd⟩ : ∃ L, d.log2 = L := ⟨_, rfl⟩
  rw [hLn] at wn an1 an2 hln ⊢
  rw [hLd] at wdd ad1 ad2 hld ⊢
  generalize ha : n * 2 ^ (52 - Ln) = a at *
  generalize hb : d * 2 ^ (52 - Ld) = b at *
  have rn := read_wd (M := a) (e := (Ln : Int) - 52) an1 an2 (by omega) (by omega)
  have rd := read_wd (M := b) (e := (Ld : Int) - 52) ad1 ad2 (by omega) (by omega)
  have la : a.log2 = 52 := (Nat.log2_eq_iff (by omega)).2 ⟨an1, an2⟩
  have lb : b.log2 = 52 := (Nat.log2_eq_iff (by omega)).2 ⟨ad1, ad2⟩
  have hfb : Format.fractionBits double = 52 := rfl
  obtain ⟨Q, hQ⟩ : ∃ Q, a * 2 ^ 54 / b = Q := ⟨_, rfl⟩
  obtain ⟨r, hr⟩ : ∃ r, a * 2 ^ 54 % b = r := ⟨_, rfl⟩
  have hdm := Nat.div_add_mod (a * 2 ^ 54) b
  have hrb := Nat.mod_lt (a * 2 ^ 54) (show 0 < b by omega)
  rw [hQ, hr] at hdm
  rw [hr] at hrb
  obtain ⟨mag, hmag⟩ : ∃ mag, 2 * Q + (r != 0).toNat = mag := ⟨_, rfl⟩
  have hdiv : Format.div double (Format.nearest double false n 0) (Format.nearest double false d 0) = some (Format.write double (.number false mag ((Ln : Int) - Ld - 55))) := by
    unfold Format.div
    rw [wn, wdd, rn, rd, hfb]
    unfold Datum.quotient
    simp only [la, lb]
    rw [if_neg (by omega), Nat.shiftLeft_eq]
    simp only [show 52 + 2 + 52 - 52 = 54 from rfl, hQ, hr, hmag]
    rw [Option.map_some]
    congr 3
    omega
  have hQ1 : 2 ^ 53 ≤ Q := by
    rw [← hQ]; refine (Nat.le_div_iff_mul_le (by omega)).2 ?_
    clear rn rd wn wdd hdiv
    simp only [Nat.reducePow] at *
    omega
  have hQ2 : Q < 2 ^ 55 := by
    rw [← hQ]; refine Nat.div_lt_of_lt_mul ?_
    clear rn rd wn wdd hdiv
    simp only [Nat.reducePow] at *
    omega
  have hst : (r != 0).toNat ≤ 1 := by cases (r != 0) <;> simp
  have hm1 : 2 ^ 54 ≤ mag := by omega
  have hm2 : mag < 2 ^ 56 := by omega
  have hml : 54 ≤ mag.log2 ∧ mag.log2 ≤ 55 := by
    constructor
    · exact (Nat.le_log2 (by omega)).2 hm1
    · have := (Nat.log2_lt (by omega)).2 hm2; omega
  -- even bounds of mag are bounds of the quotient
  have low : ∀ E : Nat, E % 2 = 0 → E ≤ mag → E * b ≤ 2 * (a * 2 ^ 54) := by
    intro E h2 hE
    have : E ≤ 2 * Q := by omega
    have := Nat.mul_le_mul_right b this
    rw [← hdm, Nat.mul_add, Nat.mul_comm b Q, ← Nat.mul_assoc]
    omega
  have high : ∀ E : Nat, E % 2 = 0 → mag ≤ E → 2 * (a * 2 ^ 54) ≤ E * b := by
    intro E h2 hE
    rw [← hdm, Nat.mul_add, Nat.mul_comm b Q, ← Nat.mul_assoc]
    by_cases h0 : r = 0
    · rw [h0]
      have : 2 * Q ≤ E := by omega
      have := Nat.mul_le_mul_right b this
      omega
    · have h1 : (r != 0).toNat = 1 := by simp [h0]
      have : 2 * Q + 2 ≤ E := by omega
      have := Nat.mul_le_mul_right b this
      rw [Nat.add_mul] at this
      omega
  obtain ⟨M, e, hw, hM1, hM2, he, kept, hk, hke⟩ := write_norm mag ((Ln : Int) - Ld - 55) (by omega) (by omega) (by omega) (by omega) (by omega)
  obtain ⟨dr, hdr⟩ : ∃ dr, mag.log2 - 52 = dr + 1 := ⟨mag.log2 - 53, by omega⟩
  have hdr1 : 1 ≤ dr ∧ dr ≤ 2 := by omega
  rw [hdr] at hk he hke
  have hkn := cut_near mag (dr + 1) (by omega)
  rw [← hk] at hkn
  rw [Nat.pow_succ] at hkn
  have hmlo : 2 ^ 52 * 2 ^ (dr + 1) ≤ mag := by
    rw [← Nat.pow_add, show 52 + (dr + 1) = mag.log2 by omega]; exact Nat.log2_self_le (by omega)
  obtain ⟨g, hg⟩ : ∃ g, 2 ^ dr = 2 * g := by
    refine ⟨2 ^ (dr - 1), ?_⟩
    rw [← Nat.pow_succ']; congr 1; omega
  -- the bounds
  have up : 2 * (a * 2 ^ 54) ≤ (2 * kept + 1) * 2 ^ dr * b := by
    refine high _ ?_ ?_
    · rw [hg, ← Nat.mul_assoc, Nat.mul_comm _ 2, Nat.mul_assoc, Nat.mul_mod_right]
    · have h := hkn.2
      rw [show kept * (2 ^ dr * 2) = 2 * (kept * 2 ^ dr) by rw [Nat.mul_comm (2 ^ dr) 2, ← Nat.mul_assoc, Nat.mul_comm kept 2, Nat.mul_assoc]] at h
      rw [Nat.add_mul, Nat.one_mul, Nat.mul_assoc]
      generalize kept * 2 ^ dr = X at *
      omega
  have dn : (2 * kept - 1) * 2 ^ dr * b ≤ 2 * (a * 2 ^ 54) := by
    refine low _ ?_ ?_
    · rw [hg, ← Nat.mul_assoc, Nat.mul_comm _ 2, Nat.mul_assoc, Nat.mul_mod_right]
    · have h := hkn.1
      rw [show kept * (2 ^ dr * 2) = 2 * (kept * 2 ^ dr) by rw [Nat.mul_comm (2 ^ dr) 2, ← Nat.mul_assoc, Nat.mul_comm kept 2, Nat.mul_assoc]] at h
      rw [Nat.sub_mul, Nat.one_mul, Nat.mul_assoc]
      generalize kept * 2 ^ dr = X at *
      omega
  have dn2 : 2 ^ 52 * 2 ^ (dr + 1) * b ≤ 2 * (a * 2 ^ 54) := by
    refine low _ ?_ hmlo
    rw [Nat.pow_succ 2 dr, ← Nat.mul_assoc, Nat.mul_mod_left]
  refine ⟨M, (-e).toNat, e, by rw [hdiv, hw], hM1, hM2, by omega, by omega, ?_, by omega⟩
  intro he0 ht
  generalize (-e).toNat = t at ht
  have cv : ∀ z : Nat, 107 - Ln = dr + 52 - Ld + z → ∀ c : Nat, (2 * (a * 2 ^ 54) ≤ c * 2 ^ dr * b → n * 2 ^ z ≤ c * d) ∧ (c * 2 ^ dr * b ≤ 2 * (a * 2 ^ 54) → c * d ≤ n * 2 ^ z) := by
    intro z hz c
    have e1 : 2 * (a * 2 ^ 54) = n * 2 ^ z * 2 ^ (dr + (52 - Ld)) := by
      rw [← ha, Nat.mul_assoc n (2 ^ z), ← Nat.pow_add, Nat.mul_comm 2, Nat.mul_assoc, ← Nat.pow_succ, Nat.mul_assoc, ← Nat.pow_add]
      congr 2; omega
    have e2 : c * 2 ^ dr * b = c * d * 2 ^ (dr + (52 - Ld)) := by
      rw [← hb, Nat.pow_add, Nat.mul_assoc, Nat.mul_assoc]
      congr 1
      rw [Nat.mul_left_comm]
    rw [e1, e2]
    exact ⟨fun h => Nat.le_of_mul_le_mul_right h (Nat.two_pow_pos _), fun h => Nat.le_of_mul_le_mul_right h (Nat.two_pow_pos _)⟩
  rcases hke with ⟨rfl, he1⟩ | ⟨hM52, hk53, he1⟩
  · have z1 := cv (t + 1) (by omega)
    refine ⟨(z1 _).1 up, ?_⟩
    split
    · rename_i h52
      have := (z1 (2 ^ 53)).2 (by rw [Nat.pow_succ 2 dr, Nat.mul_comm (2 ^ dr) 2, ← Nat.mul_assoc (2 ^ 52)] at dn2; exact dn2)
      rw [Nat.pow_succ, ← Nat.mul_assoc] 
      have h3 : (4 * M - 1) * d ≤ 2 ^ 53 * d * 2 := by rw [Nat.mul_right_comm]; exact Nat.mul_le_mul_right _ (by omega)
      omega
    · exact (z1 _).2 dn
  · have z1 := cv (t + 2) (by omega)
    subst hM52
    rw [hk53] at up dn
    have u := (z1 _).1 up
    have l := (z1 _).2 dn
    rw [if_pos rfl]
    refine ⟨?_, ?_⟩
    · rw [Nat.pow_succ, ← Nat.mul_assoc] at u
      have h3 : (2 * 2 ^ 53 + 1) * d ≤ (2 * 2 ^ 52 + 1) * d * 2 := by rw [Nat.mul_right_comm]; exact Nat.mul_le_mul_right _ (by omega)
      omega
    · exact l
end Go.AM
