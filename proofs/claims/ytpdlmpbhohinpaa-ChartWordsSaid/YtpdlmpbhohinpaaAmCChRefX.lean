/- A part of a proof. Its conditions: none. -/
import Derived.Test.YtpdlmpbhohinpaaAmCChRefW
set_option linter.all false
namespace Go.Proofs.Ytpdlmpbhohinpaa
open Go.AM Go.RowKit
set_option maxRecDepth 100000
def begs (h x : List Int) : Prop := h.length ≤ x.length ∧ x.take h.length = h
instance (h x : List Int) : Decidable (begs h x) := inferInstanceAs (Decidable (_ ∧ _))
def finB (h : List Int) (st : List Int × Bool) (x : List Int) : List Int × Bool := if begs h x ∧ (st.2 = false ∨ x.length < st.1.length) then (x, true) else st
def finS (ls : List (List Int)) (h : List Int) : List Int × Bool := ls.foldl (finB h) ([], false)
theorem finS_snoc {ls : List (List Int)} {h : List Int} {j : Nat} (hj : j < ls.length) : finS (ls.take (j + 1)) h = finB h (finS (ls.take j) h) ls[j] := by
  unfold finS
  rw [List.take_succ_eq_append_getElem hj, List.foldl_append]; rfl
theorem finS_ok (h : List Int) : ∀ (ls : List (List Int)), srt ls → ((finS ls h).2 = false → ∀ x ∈ ls, ¬ begs h x) ∧ ((finS ls h).2 = true → (finS ls h).1 ∈ ls ∧ begs h (finS ls h).1 ∧ ∀ x ∈ ls, begs h x → (finS ls h).1.length < x.length ∨ ((finS ls h).1.length = x.length ∧ less x (finS ls h).1 = false)) := by
  refine snocInd ?_ ?_
  · intro _; exact ⟨(fun _ x hx => (by cases hx)), (fun h => by cases h)⟩
  · intro ls y ih hs
    have hs1 : srt ls := (List.pairwise_append.1 hs).1
    have hs2 : ∀ x ∈ ls, less x y = true := fun x hx => (List.pairwise_append.1 hs).2.2 x hx y (by simp)
    obtain ⟨h1, h2⟩ := ih hs1
    have e : finS (ls ++ [y]) h = finB h (finS ls h) y := by unfold finS; rw [List.foldl_append]; rfl
    rw [e]
    unfold finB
    generalize finS ls h = st at *
    obtain ⟨en, is⟩ := st
    simp only at h1 h2 ⊢
    split
    · rename_i hc
      refine ⟨(fun h => by cases h), fun _ => ⟨by simp, hc.1, fun x hx hb => ?_⟩⟩
      rcases List.mem_append.1 hx with hx | hx
      · cases is with
        | false => exact absurd hb (h1 rfl x hx)
        | true =>
          have hlt : y.length < en.length := by
            rcases hc.2 with h | h
            · cases h
            · exact h
          rcases (h2 rfl).2.2 x hx hb with h3 | ⟨h3, _⟩
          · exact .inl (by simp only; omega)
          · exact .inl (by simp only; omega)
      · have : x = y := by simpa using hx
        subst this
        exact .inr ⟨rfl, less_irr _⟩
    · rename_i hc
      refine ⟨fun hf x hx hb => ?_, fun ht => ?_⟩
      · simp only at hf
        rcases List.mem_append.1 hx with hx | hx
        · exact h1 hf x hx hb
        · have : x = y := by simpa using hx
          subst this
          exact hc ⟨hb, .inl hf⟩
      · simp only at ht
        obtain ⟨h3, h4, h5⟩ := h2 ht
        refine ⟨by simp [h3], h4, fun x hx hb => ?_⟩
        rcases List.mem_append.1 hx with hx | hx
        · exact h5 x hx hb
        · have : x = y := by simpa using hx
          subst this
          have hnl : ¬ x.length < en.length := fun hh => hc ⟨hb, .inr hh⟩
          rcases Nat.lt_or_ge en.length x.length with h6 | h6
          · exact .inl h6
          · exact .inr ⟨show en.length = x.length by omega, less_asym (hs2 _ h3)⟩
set_option maxHeartbeats 8000000 in
theorem fin17_gives {z : Nat} {ph : Option Addr} {cs : List Value} {ls : List (List Int)} {h : List Int} {own : Bool} {ty : TypeId} {n : Nat} {H : Heap} (hw : WF n H) (hz : H z = .cells cs ty own) (hl : LT H cs ls) (hls : ls.length ≤ 1000) (hh : RA (Value.int .i64) H ph h) (hhl : h.length ≤ 1000) (hll : ∀ l ∈ ls, l.length ≤ 1000000) :
    Gives Try.prog 20 [.slice (some ⟨z, 0, none⟩) ls.length ls.length, .slice ph h.length h.length] n H fun v n' H' => ∃ p, v = .tuple #[.slice p (finS ls h).1.length (finS ls h).1.length, .bool (finS ls h).2] ∧ RI H' p (finS ls h).1 ∧ ((∃ i : Nat, ls[i]? = some (finS ls h).1 ∧ cs[i]? = some (Value.slice p (finS ls h).1.length (finS ls h).1.length)) ∨ p = some ⟨n, 0, none⟩) := by
  refine Gives.of orders ok20 (Nat.le_of_ble_eq_true rfl) ?_
  have hzn : z < n := Classical.byContradiction fun hc => by rw [hw z (by omega)] at hz; cases hz
  have k0 := Kp.new n H (.cells [] 3 true)
  have b0 := hset_at H n (.cells [] 3 true)
  repeat (first | refine qqn rfl ?_ | ((first | (refine WK.rgn ?_ ?_; kernel_rfl) | refine AtCall.now ?_); simp (config := {maxSteps:=999999}) only [SS, qx30, forall_const, vun, simprocAttr, ff_20]) | refine qqj rfl ?_ | refine qqk rfl ?_)
  have hl0 := hl.kp hw k0
  have hh0 := hh.mono hw k0
  have hz0 := (k0.keep z hzn).trans hz
  have ri0 : RI (hset H n (.cells [] 3 true)) (some ⟨n, 0, none⟩) [] := ⟨n, 0, [], true, rfl, b0, Nat.le_refl _, fun i y e => by cases e⟩
  generalize hset H n (.cells [] 3 true) = H0 at *
  refine WK.loop (fun k s => ∃ (j : Nat) (p : Option Addr), s.n = n + 1 ∧ s.H = H0 ∧ s.f 0 = .slice (some ⟨z, 0, none⟩) ls.length ls.length ∧ s.f 1 = .slice ph h.length h.length ∧ s.f 6 = .slice p (finS (ls.take j) h).1.length (finS (ls.take j) h).1.length ∧ (RI H0 p (finS (ls.take j) h).1 ∧ ((∃ i : Nat, ls[i]? = some (finS (ls.take j) h).1 ∧ cs[i]? = some (Value.slice p (finS (ls.take j) h).1.length (finS (ls.take j) h).1.length)) ∨ p = some ⟨n, 0, none⟩)) ∧ s.f 7 = .bool (finS (ls.take j) h).2 ∧ s.f 8 = .int .i64 (j : Nat) ∧ j ≤ ls.length ∧ k = ls.length - j) ls.length ?_ ?_
  · exact ⟨0, _, rfl, rfl, rfl, rfl, rfl, ⟨ri0, .inr rfl⟩, rfl, rfl, Nat.zero_le _, rfl⟩
  rintro k ⟨f, n2, H2⟩ ⟨j, p, rfl, rfl, f0, f1, f6, hp, f7, f8, hj, rfl⟩ ih
  simp only at f0 f1 f6 f7 f8 hz0 hl0 hh0 hp k0 ih
  by_cases hlt : j < ls.length
  · obtain ⟨q, c1, c2⟩ := hl0.2 j _ (List.getElem?_eq_getElem hlt)
    have hjw : IntKind.i64.wrap ((j : Int) + 1) = ((j + 1 : Nat) : Int) := by rw [wrap_in (by omega) (by omega)]; rfl
    have hsn := finS_snoc (h := h) hlt
    have hlj := hll _ (List.getElem_mem hlt)
    have hxj := List.getElem?_eq_getElem hlt
    generalize finS (ls.take j) h = st at *
    generalize ls[j] = x at *
    obtain ⟨en, is⟩ := st
    simp only at f6 f7 hp
    repeat (first | refine qqn rfl ?_ | ((first | (refine WK.rgn ?_ ?_; kernel_rfl) | refine AtCall.now ?_); simp (config := {maxSteps:=999999}) only [SS, qx30, forall_const, vun, simprocAttr, f0, f1, f6, f7, f8, hlt, hz0, c1, Nat.zero_add, ff_20]) | refine qqj rfl ?_ | refine qqk rfl ?_)
    refine AtCall.by (begins_gives c2 hh0 hlj (by omega)) ?_
    rintro v n3 H3 k3 ⟨rfl, rfl, rfl⟩
    unfold finB begs at hsn
    by_cases hb : h.length ≤ x.length ∧ x.take h.length = h
    · rw [decide_eq_true hb]
      cases is with
      | false =>
        rw [if_pos ⟨hb, .inl rfl⟩] at hsn
        simp (config := {maxSteps:=999999}) only [SS, qx30, forall_const, vun, simprocAttr, f7, ff_20]
        repeat (first | refine qqn rfl ?_ | ((first | (refine WK.rgn ?_ ?_; kernel_rfl) | refine AtCall.now ?_); simp (config := {maxSteps:=999999}) only [SS, qx30, forall_const, vun, simprocAttr, f0, f1, f6, f7, f8, hlt, hz0, c1, Nat.zero_add, hjw, ff_20]) | refine qqj rfl ?_ | refine qqk rfl ?_)
        refine ih (ls.length - (j + 1)) (by omega) _ ?_
        exact ⟨j + 1, q, rfl, rfl, f0, f1, by rw [hsn]; rfl, by rw [hsn]; exact ⟨c2, .inl ⟨j, hxj, c1⟩⟩, by rw [hsn]; rfl, rfl, hlt, rfl⟩
      | true =>
        by_cases hlx : x.length < en.length
        · rw [if_pos ⟨hb, .inr hlx⟩] at hsn
          have hlx' : (x.length : Int) < (en.length : Int) := by omega
          simp (config := {maxSteps:=999999}) only [SS, qx30, forall_const, vun, simprocAttr, f0, f6, f7, f8, hz0, c1, Nat.zero_add, hlt, hlx, ff_20]
          repeat (first | refine qqn rfl ?_ | ((first | (refine WK.rgn ?_ ?_; kernel_rfl) | refine AtCall.now ?_); simp (config := {maxSteps:=999999}) only [SS, qx30, forall_const, vun, simprocAttr, f0, f1, f6, f7, f8, hlt, hz0, c1, Nat.zero_add, hlx, hjw, ff_20]) | refine qqj rfl ?_ | refine qqk rfl ?_)
          refine ih (ls.length - (j + 1)) (by omega) _ ?_
          exact ⟨j + 1, q, rfl, rfl, f0, f1, by rw [hsn]; rfl, by rw [hsn]; exact ⟨c2, .inl ⟨j, hxj, c1⟩⟩, by rw [hsn]; rfl, rfl, hlt, rfl⟩
        · rw [if_neg (fun hc => by rcases hc.2 with h1 | h1; cases h1; exact hlx h1)] at hsn
          simp (config := {maxSteps:=999999}) only [SS, qx30, forall_const, vun, simprocAttr, f0, f6, f7, f8, hz0, c1, Nat.zero_add, hlt, hlx, ff_20]
          repeat (first | refine qqn rfl ?_ | ((first | (refine WK.rgn ?_ ?_; kernel_rfl) | refine AtCall.now ?_); simp (config := {maxSteps:=999999}) only [SS, qx30, forall_const, vun, simprocAttr, f0, f1, f6, f7, f8, hlt, hz0, c1, Nat.zero_add, hlx, hjw, ff_20]) | refine qqj rfl ?_ | refine qqk rfl ?_)
          refine ih (ls.length - (j + 1)) (by omega) _ ?_
          exact ⟨j + 1, p, rfl, rfl, f0, f1, by rw [hsn]; exact f6, by rw [hsn]; exact hp, by rw [hsn]; exact f7, rfl, hlt, rfl⟩
    · rw [decide_eq_false hb]
      rw [if_neg (fun hc => hb hc.1)] at hsn
      simp (config := {maxSteps:=999999}) only [SS, qx30, forall_const, vun, simprocAttr, ff_20]
      repeat (first | refine qqn rfl ?_ | ((first | (refine WK.rgn ?_ ?_; kernel_rfl) | refine AtCall.now ?_); simp (config := {maxSteps:=999999}) only [SS, qx30, forall_const, vun, simprocAttr, f0, f1, f6, f7, f8, hjw, ff_20]) | refine qqj rfl ?_ | refine qqk rfl ?_)
      refine ih (ls.length - (j + 1)) (by omega) _ ?_
      exact ⟨j + 1, p, rfl, rfl, f0, f1, by rw [hsn]; exact f6, by rw [hsn]; exact hp, by rw [hsn]; exact f7, rfl, hlt, rfl⟩
  · rw [List.take_of_length_le (by omega)] at f6 f7 hp
    repeat (first | refine qqn rfl ?_ | ((first | (refine WK.rgn ?_ ?_; kernel_rfl) | refine AtCall.now ?_); simp (config := {maxSteps:=999999}) only [SS, qx30, forall_const, vun, simprocAttr, f0, f1, f6, f7, f8, hlt, ff_20]) | refine qqj rfl ?_ | refine qqk rfl ?_)
    (first | refine WK.retNil ⟨Or.inr rfl, _, rfl, ?_, ?_⟩ | refine WK.skipNil ⟨Or.inl rfl, _, rfl, ?_, ?_⟩)
    · exact k0.keep
    · simp only [packed, fset_apply, Nat.reduceEqDiff, ↓reduceIte, List.getD_cons_zero, List.getD_cons_succ, f6, f7, ff_20]
      exact ⟨p, rfl, hp⟩
theorem LA.push {H : Heap} {cs : List Value} {ls : List (List Int)} {p : Option Addr} {l : List Int} (h : LA H cs ls) (hp : RA (Value.int .i64) H p l) : LA H (cs ++ [.slice p l.length l.length]) (ls ++ [l]) := by
  refine ⟨by simp [h.1], fun i x hx => ?_⟩
  rcases Nat.lt_or_ge i ls.length with hi | hi
  · rw [List.getElem?_append_left hi] at hx
    rw [List.getElem?_append_left (by rw [h.1]; exact hi)]
    exact h.2 i x hx
  · rw [List.getElem?_append_right hi] at hx
    cases hq : i - ls.length with
    | succ q => rw [hq] at hx; simp at hx
    | zero =>
      rw [hq] at hx
      simp at hx
      subst hx
      have : i = cs.length := by rw [h.1]; omega
      subst this
      exact ⟨p, by simp, hp⟩
theorem form_split (F : List Int) : (F.dropWhile AM.neg = [] ∧ ∀ s ∈ F, s < 0) ∨ ∃ t v rest, F = t ++ v :: rest ∧ (∀ s ∈ t, s < 0) ∧ 0 ≤ v ∧ F.takeWhile AM.neg = t ∧ F.dropWhile AM.neg = v :: rest := by
  have e := List.takeWhile_append_dropWhile (p := AM.neg) (l := F)
  cases hd : F.dropWhile AM.neg with
  | nil =>
    left
    rw [hd, List.append_nil] at e
    exact ⟨rfl, fun s hs => by rw [← e] at hs; exact takeWhile_neg hs⟩
  | cons v rest =>
    right
    rw [hd] at e
    refine ⟨_, v, rest, e.symm, fun s hs => takeWhile_neg hs, ?_, rfl, rfl⟩
    have := List.head?_dropWhile_not AM.neg F
    rw [hd] at this
    simp [AM.neg] at this
    omega
end Go.Proofs.Ytpdlmpbhohinpaa
