/- A part of a proof. Its conditions: none. -/
import Derived.Test.YtpdlmpbhohinpaaAmCChRefX
set_option linter.all false
namespace Go.Proofs.Ytpdlmpbhohinpaa
open Go.AM Go.RowKit
set_option maxRecDepth 100000
theorem Wst.skip {g : Gram} {c : Nat → Nat} {most at_ : Nat} {T out : List (List Int)} {F : List Int} (h : Wst g c most T at_ out) (hF : T[at_]? = some F) (hl : ¬ sumF c 0 F ≤ most) : Wst g c most T (at_ + 1) out :=
  ⟨h.start, h.snd, fun i G hi hG hc => by
    by_cases e : i = at_
    · subst e; rw [hF] at hG; cases hG; exact absurd hc hl
    · exact h.done i G (by omega) hG hc, h.osnd, h.osrt⟩
theorem Wst.word {g : Gram} {c : Nat → Nat} {most at_ : Nat} {T out : List (List Int)} {F : List Int} (h : Wst g c most T at_ out) (hF : T[at_]? = some F) (hneg : ∀ s ∈ F, s < 0) (hl : F.length ≤ most) : Wst g c most T (at_ + 1) (addL out (F.map fun s => -s - 1)) :=
  ⟨h.start, h.snd, fun i G hi hG hc => by
    by_cases e : i = at_
    · subst e; rw [hF] at hG; cases hG
      refine ⟨fun _ => mem_addL.2 (.inl rfl), fun t v rest e1 ht h0 => ?_⟩
      have := hneg v (by rw [e1]; simp)
      omega
    · obtain ⟨h1, h2⟩ := h.done i G (by omega) hG hc
      exact ⟨fun hn => mem_addL.2 (.inr (h1 hn)), h2⟩,
   fun x hx => by
    rcases mem_addL.1 hx with rfl | hx
    · exact ⟨h.snd F (List.mem_of_getElem? hF) _ (Yd.terms hneg), by simpa using hl⟩
    · exact h.osnd x hx, addL_srt h.osrt⟩
structure Wex (g : Gram) (T T' : List (List Int)) (t : List Int) (v : Int) (rest : List Int) (k : Nat) : Prop where
  pre : ∃ e, T' = T ++ e ∧ e.length ≤ k
  new : ∀ G ∈ T', G ∈ T ∨ ∃ k', ∃ hk : k' < g.rules.length, g.rules[k'].left = v ∧ G = t ++ g.rules[k'].right ++ rest
  all : ∀ k' (hk : k' < g.rules.length), k' < k → g.rules[k'].left = v → t ++ g.rules[k'].right ++ rest ∈ T'
theorem Wex.step {g : Gram} {T T' : List (List Int)} {t : List Int} {v : Int} {rest : List Int} {k : Nat} (h : Wex g T T' t v rest k) (hk : k < g.rules.length) {b : Bool} {T2 : List (List Int)} (hT : T2 = if b then T' ++ [t ++ g.rules[k].right ++ rest] else T') (hb : b = true → g.rules[k].left = v) (hn : b = false → g.rules[k].left = v → t ++ g.rules[k].right ++ rest ∈ T') : Wex g T T2 t v rest (k + 1) := by
  obtain ⟨e, he, hel⟩ := h.pre
  cases b with
  | false =>
    simp at hT
    subst hT
    refine ⟨⟨e, he, by omega⟩, h.new, fun k' hk' hlt hl => ?_⟩
    by_cases e : k' = k
    · subst e; exact hn rfl hl
    · exact h.all k' hk' (by omega) hl
  | true =>
    simp at hT
    refine ⟨⟨e ++ [t ++ g.rules[k].right ++ rest], by rw [hT, he]; simp, by simp; omega⟩, fun G hG => ?_, fun k' hk' hlt hl => ?_⟩
    · rw [hT] at hG
      rcases List.mem_append.1 hG with hG | hG
      · exact h.new G hG
      · exact .inr ⟨k, hk, hb rfl, by simpa using hG⟩
    · rw [hT]
      by_cases e : k' = k
      · subst e; simp
      · have := h.all k' hk' (by omega) hl
        exact List.mem_append_left _ this
theorem Wst.form {g : Gram} {c : Nat → Nat} {most at_ : Nat} {T T' out : List (List Int)} {t rest : List Int} {v : Int} (h : Wst g c most T at_ out) (hF : T[at_]? = some (t ++ v :: rest)) (ht : ∀ s ∈ t, s < 0) (h0 : 0 ≤ v) (hx : Wex g T T' t v rest g.rules.length) : Wst g c most T' (at_ + 1) out := by
  obtain ⟨e, he, _⟩ := hx.pre
  have hlt : at_ < T.length := (List.getElem?_eq_some_iff.1 hF).1
  refine ⟨by rw [he]; exact List.mem_append_left _ h.start, fun G hG z hz => ?_, fun i G hi hG hc => ?_, h.osnd, h.osrt⟩
  · rcases hx.new G hG with hG | ⟨k, hk, hl, rfl⟩
    · exact h.snd G hG z hz
    · obtain ⟨z1, z2, rfl, w1, w2⟩ := hz.split (a := t ++ g.rules[k].right) (b := rest) rfl
      obtain ⟨z3, z4, rfl, w3, w4⟩ := w1.split (a := t) (b := g.rules[k].right) rfl
      refine h.snd _ (List.mem_of_getElem? hF) _ ?_
      rw [List.append_assoc, ← hl]
      exact w3.append (.var hk w4 w2)
  · rw [he, List.getElem?_append_left (by omega)] at hG
    by_cases e1 : i = at_
    · subst e1
      rw [hF] at hG; cases hG
      refine ⟨fun hn => ?_, fun t' v' rest' e2 ht' h0' k hk hl => ?_⟩
      · have := hn v (by simp); omega
      · have e3 : t' = t ∧ v' = v ∧ rest' = rest := by
          rcases app_cases e2 with ⟨e, h1, h2⟩ | ⟨e, hne, h1, h2⟩
          · cases e with
            | nil =>
              rw [List.nil_append] at h2
              injection h2 with h3 h4
              exact ⟨by rw [h1]; simp, h3.symm, h4.symm⟩
            | cons y e =>
              rw [List.cons_append] at h2
              injection h2 with h3 h4
              have := ht' y (by rw [h1]; simp)
              omega
          · cases e with
            | nil => exact absurd rfl hne
            | cons y e =>
              rw [List.cons_append] at h2
              injection h2 with h3 h4
              have := ht y (by rw [h1]; simp)
              omega
        obtain ⟨rfl, rfl, rfl⟩ := e3
        exact hx.all k hk hk hl
    · obtain ⟨h1, h2⟩ := h.done i G (by omega) hG hc
      exact ⟨h1, fun t' v' rest' e2 ht' h0' k hk hl => by rw [he]; exact List.mem_append_left _ (h2 t' v' rest' e2 ht' h0' k hk hl)⟩
theorem LA.dead' {H : Heap} {cs : List Value} {ls : List (List Int)} {z : Nat} {ty : TypeId} {own : Bool} {cs0 : List Value} {ls0 : List (List Int)} (h : LA H cs ls) (hz : H z = .cells cs0 ty own) (h0 : LA H cs0 ls0) : LA (hset H z .dead) cs ls := ⟨h.1, fun i l hi => by
  obtain ⟨p, a, b⟩ := h.2 i l hi
  refine ⟨p, a, fun hl => ?_⟩
  obtain ⟨x, k, ds, ty', own', e1, e2, e3⟩ := b hl
  refine ⟨x, k, ds, ty', own', e1, (hset_ne _ _ _ ?_).trans e2, e3⟩
  rintro rfl
  rw [hz] at e2
  cases e2
  obtain ⟨y, l', rfl⟩ : ∃ y l', l = y :: l' := by
    cases l with
    | nil => exact absurd rfl hl
    | cons y l' => exact ⟨y, l', rfl⟩
  have h3 := e3 0 y rfl
  rw [Nat.add_zero] at h3
  have hk := (List.getElem?_eq_some_iff.1 h3).1
  obtain ⟨q, c1, _⟩ := h0.2 k _ (List.getElem?_eq_getElem (by rw [← h0.1]; exact hk))
  rw [c1] at h3
  cases h3⟩
def smF (g : Gram) (F : List Int) : Prop := F.length ≤ 24 ∧ ∀ s ∈ F, inI s ∧ s < g.vars.length
theorem step_form {g : Gram} {t rest : List Int} {v : Int} {k : Nat} (hk : k < g.rules.length) (hl : g.rules[k].left = v) {F : List Int} (hF : F = t ++ v :: rest) (htw : F.takeWhile AM.neg = t) (hdw : F.dropWhile AM.neg = v :: rest) : stepS g F (k : Int) = (t ++ g.rules[k].right ++ rest, 0) := by
  unfold stepS
  rw [if_neg (by omega), hdw, htw]
  simp only [Int.toNat_natCast, List.getElem?_eq_getElem hk, hl, if_true]
set_option maxHeartbeats 32000000 in
theorem words17_gives {v : Value} {g : Gram} {n : Nat} {H : Heap} (hw : WF n H) (hg : RG H v g) (wg : WG g) (ok : RightOK g) (hfew : few g = true) {c : Nat → Nat} {b : Nat → Int} (hc : CostOK g c b) :
    Gives Try.prog 10 [v, .int .i64 6, .int .i64 300] n H fun r n' H' => r = .tuple #[.slice none 0 0, .bool false] ∨ ∃ (ws : List (List Int)) (z : Nat) (cs : List Value), r = .tuple #[.slice (some ⟨z, 0, none⟩) ws.length ws.length, .bool true] ∧ n ≤ z ∧ z < n' ∧ H' z = .cells cs 26 true ∧ LT H' cs ws ∧ srt ws ∧ ws.length ≤ 400 ∧ ∀ x, x ∈ ws ↔ Yd g [0] x ∧ x.length ≤ 6 := by
  have hg0 := hg
  obtain ⟨pt, pv, pr, rfl, ht, hv, hr⟩ := hg
  refine Gives.of orders ok10 (Nat.le_of_ble_eq_true rfl) ?_
  have hk := Kp.new n H (.cells (gcells pt pv pr g) 25 true)
  have hk0 := hk
  have hb := hset_at H n (.cells (gcells pt pv pr g) 25 true)
  have hf24 : g.vars.length ≤ 8 ∧ g.rules.length ≤ 24 ∧ ∀ r ∈ g.rules, r.right.length ≤ 8 := by
    have := hfew
    simp [few] at this
    exact ⟨this.1.1.1, this.1.2, this.2⟩
  have hsym : ∀ (k : Nat) (hk : k < g.rules.length), ∀ s ∈ g.rules[k].right, inI s ∧ s < g.vars.length := fun k hk s hs => by
    have h1 := ((ok.rule k hk).sym s hs).2
    have h2 := ok.inG.right _ (List.getElem_mem hk) s hs
    have := ok.terms
    unfold inI
    omega
  repeat (first | refine qqn rfl ?_)
  (refine WK.rgn ?_ ?_; kernel_rfl; simp (config := {maxSteps:=999999}) only [SS, qx12, forall_const, vun, Int.reduceEq, Int.reduceNeg, Nat.reduceGT, Nat.reduceLT, Nat.reduceLeDiff, Nat.reduceEqDiff, ↓reduceIte, reduceCtorEq, Int.reduceToNat, Int.reduceLE, Int.reduceLT, Nat.reduceAdd, Nat.reduceMul, box_cells, box_one, ff_10])
  have hw1 := hk.wf hw
  have hg1 := hg0.mono hw hk
  generalize hset H n (.cells (gcells pt pv pr g) 25 true) = H1 at *
  have kA := Kp.new (n + 1) H1 (.cells [.int .i64 0] 3 true)
  have bA := hset_at H1 (n + 1) (.cells [.int .i64 0] 3 true)
  have wA := kA.wf hw1
  generalize hA : hset H1 (n + 1) (.cells [.int .i64 0] 3 true) = HA at *
  have kB := Kp.new (n + 1 + 1) HA (.cells [.slice (some ⟨n + 1, 0, none⟩) 1 1] 26 true)
  have bB := hset_at HA (n + 1 + 1) (.cells [.slice (some ⟨n + 1, 0, none⟩) 1 1] 26 true)
  have aB := (kB.keep (n + 1) (by omega)).trans bA
  have wB := kB.wf wA
  generalize hB : hset HA (n + 1 + 1) (.cells [.slice (some ⟨n + 1, 0, none⟩) 1 1] 26 true) = HB at *
  have kC := Kp.new (n + 1 + 1 + 1) HB (.cells [] 26 true)
  have bC := hset_at HB (n + 1 + 1 + 1) (.cells [] 26 true)
  have aC := (kC.keep (n + 1) (by omega)).trans aB
  have tC := (kC.keep (n + 1 + 1) (by omega)).trans bB
  have kABC := (kA.trans kB).trans kC
  generalize hC : hset HB (n + 1 + 1 + 1) (.cells [] 26 true) = HC at *
  have u1 : vcells (Value.int .i64 0) = [Value.int .i64 0] := rfl
  have u3 : ([Value.int .i64 0] : List Value).all one = true := rfl
  have u4 : Go.AM.splice [Value.int IntKind.i64 (Int.ofNat 0)] 0 [Value.int .i64 0] = [Value.int .i64 0] := rfl
  have v1 : vcells (Value.slice (some ⟨n + 1, 0, none⟩) 1 1) = [Value.slice (some ⟨n + 1, 0, none⟩) 1 1] := rfl
  have v3 : ([Value.slice (some ⟨n + 1, 0, none⟩) 1 1] : List Value).all one = true := rfl
  have v4 : Go.AM.splice [Value.slice none 0 0] 0 [Value.slice (some ⟨n + 1, 0, none⟩) 1 1] = [Value.slice (some ⟨n + 1, 0, none⟩) 1 1] := rfl
  repeat (first | refine qqn rfl ?_ | ((first | (refine WK.rgn ?_ ?_; kernel_rfl) | refine AtCall.now ?_); simp (config := {maxSteps:=999999}) only [SS, qx12, forall_const, vun, Int.reduceEq, Int.reduceNeg, Nat.reduceGT, Nat.reduceLT, Nat.reduceLeDiff, Nat.reduceEqDiff, ↓reduceIte, reduceCtorEq, Int.reduceToNat, Int.reduceLE, Int.reduceLT, Nat.reduceAdd, Nat.reduceMul, hA, u1, u3, u4, hB, v1, v3, v4, hC, ff_10]) | refine qqj rfl ?_ | refine qqk rfl ?_)
  have hv1 := ok.vars1
  have sm0 : smF g [0] := ⟨by simp, fun s hs => by simp at hs; subst hs; unfold inI; omega⟩
  have wst0 : Wst g c 6 [[0]] 0 [] := ⟨by simp, fun F hF z hz => by simp at hF; subst hF; exact hz, (fun i F hi => absurd hi (Nat.not_lt_zero _)), (fun x hx => by cases hx), List.Pairwise.nil⟩
  have la0 : LA HC [.slice (some ⟨n + 1, 0, none⟩) 1 1] [[0]] := ⟨rfl, fun i l hi => by
    cases i with
    | zero => simp at hi; subst hi; exact ⟨_, rfl, fun _ => ⟨n + 1, 0, _, _, _, rfl, aC, fun i y e => by
        cases i with
        | zero => simp at e; subst e; rfl
        | succ i => simp at e⟩⟩
    | succ i => simp at hi⟩
  refine WK.loop (fun k s => ∃ (at_ zT zO : Nat) (T out : List (List Int)) (cT cO : List Value), Kp (n + 1) H1 s.n s.H ∧ s.f 1 = .int .i64 6 ∧ s.f 2 = .int .i64 300 ∧ s.f 3 = .pointer (some ⟨n, 0, none⟩) ∧ s.f 8 = .slice (some ⟨zT, 0, none⟩) T.length T.length ∧ s.f 9 = .slice (some ⟨zO, 0, none⟩) out.length out.length ∧ s.f 10 = .int .i64 (at_ : Nat) ∧
    s.H zT = .cells cT 26 true ∧ s.H zO = .cells cO 26 true ∧ zT ≠ zO ∧ n + 1 ≤ zT ∧ n + 1 ≤ zO ∧ LA s.H cT T ∧ LT s.H cO out ∧ (∀ F ∈ T, smF g F) ∧ at_ ≤ T.length ∧ T.length ≤ 324 ∧ out.length ≤ at_ ∧ Wst g c 6 T at_ out ∧ k = 400 - at_) 400 ?_ ?_
  · exact ⟨0, n + 1 + 1, n + 1 + 1 + 1, [[0]], [], _, _, kABC, rfl, rfl, rfl, rfl, rfl, rfl, tC, bC, by omega, by omega, by omega, la0, ⟨rfl, fun i l h => by cases h⟩, fun F hF => by simp at hF; subst hF; exact sm0, by simp, by simp, Nat.zero_le _, wst0, rfl⟩
  clear kABC aC tC bC la0
  rintro kq ⟨f, n2, H2⟩ ⟨at_, zT, zO, T, out, cT, cO, kp, f1, f2, f3, f8, f9, f10, hzT, hzO, hne, hT1, hO1, la, lt, sm, hat, hTl, hol, wst, rfl⟩ ih
  simp only at f1 f2 f3 f8 f9 f10 kp hzT hzO la lt ih
  have hw2 := kp.wf hw1
  have hTn : zT < n2 := Classical.byContradiction fun hc => by rw [hw2 zT (by omega)] at hzT; cases hzT
  have hOn : zO < n2 := Classical.byContradiction fun hc => by rw [hw2 zO (by omega)] at hzO; cases hzO
  have hb2 := (kp.keep n (by omega)).trans hb
  have hg2 := hg1.mono hw1 kp
  have keep2 : ∀ x, x < n → H2 x = H x := fun x hx => (kp.keep x (by omega)).trans (hk.keep x hx)
  by_cases hlt : at_ < T.length
  · obtain ⟨p, c1, c2⟩ := la.2 at_ _ (List.getElem?_eq_getElem hlt)
    have hF := List.getElem?_eq_getElem hlt
    obtain ⟨hFl, hFs⟩ := sm _ (List.getElem_mem hlt)
    generalize T[at_] = F at *
    by_cases h300 : (300 : Int) < T.length
    · repeat (first | refine qqn rfl ?_ | ((first | (refine WK.rgn ?_ ?_; kernel_rfl) | refine AtCall.now ?_); simp (config := {maxSteps:=999999}) only [SS, qx12, forall_const, vun, Int.reduceEq, Int.reduceNeg, Nat.reduceGT, Nat.reduceLT, Nat.reduceLeDiff, Nat.reduceEqDiff, ↓reduceIte, reduceCtorEq, Int.reduceToNat, Int.reduceLE, Int.reduceLT, Nat.reduceAdd, Nat.reduceMul, f1, f2, f3, f8, f9, f10, hlt, h300, ff_10]) | refine qqj rfl ?_ | refine qqk rfl ?_)
      (first | refine WK.retNil ⟨Or.inr rfl, _, rfl, ?_, ?_⟩ | refine WK.skipNil ⟨Or.inl rfl, _, rfl, ?_, ?_⟩)
      · exact keep2
      · simp only [packed, fset_apply, Nat.reduceEqDiff, ↓reduceIte, List.getD_cons_zero, List.getD_cons_succ, ff_10]
        exact .inl trivial
    have haw : IntKind.i64.wrap ((at_ : Int) + 1) = ((at_ + 1 : Nat) : Int) := by rw [wrap_in (by omega) (by omega)]; rfl
    repeat (first | refine qqn rfl ?_ | ((first | (refine WK.rgn ?_ ?_; kernel_rfl) | refine AtCall.now ?_); simp (config := {maxSteps:=999999}) only [SS, qx12, forall_const, vun, Int.reduceEq, Int.reduceNeg, Nat.reduceGT, Nat.reduceLT, Nat.reduceLeDiff, Nat.reduceEqDiff, ↓reduceIte, reduceCtorEq, Int.reduceToNat, Int.reduceLE, Int.reduceLT, Nat.reduceAdd, Nat.reduceMul, f1, f2, f3, f8, f9, f10, hlt, h300, hb2, gc_len, gc_all, hzT, c1, Nat.zero_add, ff_10]) | refine qqj rfl ?_ | refine qqk rfl ?_)
    refine AtCall.by (long_gives hw2 hg2 wg ok hc c2 (by omega) fun s hs => (hFs s hs).2) ?_
    rintro v n3 H3 k3 rfl
    have kp3 := kp.trans k3
    have hw3 := k3.wf hw2
    have hzT3 := (k3.keep zT hTn).trans hzT
    have hzO3 := (k3.keep zO hOn).trans hzO
    have la3 := la.kp hw2 k3
    have lt3 := lt.kp hw2 k3
    have c3 := c2.mono hw2 k3
    have hn3 := k3.le
    have keep3 : ∀ x, x < n → H3 x = H x := fun x hx => (k3.keep x (by have := kp.le; omega)).trans (keep2 x hx)
    by_cases hlong : 6 < sumF c 0 F
    · have hl' : (6 : Int) < ((sumF c 0 F : Nat) : Int) := by omega
      simp (config := {maxSteps:=999999}) only [SS, qx12, forall_const, vun, Int.reduceEq, Int.reduceNeg, Nat.reduceGT, Nat.reduceLT, Nat.reduceLeDiff, Nat.reduceEqDiff, ↓reduceIte, reduceCtorEq, Int.reduceToNat, Int.reduceLE, Int.reduceLT, Nat.reduceAdd, Nat.reduceMul, f1, hl', hlong, ff_10]
      repeat (first | refine qqn rfl ?_ | ((first | (refine WK.rgn ?_ ?_; kernel_rfl) | refine AtCall.now ?_); simp (config := {maxSteps:=999999}) only [SS, qx12, forall_const, vun, Int.reduceEq, Int.reduceNeg, Nat.reduceGT, Nat.reduceLT, Nat.reduceLeDiff, Nat.reduceEqDiff, ↓reduceIte, reduceCtorEq, Int.reduceToNat, Int.reduceLE, Int.reduceLT, Nat.reduceAdd, Nat.reduceMul, f10, haw, hl', hlong, ff_10]) | refine qqj rfl ?_ | refine qqk rfl ?_)
      refine ih (400 - (at_ + 1)) (by omega) _ ?_
      exact ⟨at_ + 1, zT, zO, T, out, cT, cO, kp3, f1, f2, f3, f8, f9, rfl, hzT3, hzO3, hne, hT1, hO1, la3, lt3, sm, hlt, hTl, by omega, wst.skip hF (by omega), rfl⟩
    have hl' : ¬ (6 : Int) < ((sumF c 0 F : Nat) : Int) := by omega
    by_cases h12 : 12 < F.length
    · have h12' : (12 : Int) < (F.length : Int) := by omega
      have w66 : IntKind.i64.wrap (6 + 6) = 12 := rfl
      simp (config := {maxSteps:=999999}) only [SS, qx12, forall_const, vun, Int.reduceEq, Int.reduceNeg, Nat.reduceGT, Nat.reduceLT, Nat.reduceLeDiff, Nat.reduceEqDiff, ↓reduceIte, reduceCtorEq, Int.reduceToNat, Int.reduceLE, Int.reduceLT, Nat.reduceAdd, Nat.reduceMul, f1, hl', hlong, ff_10]
      repeat (first | refine qqn rfl ?_ | ((first | (refine WK.rgn ?_ ?_; kernel_rfl) | refine AtCall.now ?_); simp (config := {maxSteps:=999999}) only [SS, qx12, forall_const, vun, Int.reduceEq, Int.reduceNeg, Nat.reduceGT, Nat.reduceLT, Nat.reduceLeDiff, Nat.reduceEqDiff, ↓reduceIte, reduceCtorEq, Int.reduceToNat, Int.reduceLE, Int.reduceLT, Nat.reduceAdd, Nat.reduceMul, f1, f2, f3, f8, f9, f10, hlt, hzT3, c1, Nat.zero_add, w66, h12, h12', hl', hlong, ff_10]) | refine qqj rfl ?_ | refine qqk rfl ?_)
      (first | refine WK.retNil ⟨Or.inr rfl, _, rfl, ?_, ?_⟩ | refine WK.skipNil ⟨Or.inl rfl, _, rfl, ?_, ?_⟩)
      · exact keep3
      · simp only [packed, fset_apply, Nat.reduceEqDiff, ↓reduceIte, List.getD_cons_zero, List.getD_cons_succ, ff_10]
        exact .inl trivial
    have h12' : ¬ (12 : Int) < (F.length : Int) := by omega
    have w66 : IntKind.i64.wrap (6 + 6) = 12 := rfl
    have hb3 := (kp3.keep n (by omega)).trans hb
    simp (config := {maxSteps:=999999}) only [SS, qx12, forall_const, vun, Int.reduceEq, Int.reduceNeg, Nat.reduceGT, Nat.reduceLT, Nat.reduceLeDiff, Nat.reduceEqDiff, ↓reduceIte, reduceCtorEq, Int.reduceToNat, Int.reduceLE, Int.reduceLT, Nat.reduceAdd, Nat.reduceMul, f1, hl', hlong, ff_10]
    repeat (first | refine qqn rfl ?_ | ((first | (refine WK.rgn ?_ ?_; kernel_rfl) | refine AtCall.now ?_); simp (config := {maxSteps:=999999}) only [SS, qx12, forall_const, vun, Int.reduceEq, Int.reduceNeg, Nat.reduceGT, Nat.reduceLT, Nat.reduceLeDiff, Nat.reduceEqDiff, ↓reduceIte, reduceCtorEq, Int.reduceToNat, Int.reduceLE, Int.reduceLT, Nat.reduceAdd, Nat.reduceMul, f1, f2, f3, f8, f9, f10, hlt, hzT3, c1, Nat.zero_add, w66, h12, h12', hl', hlong, ff_10]) | refine qqj rfl ?_ | refine qqk rfl ?_)
    refine AtCall.by (first7_gives c3 (by omega)) ?_
    rintro v n4 H4 k4 ⟨rfl, rfl, rfl⟩
    rcases form_split F with ⟨hdw, hneg⟩ | ⟨t, v, rest, hFt, htn, hv0, htw, hdw⟩
    · have hfs : firstS F = -1 := by unfold firstS; rw [if_pos hdw]
      have hl7 : lead7 F = F.map fun s => -s - 1 := by
        unfold lead7
        obtain ⟨e1, _⟩ := tw_all hneg
        rw [e1]
      have hFlen : F.length ≤ 6 := by
        have : sumF c 0 F = F.length := by
          have : ∀ (l : List Int) (a : Nat), (∀ s ∈ l, s < 0) → sumF c a l = a + l.length := by
            intro l
            induction l with
            | nil => intro a _; rfl
            | cons s l ih =>
              intro a h
              simp only [sumF, if_pos (h s (by simp)), List.length_cons]
              rw [ih _ fun x hx => h x (by simp [hx])]; omega
          have := this F 0 hneg
          omega
        omega
      rw [hfs]
      have hm1 : ((-1 : Int) < 0) = True := by simp
      simp (config := {maxSteps:=999999}) only [SS, qx12, forall_const, vun, Int.reduceEq, Int.reduceNeg, Nat.reduceGT, Nat.reduceLT, Nat.reduceLeDiff, Nat.reduceEqDiff, ↓reduceIte, reduceCtorEq, Int.reduceToNat, Int.reduceLE, Int.reduceLT, Nat.reduceAdd, Nat.reduceMul, ff_10]
      repeat (first | refine qqn rfl ?_ | ((first | (refine WK.rgn ?_ ?_; kernel_rfl) | refine AtCall.now ?_); simp (config := {maxSteps:=999999}) only [SS, qx12, forall_const, vun, Int.reduceEq, Int.reduceNeg, Nat.reduceGT, Nat.reduceLT, Nat.reduceLeDiff, Nat.reduceEqDiff, ↓reduceIte, reduceCtorEq, Int.reduceToNat, Int.reduceLE, Int.reduceLT, Nat.reduceAdd, Nat.reduceMul, f1, f2, f3, f8, f9, f10, hlt, hzT3, c1, Nat.zero_add, hm1, ff_10]) | refine qqj rfl ?_ | refine qqk rfl ?_)
      refine AtCall.by (lead7_gives hw3 c3 (by omega) fun s hs => (hFs s hs).1) ?_
      rintro v n5 H5 k5 wo5
      obtain ⟨p5, rfl, _⟩ := id wo5
      rw [hl7] at wo5 ⊢
      have hzO5 := (k5.keep zO (by omega)).trans hzO3
      have lt5 := lt3.kp hw3 k5
      have hw5 := k5.wf hw3
      have hn5 := k5.le
      simp (config := {maxSteps:=999999}) only [SS, qx12, forall_const, vun, Int.reduceEq, Int.reduceNeg, Nat.reduceGT, Nat.reduceLT, Nat.reduceLeDiff, Nat.reduceEqDiff, ↓reduceIte, reduceCtorEq, Int.reduceToNat, Int.reduceLE, Int.reduceLT, Nat.reduceAdd, Nat.reduceMul, f9, ff_10]
      refine AtCall.by (add_gives17 hw5 hzO5 lt5 (by omega) (wo5.le (Nat.zero_le _)) (by simp; omega) (fun l hl => by have := (wst.osnd l hl).2; omega)) ?_
      rintro v n6 H6 k6 ⟨zO', cO', rfl, hz', hz6, hO6, lt6⟩
      have hn6 := k6.le
      simp (config := {maxSteps:=999999}) only [SS, qx12, forall_const, vun, Int.reduceEq, Int.reduceNeg, Nat.reduceGT, Nat.reduceLT, Nat.reduceLeDiff, Nat.reduceEqDiff, ↓reduceIte, reduceCtorEq, Int.reduceToNat, Int.reduceLE, Int.reduceLT, Nat.reduceAdd, Nat.reduceMul, ff_10]
      repeat (first | refine qqn rfl ?_ | ((first | (refine WK.rgn ?_ ?_; kernel_rfl) | refine AtCall.now ?_); simp (config := {maxSteps:=999999}) only [SS, qx12, forall_const, vun, Int.reduceEq, Int.reduceNeg, Nat.reduceGT, Nat.reduceLT, Nat.reduceLeDiff, Nat.reduceEqDiff, ↓reduceIte, reduceCtorEq, Int.reduceToNat, Int.reduceLE, Int.reduceLT, Nat.reduceAdd, Nat.reduceMul, f10, haw, ff_10]) | refine qqj rfl ?_ | refine qqk rfl ?_)
      refine ih (400 - (at_ + 1)) (by omega) _ ?_
      have hal : (addL out (F.map fun s => -s - 1)).length ≤ at_ + 1 := by
        have : ∀ (a : List Int) (l : List (List Int)), (insL a l).length = l.length + 1 := by
          intro a l
          induction l with
          | nil => rfl
          | cons x l ih => unfold insL; split <;> simp [ih]
        unfold addL
        split
        · omega
        · rw [this]; omega
      exact ⟨at_ + 1, zT, zO', T, _, cT, cO', (kp3.trans k5).trans k6, f1, f2, f3, f8, rfl, rfl, (k6.keep zT (by omega)).trans ((k5.keep zT (by omega)).trans hzT3), hO6, by omega, hT1, by have := kp3.le; omega, (la3.kp hw3 k5).kp hw5 k6, lt6, sm, hlt, hTl, hal, wst.word hF hneg hFlen, rfl⟩
    · have htl : t.length < F.length := by rw [hFt]; simp
      have hfs : firstS F = (t.length : Int) := by unfold firstS; rw [hdw, if_neg (by simp), htw]
      have hFv : F[t.length]? = some v := by rw [hFt]; simp
      rw [hfs]
      have hm1 : (((t.length : Nat) : Int) < 0) = False := by simp
      simp (config := {maxSteps:=999999}) only [SS, qx12, forall_const, vun, Int.reduceEq, Int.reduceNeg, Nat.reduceGT, Nat.reduceLT, Nat.reduceLeDiff, Nat.reduceEqDiff, ↓reduceIte, reduceCtorEq, Int.reduceToNat, Int.reduceLE, Int.reduceLT, Nat.reduceAdd, Nat.reduceMul, ff_10]
      repeat (first | refine qqn rfl ?_ | ((first | (refine WK.rgn ?_ ?_; kernel_rfl) | refine AtCall.now ?_); simp (config := {maxSteps:=999999}) only [SS, qx12, forall_const, vun, Int.reduceEq, Int.reduceNeg, Nat.reduceGT, Nat.reduceLT, Nat.reduceLeDiff, Nat.reduceEqDiff, ↓reduceIte, reduceCtorEq, Int.reduceToNat, Int.reduceLE, Int.reduceLT, Nat.reduceAdd, Nat.reduceMul, f1, f2, f3, f8, f9, f10, hlt, hzT3, c1, Nat.zero_add, hm1, ff_10]) | refine qqj rfl ?_ | refine qqk rfl ?_)
      have hexlen : ∀ {T' : List (List Int)} {k : Nat}, Wex g T T' t v rest k → k ≤ g.rules.length → T'.length ≤ 324 ∧ T.length ≤ T'.length ∧ T'[at_]? = some F ∧ ∀ G ∈ T', smF g G := fun {T' k} hx hkl => by
        obtain ⟨e, he, hel⟩ := hx.pre
        have h300' : T.length ≤ 300 := by omega
        refine ⟨by rw [he, List.length_append]; omega, by rw [he, List.length_append]; omega, by rw [he, List.getElem?_append_left hlt]; exact hF, fun G hG => ?_⟩
        rcases hx.new G hG with h | ⟨k', hk', _, rfl⟩
        · exact sm G h
        · have hF12 : F.length ≤ 12 := by omega
          rw [hFt] at hF12
          have hr8 := hf24.2.2 _ (List.getElem_mem hk')
          refine ⟨by simp at hF12 ⊢; omega, fun s hs => ?_⟩
          rcases List.mem_append.1 hs with hs | hs
          · rcases List.mem_append.1 hs with hs | hs
            · exact hFs s (by rw [hFt]; simp [hs])
            · exact hsym k' hk' s hs
          · exact hFs s (by rw [hFt]; simp [hs])
      refine WK.cutBlock (fun s => ∃ (zT' : Nat) (T' : List (List Int)) (cT' : List Value), Kp (n + 1) H1 s.n s.H ∧ s.f 1 = .int .i64 6 ∧ s.f 2 = .int .i64 300 ∧ s.f 3 = .pointer (some ⟨n, 0, none⟩) ∧ s.f 8 = .slice (some ⟨zT', 0, none⟩) T'.length T'.length ∧ s.f 9 = .slice (some ⟨zO, 0, none⟩) out.length out.length ∧ s.f 10 = .int .i64 (at_ : Nat) ∧
        s.H zT' = .cells cT' 26 true ∧ s.H zO = .cells cO 26 true ∧ zT' ≠ zO ∧ n + 1 ≤ zT' ∧ LA s.H cT' T' ∧ LT s.H cO out ∧ Wex g T T' t v rest g.rules.length) ?_ ?_
      · refine WK.loop (fun kk s => ∃ (k zT' : Nat) (T' : List (List Int)) (cT' : List Value), Kp (n + 1) H1 s.n s.H ∧ n4 ≤ s.n ∧ s.f 1 = .int .i64 6 ∧ s.f 2 = .int .i64 300 ∧ s.f 3 = .pointer (some ⟨n, 0, none⟩) ∧ s.f 8 = .slice (some ⟨zT', 0, none⟩) T'.length T'.length ∧ s.f 9 = .slice (some ⟨zO, 0, none⟩) out.length out.length ∧ s.f 10 = .int .i64 (at_ : Nat) ∧ s.f 11 = .int .i64 (t.length : Nat) ∧ s.f 12 = .int .i64 (k : Nat) ∧
          s.H zT' = .cells cT' 26 true ∧ s.H zO = .cells cO 26 true ∧ zT' ≠ zO ∧ n + 1 ≤ zT' ∧ LA s.H cT' T' ∧ LT s.H cO out ∧ Wex g T T' t v rest k ∧ k ≤ g.rules.length ∧ kk = g.rules.length - k) g.rules.length ?_ ?_
        · exact ⟨0, zT, T, cT, kp3, Nat.le_refl _, f1, f2, f3, f8, f9, f10, rfl, rfl, hzT3, hzO3, hne, hT1, la3, lt3, ⟨⟨[], by simp, Nat.zero_le _⟩, fun G hG => .inl hG, fun k' _ hk' => absurd hk' (Nat.not_lt_zero _)⟩, Nat.zero_le _, rfl⟩
        clear f1 f2 f3 f8 f9 f10
        rintro kk ⟨f, n5, H5⟩ ⟨k, zT', T', cT', kp5, hn5, f1, f2, f3, f8, f9, f10, f11, f12, hzT5, hzO5, hne5, hT5, la5, lt5, hx, hkr, rfl⟩ ih2
        simp only at f1 f2 f3 f8 f9 f10 f11 f12 kp5 hn5 hzT5 hzO5 la5 lt5 ih2
        have hw5 := kp5.wf hw1
        have hb5 := (kp5.keep n (by omega)).trans hb
        have hg5 := hg1.mono hw1 kp5
        have hTn5 : zT' < n5 := Classical.byContradiction fun hc => by rw [hw5 zT' (by omega)] at hzT5; cases hzT5
        have hOn5 : zO < n5 := Classical.byContradiction fun hc => by rw [hw5 zO (by omega)] at hzO5; cases hzO5
        obtain ⟨hT324, hTT, hTF, hTs⟩ := hexlen hx hkr
        have hlt5 : at_ < T'.length := by omega
        by_cases hk : k < g.rules.length
        · have hkw : IntKind.i64.wrap ((k : Int) + 1) = ((k + 1 : Nat) : Int) := by rw [wrap_in (by omega) (by omega)]; rfl
          obtain ⟨q, d1, d2⟩ := la5.2 at_ F hTF
          obtain ⟨zf, kf, df, tf, of_, rfl, hzf, ef⟩ := d2.at htl
          have efv : df[kf + t.length]? = some (.int .i64 v) := by
            have := ef
            have h1 : F[t.length] = v := by
              have := hFv
              rw [List.getElem?_eq_getElem htl] at this
              injection this
            rw [h1] at this
            exact this
          obtain ⟨zr, kr, dr, tr, or_, pr2, rfl, hzr, r0, r1, r2, rpp⟩ := (hr.sub (H := H5) (fun x hx => by
            have hxn : x < n := Classical.byContradiction fun hc => hx (hw x (by omega))
            exact (kp5.keep x (by omega)).trans (hk0.keep x hxn))).at hk
          by_cases hlk : g.rules[k].left = v
          · repeat (first | refine qqn rfl ?_ | ((first | (refine WK.rgn ?_ ?_; kernel_rfl) | refine AtCall.now ?_); simp (config := {maxSteps:=999999}) only [SS, qx12, forall_const, vun, Int.reduceEq, Int.reduceNeg, Nat.reduceGT, Nat.reduceLT, Nat.reduceLeDiff, Nat.reduceEqDiff, ↓reduceIte, reduceCtorEq, Int.reduceToNat, Int.reduceLE, Int.reduceLT, Nat.reduceAdd, Nat.reduceMul, f1, f2, f3, f8, f9, f10, f11, f12, hb5, gc_len, gc_all, gc_2, hk, hzr, r0, hzT5, d1, hlt5, Nat.zero_add, htl, hzf, efv, hlk, ff_10]) | refine qqj rfl ?_ | refine qqk rfl ?_)
            have hstep := step_form hk hlk hFt htw hdw
            refine AtCall.by (step7_gives (form := F) (r := (k : Int)) hw5 hg5 wg ok d2 (by omega)) ?_
            rw [hstep]
            rintro v6 n6 H6 k6 ⟨p6, rfl, hp6⟩
            generalize hG : t ++ g.rules[k].right ++ rest = G at *
            have kp6 := kp5.trans k6
            have hw6 := k6.wf hw5
            have hn6 := k6.le
            have hzT6 := (k6.keep zT' hTn5).trans hzT5
            have hzO6 := (k6.keep zO hOn5).trans hzO5
            have la6 := la5.kp hw5 k6
            have lt6 := lt5.kp hw5 k6
            have hGl : G.length ≤ 24 := by
              have hF12 : F.length ≤ 12 := by omega
              rw [hFt] at hF12
              have hr8 := hf24.2.2 _ (List.getElem_mem hk)
              rw [← hG]; simp at hF12 ⊢; omega
            simp (config := {maxSteps:=999999}) only [SS, qx12, forall_const, vun, Int.reduceEq, Int.reduceNeg, Nat.reduceGT, Nat.reduceLT, Nat.reduceLeDiff, Nat.reduceEqDiff, ↓reduceIte, reduceCtorEq, Int.reduceToNat, Int.reduceLE, Int.reduceLT, Nat.reduceAdd, Nat.reduceMul, ff_10]
            repeat (first | refine qqn rfl ?_ | ((first | (refine WK.rgn ?_ ?_; kernel_rfl) | refine AtCall.now ?_); simp (config := {maxSteps:=999999}) only [SS, qx12, forall_const, vun, Int.reduceEq, Int.reduceNeg, Nat.reduceGT, Nat.reduceLT, Nat.reduceLeDiff, Nat.reduceEqDiff, ↓reduceIte, reduceCtorEq, Int.reduceToNat, Int.reduceLE, Int.reduceLT, Nat.reduceAdd, Nat.reduceMul, f8, ff_10]) | refine qqj rfl ?_ | refine qqk rfl ?_)
            refine AtCall.by (has_gives hzT6 la6 (by omega) hp6.ra (by omega) (fun l hl => by have := (hTs l hl).1; omega)) ?_
            rintro v7 n7 H7 k7 ⟨rfl, rfl, rfl⟩
            cases hh : hasL T' G with
            | true =>
              simp (config := {maxSteps:=999999}) only [SS, qx12, forall_const, vun, Int.reduceEq, Int.reduceNeg, Nat.reduceGT, Nat.reduceLT, Nat.reduceLeDiff, Nat.reduceEqDiff, ↓reduceIte, reduceCtorEq, Int.reduceToNat, Int.reduceLE, Int.reduceLT, Nat.reduceAdd, Nat.reduceMul, ff_10]
              repeat (first | refine qqn rfl ?_ | ((first | (refine WK.rgn ?_ ?_; kernel_rfl) | refine AtCall.now ?_); simp (config := {maxSteps:=999999}) only [SS, qx12, forall_const, vun, Int.reduceEq, Int.reduceNeg, Nat.reduceGT, Nat.reduceLT, Nat.reduceLeDiff, Nat.reduceEqDiff, ↓reduceIte, reduceCtorEq, Int.reduceToNat, Int.reduceLE, Int.reduceLT, Nat.reduceAdd, Nat.reduceMul, f12, hkw, ff_10]) | refine qqj rfl ?_ | refine qqk rfl ?_)
              refine ih2 (g.rules.length - (k + 1)) (by omega) _ ?_
              exact ⟨k + 1, zT', T', cT', kp6, show n4 ≤ n7 by omega, f1, f2, f3, f8, f9, f10, f11, rfl, hzT6, hzO6, hne5, hT5, la6, lt6, hx.step (b := false) hk (by simp) (fun h => by cases h) (fun _ _ => by rw [hG]; exact hasL_iff.1 hh), hk, rfl⟩
            | false =>
              have u1 : vcells (Value.slice p6 G.length G.length) = [Value.slice p6 G.length G.length] := rfl
              have u3 : ([Value.slice p6 G.length G.length] : List Value).all one = true := rfl
              have u4 : Go.AM.splice [Value.slice none 0 0] 0 [Value.slice p6 G.length G.length] = [Value.slice p6 G.length G.length] := rfl
              have u5 : ([Value.slice p6 G.length G.length] : List Value).take 1 = [Value.slice p6 G.length G.length] := rfl
              have kA := Kp.new n7 H7 (.cells [.slice p6 G.length G.length] 26 true)
              have bA := hset_at H7 n7 (.cells [.slice p6 G.length G.length] 26 true)
              have tA := (kA.keep zT' (by omega)).trans hzT6
              have oA := (kA.keep zO (by omega)).trans hzO6
              have laA := la6.kp hw6 kA
              have ltA := lt6.kp hw6 kA
              have pA := hp6.ra.mono hw6 kA
              have hwA := kA.wf hw6
              generalize hA : hset H7 n7 (.cells [.slice p6 G.length G.length] 26 true) = HA at *
              have laA1 := (laA.push pA).dead' tA laA
              have ltA1 := ltA.dead tA
              have oA1 := (hset_ne HA zT' .dead (x := zO) (by omega)).trans oA
              have kA1 := (kp6.trans kA).set (x := zT') .dead hT5 (by omega)
              generalize hA1 : hset HA zT' .dead = HA1 at *
              have kB := Kp.new (n7 + 1) HA1 (.cells (cT' ++ [.slice p6 G.length G.length]) 26 true)
              have bB := hset_at HA1 (n7 + 1) (.cells (cT' ++ [.slice p6 G.length G.length]) 26 true)
              have hwA1 := kA1.wf hw1
              have v1 : T'.length + 1 ≤ bigN := by unfold bigN; omega
              have v2 : [n7].contains zT' = false := by simp; omega
              have v3 : cT'.take T'.length = cT' := List.take_of_length_le (by rw [la5.1]; exact Nat.le_refl _)
              have v4 : T'.length ≤ cT'.length := by rw [la5.1]; exact Nat.le_refl _
              simp (config := {maxSteps:=999999}) only [SS, qx12, forall_const, vun, Int.reduceEq, Int.reduceNeg, Nat.reduceGT, Nat.reduceLT, Nat.reduceLeDiff, Nat.reduceEqDiff, ↓reduceIte, reduceCtorEq, Int.reduceToNat, Int.reduceLE, Int.reduceLT, Nat.reduceAdd, Nat.reduceMul, ff_10]
              repeat (first | refine qqn rfl ?_ | ((first | (refine WK.rgn ?_ ?_; kernel_rfl) | refine AtCall.now ?_); simp (config := {maxSteps:=999999}) only [SS, qx12, forall_const, vun, Int.reduceEq, Int.reduceNeg, Nat.reduceGT, Nat.reduceLT, Nat.reduceLeDiff, Nat.reduceEqDiff, ↓reduceIte, reduceCtorEq, Int.reduceToNat, Int.reduceLE, Int.reduceLT, Nat.reduceAdd, Nat.reduceMul, f8, f12, hA, bA, u1, u3, u4, u5, tA, v1, v2, v3, v4, hA1, hkw, List.drop_zero, Nat.zero_add, Nat.mul_one, ff_10]) | refine qqj rfl ?_ | refine qqk rfl ?_)
              refine ih2 (g.rules.length - (k + 1)) (by omega) _ ?_
              exact ⟨k + 1, n7 + 1, T' ++ [G], _, kA1.trans kB, show n4 ≤ n7 + 1 + 1 by omega, f1, f2, f3, by rw [List.length_append]; rfl, f9, f10, f11, rfl, bB, (kB.keep zO (by omega)).trans oA1, by omega, by have := kp6.le; omega, laA1.kp hwA1 kB, ltA1.kp hwA1 kB, hx.step (b := true) hk (by rw [hG]; simp) (fun _ => hlk) (fun h => by cases h), hk, rfl⟩
          · repeat (first | refine qqn rfl ?_ | ((first | (refine WK.rgn ?_ ?_; kernel_rfl) | refine AtCall.now ?_); simp (config := {maxSteps:=999999}) only [SS, qx12, forall_const, vun, Int.reduceEq, Int.reduceNeg, Nat.reduceGT, Nat.reduceLT, Nat.reduceLeDiff, Nat.reduceEqDiff, ↓reduceIte, reduceCtorEq, Int.reduceToNat, Int.reduceLE, Int.reduceLT, Nat.reduceAdd, Nat.reduceMul, f1, f2, f3, f8, f9, f10, f11, f12, hb5, gc_len, gc_all, gc_2, hk, hzr, r0, hzT5, d1, hlt5, Nat.zero_add, htl, hzf, efv, hlk, hkw, ff_10]) | refine qqj rfl ?_ | refine qqk rfl ?_)
            refine ih2 (g.rules.length - (k + 1)) (by omega) _ ?_
            exact ⟨k + 1, zT', T', cT', kp5, hn5, f1, f2, f3, f8, f9, f10, f11, rfl, hzT5, hzO5, hne5, hT5, la5, lt5, hx.step (b := false) hk (by simp) (fun h => by cases h) (fun _ h => absurd h hlk), hk, rfl⟩
        · have hke : k = g.rules.length := by omega
          subst hke
          repeat (first | refine qqn rfl ?_ | ((first | (refine WK.rgn ?_ ?_; kernel_rfl) | refine AtCall.now ?_); simp (config := {maxSteps:=999999}) only [SS, qx12, forall_const, vun, Int.reduceEq, Int.reduceNeg, Nat.reduceGT, Nat.reduceLT, Nat.reduceLeDiff, Nat.reduceEqDiff, ↓reduceIte, reduceCtorEq, Int.reduceToNat, Int.reduceLE, Int.reduceLT, Nat.reduceAdd, Nat.reduceMul, f1, f2, f3, f8, f9, f10, f11, f12, hb5, gc_len, gc_all, gc_2, hk, ff_10]) | refine qqj rfl ?_ | refine qqk rfl ?_)
          exact WK.skipNil ⟨rfl, zT', T', cT', kp5, f1, f2, f3, f8, f9, f10, hzT5, hzO5, hne5, hT5, la5, lt5, hx⟩
      clear f1 f2 f3 f8 f9 f10
      rintro ⟨f, n5, H5⟩ ⟨zT', T', cT', kp5, f1, f2, f3, f8, f9, f10, hzT5, hzO5, hne5, hT5, la5, lt5, hx⟩
      simp only at f1 f2 f3 f8 f9 f10 kp5 hzT5 hzO5 la5 lt5
      obtain ⟨hT324, hTT, hTF, hTs⟩ := hexlen hx (Nat.le_refl _)
      repeat (first | refine qqn rfl ?_ | ((first | (refine WK.rgn ?_ ?_; kernel_rfl) | refine AtCall.now ?_); simp (config := {maxSteps:=999999}) only [SS, qx12, forall_const, vun, Int.reduceEq, Int.reduceNeg, Nat.reduceGT, Nat.reduceLT, Nat.reduceLeDiff, Nat.reduceEqDiff, ↓reduceIte, reduceCtorEq, Int.reduceToNat, Int.reduceLE, Int.reduceLT, Nat.reduceAdd, Nat.reduceMul, f10, haw, ff_10]) | refine qqj rfl ?_ | refine qqk rfl ?_)
      refine ih (400 - (at_ + 1)) (by omega) _ ?_
      exact ⟨at_ + 1, zT', zO, T', out, cT', cO, kp5, f1, f2, f3, f8, f9, rfl, hzT5, hzO5, hne5, hT5, hO1, la5, lt5, hTs, by omega, hT324, by omega, wst.form (hFt ▸ hF) htn hv0 hx, rfl⟩
  · have hae : at_ = T.length := by omega
    rw [hae] at wst
    have hover := wst.over ok.inG hc (by unfold farN; omega)
    repeat (first | refine qqn rfl ?_ | ((first | (refine WK.rgn ?_ ?_; kernel_rfl) | refine AtCall.now ?_); simp (config := {maxSteps:=999999}) only [SS, qx12, forall_const, vun, Int.reduceEq, Int.reduceNeg, Nat.reduceGT, Nat.reduceLT, Nat.reduceLeDiff, Nat.reduceEqDiff, ↓reduceIte, reduceCtorEq, Int.reduceToNat, Int.reduceLE, Int.reduceLT, Nat.reduceAdd, Nat.reduceMul, f1, f2, f3, f8, f9, f10, hlt, ff_10]) | refine qqj rfl ?_ | refine qqk rfl ?_)
    (first | refine WK.retNil ⟨Or.inr rfl, _, rfl, ?_, ?_⟩ | refine WK.skipNil ⟨Or.inl rfl, _, rfl, ?_, ?_⟩)
    · exact keep2
    · simp only [packed, fset_apply, Nat.reduceEqDiff, ↓reduceIte, List.getD_cons_zero, List.getD_cons_succ, f9, ff_10]
      exact .inr ⟨out, zO, cO, rfl, by omega, hOn, hzO, lt, wst.osrt, by omega, hover⟩
end Go.Proofs.Ytpdlmpbhohinpaa
