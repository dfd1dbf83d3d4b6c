/- A part of a proof. Its conditions: none. -/
import Derived.Test.YtpdlmpbhohinpaaAmCChPop
import Derived.Test.YtpdlmpbhohinpaaAmCSortI
set_option linter.all false
namespace Go.Proofs.Ytpdlmpbhohinpaa
open Go.AM Go.RowKit
set_option maxRecDepth 100000
theorem indexI_gives {p : Option Addr} {l : List Int} {t : Int} {n : Nat} {H : Heap} (h : RA (Value.int .i64) H p l) (hl : l.length ≤ 1000000) : Gives Try.prog 68 [.slice p l.length l.length, .int .i64 t] n H fun v n' H' => (∃ k : Int, v = .int .i64 k ∧ (0 ≤ k ↔ t ∈ l)) ∧ n' = n ∧ H' = H := by
  refine Gives.of orders ok68 (Nat.le_of_ble_eq_true rfl) ?_
  repeat (first | apply qqa | apply qqb | apply qqc | apply qqd | apply qqe | apply qqf | apply qqg | apply qqh | refine qqi rfl ?_ | ((first | (refine WK.rgn ?_ ?_; kernel_rfl) | refine AtCall.now ?_); simp (config := { maxSteps := 1000000 }) only [SS, qg0, qgb, qgl, qgi, forall_const, tor, tlen2, Int.reduceEq, Int.reduceNeg, Nat.reduceGT, Nat.reduceLT, Nat.reduceLeDiff, Nat.reduceEqDiff, ↓reduceIte, reduceCtorEq, Int.reduceToNat, Int.reduceLE, Int.reduceLT, Nat.reduceAdd, Nat.reduceMul, ff_68]) | refine qqj rfl ?_ | refine qqk rfl ?_)
  refine WK.loop (fun k s => ∃ j : Nat, s.n = n ∧ s.H = H ∧ s.f 0 = .slice p l.length l.length ∧ s.f 1 = .int .i64 t ∧ s.f 7 = .int .i64 (l.length : Nat) ∧ s.f 8 = .int .i64 (j : Nat) ∧ j ≤ l.length ∧ t ∉ l.take j ∧ k = l.length - j) l.length ?_ ?_
  · exact ⟨0, rfl, rfl, rfl, rfl, rfl, rfl, Nat.zero_le _, by simp, rfl⟩
  rintro k ⟨f, n1, H1⟩ ⟨j, rfl, rfl, f0, f1, f7, f8, hj, hn, rfl⟩ ih
  simp only at f0 f1 f7 f8 h ih
  by_cases hlt : j < l.length
  · obtain ⟨x, kx, cs, ty, own, rfl, hx, hc⟩ := h (by intro e; subst e; simp at hlt)
    have hcj := hc j _ (List.getElem?_eq_getElem hlt)
    have hwj : IntKind.wrap .i64 ((j : Int) + 1) = ((j + 1 : Nat) : Int) := by rw [wrap_in (by omega) (by omega)]; rfl
    have htj : l.take (j + 1) = l.take j ++ [l[j]] := List.take_succ_eq_append_getElem hlt
    by_cases he : t = l[j]
    · repeat (first | apply qqa | apply qqb | apply qqc | apply qqd | apply qqe | apply qqf | apply qqg | apply qqh | refine qqi rfl ?_ | ((first | (refine WK.rgn ?_ ?_; kernel_rfl) | refine AtCall.now ?_); simp (config := { maxSteps := 1000000 }) only [SS, qg0, qgb, qgl, qgi, forall_const, tor, tlen2, Int.reduceEq, Int.reduceNeg, Nat.reduceGT, Nat.reduceLT, Nat.reduceLeDiff, Nat.reduceEqDiff, ↓reduceIte, reduceCtorEq, Int.reduceToNat, Int.reduceLE, Int.reduceLT, Nat.reduceAdd, Nat.reduceMul, f0, f1, f7, f8, hlt, hx, hcj, he, ff_68]) | refine qqj rfl ?_ | refine qqk rfl ?_)
      (first | refine WK.retNil ⟨Or.inr rfl, _, rfl, ?_, ?_⟩ | refine WK.skipNil ⟨Or.inl rfl, _, rfl, ?_, ?_⟩)
      · exact fun _ _ => rfl
      · simp only [packed, fset_apply, Nat.reduceEqDiff, ↓reduceIte, List.getD_cons_zero, List.getD_cons_succ, ff_68]
        exact ⟨⟨_, rfl, by constructor; intro _; exact List.getElem_mem hlt; intro _; omega⟩, trivial, trivial⟩
    · repeat (first | apply qqa | apply qqb | apply qqc | apply qqd | apply qqe | apply qqf | apply qqg | apply qqh | refine qqi rfl ?_ | ((first | (refine WK.rgn ?_ ?_; kernel_rfl) | refine AtCall.now ?_); simp (config := { maxSteps := 1000000 }) only [SS, qg0, qgb, qgl, qgi, forall_const, tor, tlen2, Int.reduceEq, Int.reduceNeg, Nat.reduceGT, Nat.reduceLT, Nat.reduceLeDiff, Nat.reduceEqDiff, ↓reduceIte, reduceCtorEq, Int.reduceToNat, Int.reduceLE, Int.reduceLT, Nat.reduceAdd, Nat.reduceMul, f0, f1, f7, f8, hlt, hx, hcj, he, hwj, ff_68]) | refine qqj rfl ?_ | refine qqk rfl ?_)
      refine ih (l.length - (j + 1)) (by omega) _ ?_
      refine ⟨j + 1, rfl, rfl, f0, f1, f7, rfl, hlt, ?_, rfl⟩
      rw [htj]
      simp only [List.mem_append, List.mem_singleton, not_or]
      exact ⟨hn, he⟩
  · repeat (first | apply qqa | apply qqb | apply qqc | apply qqd | apply qqe | apply qqf | apply qqg | apply qqh | refine qqi rfl ?_ | ((first | (refine WK.rgn ?_ ?_; kernel_rfl) | refine AtCall.now ?_); simp (config := { maxSteps := 1000000 }) only [SS, qg0, qgb, qgl, qgi, forall_const, tor, tlen2, Int.reduceEq, Int.reduceNeg, Nat.reduceGT, Nat.reduceLT, Nat.reduceLeDiff, Nat.reduceEqDiff, ↓reduceIte, reduceCtorEq, Int.reduceToNat, Int.reduceLE, Int.reduceLT, Nat.reduceAdd, Nat.reduceMul, f0, f1, f7, f8, hlt, ff_68]) | refine qqj rfl ?_ | refine qqk rfl ?_)
    (first | refine WK.retNil ⟨Or.inr rfl, _, rfl, ?_, ?_⟩ | refine WK.skipNil ⟨Or.inl rfl, _, rfl, ?_, ?_⟩)
    · exact fun _ _ => rfl
    · simp only [packed, fset_apply, Nat.reduceEqDiff, ↓reduceIte, List.getD_cons_zero, List.getD_cons_succ, ff_68]
      rw [List.take_of_length_le (by omega)] at hn
      exact ⟨⟨_, rfl, by constructor; intro h; omega; intro h; exact absurd h hn⟩, trivial, trivial⟩
theorem containsI_gives {p : Option Addr} {l : List Int} {t : Int} {n : Nat} {H : Heap} (h : RA (Value.int .i64) H p l) (hl : l.length ≤ 1000000) : Gives Try.prog 50 [.slice p l.length l.length, .int .i64 t] n H fun v n' H' => v = .bool (decide (t ∈ l)) ∧ n' = n ∧ H' = H := by
  refine Gives.of orders ok50 (Nat.le_of_ble_eq_true rfl) ?_
  repeat (first | apply qqa | apply qqb | apply qqc | apply qqd | apply qqe | apply qqf | apply qqg | apply qqh | refine qqi rfl ?_ | ((first | (refine WK.rgn ?_ ?_; kernel_rfl) | refine AtCall.now ?_); simp (config := { maxSteps := 1000000 }) only [SS, qg0, qgb, forall_const, tor, Int.reduceEq, Int.reduceNeg, Nat.reduceGT, Nat.reduceLT, Nat.reduceLeDiff, Nat.reduceEqDiff, ↓reduceIte, reduceCtorEq, Int.reduceToNat, Int.reduceLE, Int.reduceLT, Nat.reduceAdd, Nat.reduceMul]) | refine qqj rfl ?_ | refine qqk rfl ?_)
  refine AtCall.by (indexI_gives h hl) ?_
  rintro v n1 H1 hk1 ⟨⟨k, rfl, hk⟩, rfl, rfl⟩
  simp (config := { maxSteps := 1000000 }) only [SS, qg0, qgb, forall_const, tor, Int.reduceEq, Int.reduceNeg, Nat.reduceGT, Nat.reduceLT, Nat.reduceLeDiff, Nat.reduceEqDiff, ↓reduceIte, reduceCtorEq, Int.reduceToNat, Int.reduceLE, Int.reduceLT, Nat.reduceAdd, Nat.reduceMul]
  repeat (first | apply qqa | apply qqb | apply qqc | apply qqd | apply qqe | apply qqf | apply qqg | apply qqh | refine qqi rfl ?_ | ((first | (refine WK.rgn ?_ ?_; kernel_rfl) | refine AtCall.now ?_); simp (config := { maxSteps := 1000000 }) only [SS, qg0, qgb, forall_const, tor, Int.reduceEq, Int.reduceNeg, Nat.reduceGT, Nat.reduceLT, Nat.reduceLeDiff, Nat.reduceEqDiff, ↓reduceIte, reduceCtorEq, Int.reduceToNat, Int.reduceLE, Int.reduceLT, Nat.reduceAdd, Nat.reduceMul]) | refine qqj rfl ?_ | refine qqk rfl ?_)
  (first | refine WK.retNil ⟨Or.inr rfl, _, rfl, ?_, ?_⟩ | refine WK.skipNil ⟨Or.inl rfl, _, rfl, ?_, ?_⟩)
  · exact fun _ _ => rfl
  · simp only [packed, fset_apply, Nat.reduceEqDiff, ↓reduceIte, List.getD_cons_zero, List.getD_cons_succ]
    refine ⟨?_, trivial, trivial⟩
    simp only [hk]
def nextS (g : Gram) (out : List Int) (x : It) : List Int := match nx g x with
  | some y => if y < 0 ∧ (-y - 1) ∉ out then out ++ [-y - 1] else out
  | none => out
def nextC (g : Gram) (ps : List It) : List Int := ps.foldl (nextS g) []
theorem nextC_snoc {g : Gram} {ps : List It} {j : Nat} (hj : j < ps.length) : nextC g (ps.take (j + 1)) = nextS g (nextC g (ps.take j)) ps[j] := by
  unfold nextC
  rw [List.take_succ_eq_append_getElem hj, List.foldl_append]
  rfl
theorem nodup_int_len : ∀ (k : Nat) (l : List Int), l.Nodup → (∀ t ∈ l, 0 ≤ t ∧ t < (k : Int)) → l.length ≤ k := by
  intro k l hn h
  have := nodup_sub_len l ((List.range k).map fun (i : Nat) => (i : Int)) hn fun x hx => by
    obtain ⟨h1, h2⟩ := h x hx
    exact List.mem_map.2 ⟨x.toNat, List.mem_range.2 (by omega), by omega⟩
  simpa using this
theorem nextC_ok {g : Gram} (hts : ∀ r ∈ g.rules, ∀ s ∈ r.right, -s - 1 < (g.terms.length : Int)) : ∀ (ps : List It), (∀ x ∈ ps, x.1 < g.rules.length) → (nextC g ps).Nodup ∧ ∀ t ∈ nextC g ps, 0 ≤ t ∧ t < (g.terms.length : Int) := by
  intro ps
  unfold nextC
  suffices ∀ (ps : List It) (out : List Int), (∀ x ∈ ps, x.1 < g.rules.length) → (out.Nodup ∧ ∀ t ∈ out, 0 ≤ t ∧ t < (g.terms.length : Int)) → (ps.foldl (nextS g) out).Nodup ∧ ∀ t ∈ ps.foldl (nextS g) out, 0 ≤ t ∧ t < (g.terms.length : Int) from fun h => this ps [] h ⟨List.nodup_nil, fun t ht => by cases ht⟩
  intro ps
  induction ps with
  | nil => intro out _ h; exact h
  | cons x ps ih =>
    intro out hx h
    refine ih _ (fun y hy => hx y (by simp [hy])) ?_
    unfold nextS
    cases hn : nx g x with
    | none => exact h
    | some y =>
      simp only
      split
      · rename_i hc
        have hx1 := hx x (by simp)
        unfold nx at hn
        rw [rgt_at hx1] at hn
        have := hts _ (List.getElem_mem hx1) _ (List.mem_of_getElem? hn)
        refine ⟨?_, fun t ht => ?_⟩
        · rw [List.nodup_append]
          exact ⟨h.1, by simp, fun a ha b hb => by simp at hb; subst hb; intro e; subst e; exact hc.2 ha⟩
        · rcases List.mem_append.1 ht with h1 | h1
          · exact h.2 t h1
          · simp at h1; subst h1; omega
      · exact h
def isort : List Int → List Int
  | [] => []
  | a :: l => ins a (isort l)
where ins (a : Int) : List Int → List Int
  | [] => [a]
  | b :: l => if a ≤ b then a :: b :: l else b :: ins a l
theorem ins_perm (a : Int) : ∀ l, (isort.ins a l).Perm (a :: l) := by
  intro l
  induction l with
  | nil => exact .refl _
  | cons b l ih =>
    unfold isort.ins
    split
    · exact .refl _
    · exact (List.Perm.cons b ih).trans (.swap a b l)
theorem ins_le (a : Int) : ∀ l, le2 l → le2 (isort.ins a l) := by
  intro l
  induction l with
  | nil => intro _; simp [isort.ins, le2]
  | cons b l ih =>
    intro h
    unfold isort.ins
    have hb := List.pairwise_cons.1 h
    split
    · rename_i hab
      refine List.pairwise_cons.2 ⟨fun c hc => ?_, h⟩
      rcases List.mem_cons.1 hc with rfl | hc
      · exact hab
      · exact Int.le_trans hab (hb.1 c hc)
    · rename_i hab
      refine List.pairwise_cons.2 ⟨fun c hc => ?_, ih hb.2⟩
      rcases List.mem_cons.1 ((ins_perm a l).mem_iff.1 hc) with rfl | hc
      · omega
      · exact hb.1 c hc
theorem isort_perm : ∀ l, (isort l).Perm l := by
  intro l
  induction l with
  | nil => exact .refl _
  | cons a l ih => exact (ins_perm a _).trans (.cons a ih)
theorem isort_le : ∀ l, le2 (isort l) := by
  intro l
  induction l with
  | nil => exact List.Pairwise.nil
  | cons a l ih => exact ins_le a _ ih
def nextL (g : Gram) (sets : List (List It)) : List Int := isort (nextC g (lastS sets))
set_option maxHeartbeats 16000000 in
theorem nextm_gives {S H : Heap} {N o y x n : Nat} {pt pv pr pg pe pc : Option Addr} {g : Gram} {gd em : List Bool} {co : List Nat} {sets : List (List It)} {w : List Int} (st : Stat S N pr pg pe pc g gd em co) (hw : WF n H) (hS : Sub S H)
    (hc : CHR H N o y x pt pv pr pg pe pc g gd em co sets w) (hk : okS g sets) (ha : sets.length ≤ 4000) (hts : ∀ r ∈ g.rules, ∀ s ∈ r.right, -s - 1 < (g.terms.length : Int)) (htl : g.terms.length ≤ 6) :
    Gives Try.prog 23 [.pointer (some ⟨o, 0, none⟩)] n H fun v _ H' => WO n H' v (nextL g sets) := by
  refine Gives.of orders ok23 (Nat.le_of_ble_eq_true rfl) ?_
  obtain ⟨c, wv, cs, ho, hyN, hy, hyl, hsr, hwv⟩ := id hc
  have low : ∀ {z cs ty own}, H z = .cells cs ty own → z < n := fun {z cs ty own} e => Classical.byContradiction fun hc => by rw [hw z (by omega)] at e; cases e
  have hon := low ho
  have hs0 := List.length_pos_iff.2 hk.1
  have hsl : sets.length - 1 < sets.length := by omega
  obtain ⟨pp, hpp, hlr⟩ := hsr _ hsl
  have hlast : lastS sets = sets[sets.length - 1] := by unfold lastS; rw [List.getD_eq_getElem?_getD, List.getElem?_eq_getElem hsl]; rfl
  have hlok := lastS_ok hk
  unfold nextL
  rw [← hlast] at hpp hlr
  generalize hps : lastS sets = ps at *
  have hpl := small_okL hlok st.rl st.r8 (by omega)
  repeat (first | apply qqa | apply qqb | apply qqc | apply qqd | apply qqe | apply qqf | apply qqg | apply qqh | refine qqi rfl ?_)
  have hsub : IntKind.wrap .i64 ((sets.length : Int) - 1) = ((sets.length - 1 : Nat) : Int) := by rw [wrap_in (by omega) (by omega)]; omega
  repeat (first | apply qqa | apply qqb | apply qqc | apply qqd | apply qqe | apply qqf | apply qqg | apply qqh | refine qqi rfl ?_ | ((first | (refine WK.rgn ?_ ?_; kernel_rfl) | refine AtCall.now ?_); simp (config := { maxSteps := 1000000 }) only [SS, qg0, qgb, qgl, qgs, qgi, qgf, qga, qgz, qge, forall_const, tor, vun, Go.AM.splice, one, tlen2, tpick, textr, Int.reduceEq, Int.reduceNeg, Nat.reduceGT, Nat.reduceLT, Nat.reduceLeDiff, Nat.reduceEqDiff, ↓reduceIte, reduceCtorEq, Int.reduceToNat, Int.reduceLE, Int.reduceLT, Nat.reduceAdd, Nat.reduceMul, ho, ch6, hy, hsub, hsl, hpp, aop_nc, tnc, ff_23]) | refine qqj rfl ?_ | refine qqk rfl ?_)
  refine WK.loop (fun k2 s => ∃ j : Nat, Kp n H s.n s.H ∧ s.f 0 = .pointer (some ⟨o, 0, none⟩) ∧ WO n s.H (s.f 3) (nextC g (ps.take j)) ∧ s.f 20 = .slice pp ps.length ps.length ∧ s.f 21 = .int .i64 (ps.length : Nat) ∧ s.f 22 = .int .i64 (j : Nat) ∧ j ≤ ps.length ∧ k2 = ps.length - j) ps.length ?_ ?_
  · exact ⟨0, .refl _ _, rfl, ⟨none, rfl, .inl ⟨rfl, rfl⟩⟩, rfl, rfl, rfl, Nat.zero_le _, rfl⟩
  rintro kk ⟨f, n3, H3⟩ ⟨j, kx, f0, f3, f20, f21, f22, hj, rfl⟩ ih
  simp only at f0 f3 f20 f21 f22 kx ih
  have hw3 := kx.wf hw
  have hS3 := hS.kp hw kx
  have ho3 := (kx.keep o hon).trans ho
  have hcok := nextC_ok hts (ps.take j) fun x hx => (hlok.ok x (List.mem_of_mem_take hx)).1
  have hclen := nodup_int_len _ _ hcok.1 hcok.2
  by_cases hlt : j < ps.length
  · obtain ⟨zp, op, rfl, hzp, e3, e4⟩ := (hlr.rk (kx.rk hw)).at hlt
    obtain ⟨hq1, hq2, hq3⟩ := hlok.ok _ (List.getElem_mem hlt)
    have hsn := nextC_snoc (g := g) hlt
    generalize nextC g (ps.take j) = out at *
    generalize ps[j] = xj at *
    have hsmx := okI.small (x := xj) ⟨hq1, hq2, hq3⟩ st.rl st.r8 (by omega)
    have hk4 := Kp.new n3 H3 (.cells (itC xj) 74 true)
    have hb4 := hset_at H3 n3 (.cells (itC xj) 74 true)
    have hnle := kx.le
    have ho4 := (hk4.keep o (by omega)).trans ho3
    have hS4 := hS3.kp hw3 hk4
    have hw4 := hk4.wf hw3
    have kx4 := kx.trans hk4
    generalize hE : hset H3 n3 (.cells (itC xj) 74 true) = H4 at *
    have hwj : IntKind.wrap .i64 ((j : Int) + 1) = ((j + 1 : Nat) : Int) := by rw [wrap_in (by omega) (by omega)]; rfl
    obtain ⟨q, hv3, hq⟩ := f3
    repeat (first | apply qqa | apply qqb | apply qqc | apply qqd | apply qqe | apply qqf | apply qqg | apply qqh | refine qqi rfl ?_ | ((first | (refine WK.rgn ?_ ?_; kernel_rfl) | refine AtCall.now ?_); simp (config := { maxSteps := 1000000 }) only [SS, qg0, qgb, qgl, qgs, qgi, qgf, qga, qgz, qge, forall_const, tor, vun, Go.AM.splice, one, tlen2, tpick, textr, Int.reduceEq, Int.reduceNeg, Nat.reduceGT, Nat.reduceLT, Nat.reduceLeDiff, Nat.reduceEqDiff, ↓reduceIte, reduceCtorEq, Int.reduceToNat, Int.reduceLE, Int.reduceLT, Nat.reduceAdd, Nat.reduceMul, f0, hv3, f20, f21, f22, hlt, hzp, e3, e4, itvc, itone, itsp, itle, ittk, itag, hb4, hE, ff_23]) | refine qqj rfl ?_ | refine qqk rfl ?_)
    refine AtCall.by (next_gives st hw4 hS4 ho4 hq1 hq2) ?_
    rintro wq n5 H5 hk5 rfl
    have kx5 := kx4.trans hk5
    have hw5 := hk5.wf hw4
    have hn5 := hk5.le
    have hq5 : (q = none ∧ out = []) ∨ ∃ z, q = some ⟨z, 0, none⟩ ∧ n ≤ z ∧ z < n5 ∧ H5 z = .cells (out.map (.int .i64)) 3 true := by
      rcases hq with h | ⟨z, h1, h2, h3⟩
      · exact .inl h
      · have hz3 : z < n3 := Classical.byContradiction fun hc => by rw [hw3 z (by omega)] at h3; cases h3
        exact .inr ⟨z, h1, h2, by omega, (hk5.keep z (by omega)).trans ((hk4.keep z hz3).trans h3)⟩
    have wo5 : WO n H5 (.slice q out.length out.length) out := ⟨q, rfl, by rcases hq5 with h | ⟨z, h1, h2, _, h3⟩; exact .inl h; exact .inr ⟨z, h1, h2, h3⟩⟩
    have hra5 : RA (Value.int .i64) H5 q out := by
      obtain ⟨q', e, hrs⟩ := wo5.rs
      cases e
      exact hrs.ra
    unfold nextS at hsn
    cases hn : nx g xj with
    | none =>
      rw [hn] at hsn
      simp (config := { maxSteps := 1000000 }) only [SS, qg0, qgb, qgl, qgs, qgi, qgf, qga, qgz, qge, forall_const, tor, vun, Go.AM.splice, one, tlen2, tpick, textr, Int.reduceEq, Int.reduceNeg, Nat.reduceGT, Nat.reduceLT, Nat.reduceLeDiff, Nat.reduceEqDiff, ↓reduceIte, reduceCtorEq, Int.reduceToNat, Int.reduceLE, Int.reduceLT, Nat.reduceAdd, Nat.reduceMul, ff_23]
      repeat (first | apply qqa | apply qqb | apply qqc | apply qqd | apply qqe | apply qqf | apply qqg | apply qqh | refine qqi rfl ?_ | ((first | (refine WK.rgn ?_ ?_; kernel_rfl) | refine AtCall.now ?_); simp (config := { maxSteps := 1000000 }) only [SS, qg0, qgb, qgl, qgs, qgi, qgf, qga, qgz, qge, forall_const, tor, vun, Go.AM.splice, one, tlen2, tpick, textr, Int.reduceEq, Int.reduceNeg, Nat.reduceGT, Nat.reduceLT, Nat.reduceLeDiff, Nat.reduceEqDiff, ↓reduceIte, reduceCtorEq, Int.reduceToNat, Int.reduceLE, Int.reduceLT, Nat.reduceAdd, Nat.reduceMul, f0, hv3, f20, f21, f22, Option.isSome_none, hwj, ff_23]) | refine qqj rfl ?_ | refine qqk rfl ?_)
      refine ih (ps.length - (j + 1)) (by omega) _ ?_
      refine ⟨j + 1, kx5, f0, ?_, f20, f21, rfl, hlt, rfl⟩
      rw [hsn]
      simp only [fset_apply, Nat.reduceEqDiff, ↓reduceIte, hv3]
      exact wo5
    | some y0 =>
      rw [hn] at hsn
      simp only at hsn
      have hin : inI y0 := by
        unfold nx at hn
        rw [rgt_at hq1] at hn
        exact (st.sym _ (List.getElem_mem hq1) _ (List.mem_of_getElem? hn)).1
      have hnt := bnot_i64 hin.1 hin.2
      simp (config := { maxSteps := 1000000 }) only [SS, qg0, qgb, qgl, qgs, qgi, qgf, qga, qgz, qge, forall_const, tor, vun, Go.AM.splice, one, tlen2, tpick, textr, Int.reduceEq, Int.reduceNeg, Nat.reduceGT, Nat.reduceLT, Nat.reduceLeDiff, Nat.reduceEqDiff, ↓reduceIte, reduceCtorEq, Int.reduceToNat, Int.reduceLE, Int.reduceLT, Nat.reduceAdd, Nat.reduceMul, ff_23]
      repeat (first | apply qqa | apply qqb | apply qqc | apply qqd | apply qqe | apply qqf | apply qqg | apply qqh | refine qqi rfl ?_ | ((first | (refine WK.rgn ?_ ?_; kernel_rfl) | refine AtCall.now ?_); simp (config := { maxSteps := 1000000 }) only [SS, qg0, qgb, qgl, qgs, qgi, qgf, qga, qgz, qge, forall_const, tor, vun, Go.AM.splice, one, tlen2, tpick, textr, Int.reduceEq, Int.reduceNeg, Nat.reduceGT, Nat.reduceLT, Nat.reduceLeDiff, Nat.reduceEqDiff, ↓reduceIte, reduceCtorEq, Int.reduceToNat, Int.reduceLE, Int.reduceLT, Nat.reduceAdd, Nat.reduceMul, f0, hv3, f20, f21, f22, Option.isSome_some, Option.getD_some, ff_23]) | refine qqj rfl ?_ | refine qqk rfl ?_)
      refine AtCall.by (isVar_gives _ _ _) ?_
      rintro wq n6 H6 hk6 ⟨rfl, rfl, rfl⟩
      by_cases h0 : 0 ≤ y0
      · rw [if_neg (by omega)] at hsn
        simp (config := { maxSteps := 1000000 }) only [SS, qg0, qgb, qgl, qgs, qgi, qgf, qga, qgz, qge, forall_const, tor, vun, Go.AM.splice, one, tlen2, tpick, textr, Int.reduceEq, Int.reduceNeg, Nat.reduceGT, Nat.reduceLT, Nat.reduceLeDiff, Nat.reduceEqDiff, ↓reduceIte, reduceCtorEq, Int.reduceToNat, Int.reduceLE, Int.reduceLT, Nat.reduceAdd, Nat.reduceMul, h0, ff_23]
        repeat (first | apply qqa | apply qqb | apply qqc | apply qqd | apply qqe | apply qqf | apply qqg | apply qqh | refine qqi rfl ?_ | ((first | (refine WK.rgn ?_ ?_; kernel_rfl) | refine AtCall.now ?_); simp (config := { maxSteps := 1000000 }) only [SS, qg0, qgb, qgl, qgs, qgi, qgf, qga, qgz, qge, forall_const, tor, vun, Go.AM.splice, one, tlen2, tpick, textr, Int.reduceEq, Int.reduceNeg, Nat.reduceGT, Nat.reduceLT, Nat.reduceLeDiff, Nat.reduceEqDiff, ↓reduceIte, reduceCtorEq, Int.reduceToNat, Int.reduceLE, Int.reduceLT, Nat.reduceAdd, Nat.reduceMul, f0, hv3, f20, f21, f22, h0, hwj, ff_23]) | refine qqj rfl ?_ | refine qqk rfl ?_)
        refine ih (ps.length - (j + 1)) (by omega) _ ?_
        refine ⟨j + 1, kx5, f0, ?_, f20, f21, rfl, hlt, rfl⟩
        rw [hsn]
        simp only [fset_apply, Nat.reduceEqDiff, ↓reduceIte, hv3]
        exact wo5
      · simp (config := { maxSteps := 1000000 }) only [SS, qg0, qgb, qgl, qgs, qgi, qgf, qga, qgz, qge, forall_const, tor, vun, Go.AM.splice, one, tlen2, tpick, textr, Int.reduceEq, Int.reduceNeg, Nat.reduceGT, Nat.reduceLT, Nat.reduceLeDiff, Nat.reduceEqDiff, ↓reduceIte, reduceCtorEq, Int.reduceToNat, Int.reduceLE, Int.reduceLT, Nat.reduceAdd, Nat.reduceMul, h0, hnt, hv3, ff_23]
        refine AtCall.by (containsI_gives hra5 (by omega)) ?_
        rintro wq n7 H7 hk7 ⟨rfl, rfl, rfl⟩
        by_cases hm : (-y0 - 1) ∈ out
        · rw [if_neg (fun h => h.2 hm)] at hsn
          simp (config := { maxSteps := 1000000 }) only [SS, qg0, qgb, qgl, qgs, qgi, qgf, qga, qgz, qge, forall_const, tor, vun, Go.AM.splice, one, tlen2, tpick, textr, Int.reduceEq, Int.reduceNeg, Nat.reduceGT, Nat.reduceLT, Nat.reduceLeDiff, Nat.reduceEqDiff, ↓reduceIte, reduceCtorEq, Int.reduceToNat, Int.reduceLE, Int.reduceLT, Nat.reduceAdd, Nat.reduceMul, hm, ff_23]
          repeat (first | apply qqa | apply qqb | apply qqc | apply qqd | apply qqe | apply qqf | apply qqg | apply qqh | refine qqi rfl ?_ | ((first | (refine WK.rgn ?_ ?_; kernel_rfl) | refine AtCall.now ?_); simp (config := { maxSteps := 1000000 }) only [SS, qg0, qgb, qgl, qgs, qgi, qgf, qga, qgz, qge, forall_const, tor, vun, Go.AM.splice, one, tlen2, tpick, textr, Int.reduceEq, Int.reduceNeg, Nat.reduceGT, Nat.reduceLT, Nat.reduceLeDiff, Nat.reduceEqDiff, ↓reduceIte, reduceCtorEq, Int.reduceToNat, Int.reduceLE, Int.reduceLT, Nat.reduceAdd, Nat.reduceMul, f0, hv3, f20, f21, f22, hm, hwj, ff_23]) | refine qqj rfl ?_ | refine qqk rfl ?_)
          refine ih (ps.length - (j + 1)) (by omega) _ ?_
          refine ⟨j + 1, kx5, f0, ?_, f20, f21, rfl, hlt, rfl⟩
          rw [hsn]
          simp only [fset_apply, Nat.reduceEqDiff, ↓reduceIte, hv3]
          exact wo5
        · rw [if_pos ⟨by omega, hm⟩] at hsn
          have u1 : vcells (Value.int .i64 (-y0 - 1)) = [Value.int .i64 (-y0 - 1)] := rfl
          have u2 : ([Value.int .i64 (-y0 - 1)] : List Value).length = 1 := rfl
          have u3 : ([Value.int .i64 (-y0 - 1)] : List Value).all one = true := rfl
          have u4 : Go.AM.splice [Value.int IntKind.i64 (Int.ofNat 0)] 0 [Value.int .i64 (-y0 - 1)] = [Value.int .i64 (-y0 - 1)] := rfl
          have u5 : ([Value.int .i64 (-y0 - 1)] : List Value).take 1 = [Value.int .i64 (-y0 - 1)] := rfl
          have kA := Kp.new n7 H7 (.cells [.int .i64 (-y0 - 1)] 3 true)
          have bA := hset_at H7 n7 (.cells [.int .i64 (-y0 - 1)] 3 true)
          rcases hq5 with ⟨rfl, rfl⟩ | ⟨z, rfl, hz1, hz2, hz3⟩
          · generalize hA : hset H7 n7 (.cells [.int .i64 (-y0 - 1)] 3 true) = HA at *
            have kB := Kp.new (n7 + 1) HA (.cells [.int .i64 (-y0 - 1)] 3 true)
            have bB := hset_at HA (n7 + 1) (.cells [.int .i64 (-y0 - 1)] 3 true)
            simp (config := { maxSteps := 1000000 }) only [SS, qg0, qgb, qgl, qgs, qgi, qgf, qga, qgz, qge, forall_const, tor, vun, Go.AM.splice, one, tlen2, tpick, textr, Int.reduceEq, Int.reduceNeg, Nat.reduceGT, Nat.reduceLT, Nat.reduceLeDiff, Nat.reduceEqDiff, ↓reduceIte, reduceCtorEq, Int.reduceToNat, Int.reduceLE, Int.reduceLT, Nat.reduceAdd, Nat.reduceMul, hm, ff_23]
            repeat (first | apply qqa | apply qqb | apply qqc | apply qqd | apply qqe | apply qqf | apply qqg | apply qqh | refine qqi rfl ?_ | ((first | (refine WK.rgn ?_ ?_; kernel_rfl) | refine AtCall.now ?_); simp (config := { maxSteps := 1000000 }) only [SS, qg0, qgb, qgl, qgs, qgi, qgf, qga, qgz, qge, forall_const, tor, vun, Go.AM.splice, one, tlen2, tpick, textr, Int.reduceEq, Int.reduceNeg, Nat.reduceGT, Nat.reduceLT, Nat.reduceLeDiff, Nat.reduceEqDiff, ↓reduceIte, reduceCtorEq, Int.reduceToNat, Int.reduceLE, Int.reduceLT, Nat.reduceAdd, Nat.reduceMul, f0, hv3, f20, f21, f22, hm, hnt, hA, bA, u1, u2, u3, u4, u5, hwj, List.length_nil, List.drop_zero, ff_23]) | refine qqj rfl ?_ | refine qqk rfl ?_)
            refine ih (ps.length - (j + 1)) (by omega) _ ?_
            refine ⟨j + 1, (kx5.trans kA).trans kB, f0, ?_, f20, f21, rfl, hlt, rfl⟩
            rw [hsn]
            exact ⟨_, rfl, .inr ⟨n7 + 1, rfl, by omega, bB⟩⟩
          · have zA := (kA.keep z hz2).trans hz3
            generalize hA : hset H7 n7 (.cells [.int .i64 (-y0 - 1)] 3 true) = HA at *
            have kA' := (kx5.trans kA).set (x := z) .dead hz1 (by omega)
            generalize hA1 : hset HA z .dead = HA1 at *
            have kB := Kp.new (n7 + 1) HA1 (.cells (out.map (.int .i64) ++ [.int .i64 (-y0 - 1)]) 3 true)
            have bB := hset_at HA1 (n7 + 1) (.cells (out.map (.int .i64) ++ [.int .i64 (-y0 - 1)]) 3 true)
            have z1 : out.length + 1 ≤ bigN := by unfold bigN; omega
            have z2 : [n7].contains z = false := by simp; omega
            have z3 : (out.map (Value.int .i64)).take out.length = out.map (.int .i64) := List.take_of_length_le (by simp)
            simp (config := { maxSteps := 1000000 }) only [SS, qg0, qgb, qgl, qgs, qgi, qgf, qga, qgz, qge, forall_const, tor, vun, Go.AM.splice, one, tlen2, tpick, textr, Int.reduceEq, Int.reduceNeg, Nat.reduceGT, Nat.reduceLT, Nat.reduceLeDiff, Nat.reduceEqDiff, ↓reduceIte, reduceCtorEq, Int.reduceToNat, Int.reduceLE, Int.reduceLT, Nat.reduceAdd, Nat.reduceMul, hm, ff_23]
            repeat (first | apply qqa | apply qqb | apply qqc | apply qqd | apply qqe | apply qqf | apply qqg | apply qqh | refine qqi rfl ?_ | ((first | (refine WK.rgn ?_ ?_; kernel_rfl) | refine AtCall.now ?_); simp (config := { maxSteps := 1000000 }) only [SS, qg0, qgb, qgl, qgs, qgi, qgf, qga, qgz, qge, forall_const, tor, vun, Go.AM.splice, one, tlen2, tpick, textr, Int.reduceEq, Int.reduceNeg, Nat.reduceGT, Nat.reduceLT, Nat.reduceLeDiff, Nat.reduceEqDiff, ↓reduceIte, reduceCtorEq, Int.reduceToNat, Int.reduceLE, Int.reduceLT, Nat.reduceAdd, Nat.reduceMul, f0, hv3, f20, f21, f22, hm, hnt, hA, bA, u1, u2, u3, u4, u5, hwj, zA, z1, z2, z3, hA1, List.drop_zero, List.length_map, Nat.zero_add, Nat.mul_one, ff_23]) | refine qqj rfl ?_ | refine qqk rfl ?_)
            refine ih (ps.length - (j + 1)) (by omega) _ ?_
            refine ⟨j + 1, kA'.trans kB, f0, ?_, f20, f21, rfl, hlt, rfl⟩
            rw [hsn]
            exact ⟨_, by rw [List.length_append]; rfl, .inr ⟨n7 + 1, rfl, by omega, by rw [List.map_append]; exact bB⟩⟩
  · have hje : j = ps.length := by omega
    rw [hje, List.take_length] at f3 hclen
    generalize nextC g ps = out at *
    obtain ⟨q, hv3, hq⟩ := f3
    rcases hq with ⟨rfl, rfl⟩ | ⟨z, rfl, hz1, hz3⟩
    · repeat (first | apply qqa | apply qqb | apply qqc | apply qqd | apply qqe | apply qqf | apply qqg | apply qqh | refine qqi rfl ?_ | ((first | (refine WK.rgn ?_ ?_; kernel_rfl) | refine AtCall.now ?_); simp (config := { maxSteps := 1000000 }) only [SS, qg0, qgb, qgl, qgs, qgi, qgf, qga, qgz, qge, forall_const, tor, vun, Go.AM.splice, one, tlen2, tpick, textr, Int.reduceEq, Int.reduceNeg, Nat.reduceGT, Nat.reduceLT, Nat.reduceLeDiff, Nat.reduceEqDiff, ↓reduceIte, reduceCtorEq, Int.reduceToNat, Int.reduceLE, Int.reduceLT, Nat.reduceAdd, Nat.reduceMul, f0, hv3, f20, f21, f22, hlt, List.length_nil, ff_23]) | refine qqj rfl ?_ | refine qqk rfl ?_)
      refine AtCall.by (sort0_gives _ _) ?_
      rintro wq n6 H6 kx6 ⟨rfl, rfl⟩
      simp (config := { maxSteps := 1000000 }) only [SS, qg0, qgb, qgl, qgs, qgi, qgf, qga, qgz, qge, forall_const, tor, vun, Go.AM.splice, one, tlen2, tpick, textr, Int.reduceEq, Int.reduceNeg, Nat.reduceGT, Nat.reduceLT, Nat.reduceLeDiff, Nat.reduceEqDiff, ↓reduceIte, reduceCtorEq, Int.reduceToNat, Int.reduceLE, Int.reduceLT, Nat.reduceAdd, Nat.reduceMul, hv3, ff_23]
      repeat (first | apply qqa | apply qqb | apply qqc | apply qqd | apply qqe | apply qqf | apply qqg | apply qqh | refine qqi rfl ?_ | ((first | (refine WK.rgn ?_ ?_; kernel_rfl) | refine AtCall.now ?_); simp (config := { maxSteps := 1000000 }) only [SS, qg0, qgb, qgl, qgs, qgi, qgf, qga, qgz, qge, forall_const, tor, vun, Go.AM.splice, one, tlen2, tpick, textr, Int.reduceEq, Int.reduceNeg, Nat.reduceGT, Nat.reduceLT, Nat.reduceLeDiff, Nat.reduceEqDiff, ↓reduceIte, reduceCtorEq, Int.reduceToNat, Int.reduceLE, Int.reduceLT, Nat.reduceAdd, Nat.reduceMul, hv3, ff_23]) | refine qqj rfl ?_ | refine qqk rfl ?_)
      (first | refine WK.retNil ⟨Or.inr rfl, _, rfl, ?_, ?_⟩ | refine WK.skipNil ⟨Or.inl rfl, _, rfl, ?_, ?_⟩)
      · exact kx.keep
      · simp only [packed, fset_apply, Nat.reduceEqDiff, ↓reduceIte, List.getD_cons_zero, List.getD_cons_succ, hv3, ff_23]
        exact ⟨none, rfl, .inl ⟨rfl, rfl⟩⟩
    · repeat (first | apply qqa | apply qqb | apply qqc | apply qqd | apply qqe | apply qqf | apply qqg | apply qqh | refine qqi rfl ?_ | ((first | (refine WK.rgn ?_ ?_; kernel_rfl) | refine AtCall.now ?_); simp (config := { maxSteps := 1000000 }) only [SS, qg0, qgb, qgl, qgs, qgi, qgf, qga, qgz, qge, forall_const, tor, vun, Go.AM.splice, one, tlen2, tpick, textr, Int.reduceEq, Int.reduceNeg, Nat.reduceGT, Nat.reduceLT, Nat.reduceLeDiff, Nat.reduceEqDiff, ↓reduceIte, reduceCtorEq, Int.reduceToNat, Int.reduceLE, Int.reduceLT, Nat.reduceAdd, Nat.reduceMul, f0, hv3, f20, f21, f22, hlt, ff_23]) | refine qqj rfl ?_ | refine qqk rfl ?_)
      have hz2 : z < n3 := Classical.byContradiction fun hc => by rw [hw3 z (by omega)] at hz3; cases hz3
      refine AtCall.byX (sort_gives hz3 hz2 (by omega)) ?_
      rintro wq n6 H6 kx6 ⟨rfl, hne, l', hl', hp, hs⟩
      simp (config := { maxSteps := 1000000 }) only [SS, qg0, qgb, qgl, qgs, qgi, qgf, qga, qgz, qge, forall_const, tor, vun, Go.AM.splice, one, tlen2, tpick, textr, Int.reduceEq, Int.reduceNeg, Nat.reduceGT, Nat.reduceLT, Nat.reduceLeDiff, Nat.reduceEqDiff, ↓reduceIte, reduceCtorEq, Int.reduceToNat, Int.reduceLE, Int.reduceLT, Nat.reduceAdd, Nat.reduceMul, hv3, ff_23]
      repeat (first | apply qqa | apply qqb | apply qqc | apply qqd | apply qqe | apply qqf | apply qqg | apply qqh | refine qqi rfl ?_ | ((first | (refine WK.rgn ?_ ?_; kernel_rfl) | refine AtCall.now ?_); simp (config := { maxSteps := 1000000 }) only [SS, qg0, qgb, qgl, qgs, qgi, qgf, qga, qgz, qge, forall_const, tor, vun, Go.AM.splice, one, tlen2, tpick, textr, Int.reduceEq, Int.reduceNeg, Nat.reduceGT, Nat.reduceLT, Nat.reduceLeDiff, Nat.reduceEqDiff, ↓reduceIte, reduceCtorEq, Int.reduceToNat, Int.reduceLE, Int.reduceLT, Nat.reduceAdd, Nat.reduceMul, hv3, ff_23]) | refine qqj rfl ?_ | refine qqk rfl ?_)
      (first | refine WK.retNil ⟨Or.inr rfl, _, rfl, ?_, ?_⟩ | refine WK.skipNil ⟨Or.inl rfl, _, rfl, ?_, ?_⟩)
      · exact fun x hx => (hne x (by omega)).trans (kx.keep x hx)
      · simp only [packed, fset_apply, Nat.reduceEqDiff, ↓reduceIte, List.getD_cons_zero, List.getD_cons_succ, hv3, ff_23]
        have := sorted_eq (hp.trans (isort_perm out).symm) hs (isort_le out)
        rw [← this]
        exact ⟨_, by rw [hp.length_eq], .inr ⟨z, rfl, hz1, hl'⟩⟩
end Go.Proofs.Ytpdlmpbhohinpaa
