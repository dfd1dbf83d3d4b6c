/- A part of a proof. Its conditions: none. -/
import Derived.Test.YtpdlmpbhohinpaaAmCSortI
import Derived.Test.YtpdlmpbhohinpaaAmCChAcc
set_option linter.all false
namespace Go.Proofs.Ytpdlmpbhohinpaa
open Go.AM Go.RowKit
set_option maxRecDepth 100000
theorem indexI_gives {p : Option Addr} {l : List Int} {t : Int} {n : Nat} {H : Heap} (h : RA (Value.int .i64) H p l) (hl : l.length ≤ 1000000) : Gives Try.prog 68 [.slice p l.length l.length, .int .i64 t] n H fun v n' H' => (∃ k : Int, v = .int .i64 k ∧ (0 ≤ k ↔ t ∈ l)) ∧ n' = n ∧ H' = H := by
  refine Gives.of orders ok68 (Nat.le_of_ble_eq_true rfl) ?_
  repeat (first | refine qqn rfl ?_ | ((first | (refine WK.rgn ?_ ?_; kernel_rfl) | refine AtCall.now ?_); simp (config := {maxSteps:=999999}) only [SS, qx10, forall_const, Int.reduceEq, Int.reduceNeg, Nat.reduceGT, Nat.reduceLT, Nat.reduceLeDiff, Nat.reduceEqDiff, ↓reduceIte, reduceCtorEq, Int.reduceToNat, Int.reduceLE, Int.reduceLT, Nat.reduceAdd, Nat.reduceMul, ff_68]) | refine qqj rfl ?_ | refine qqk rfl ?_)
  refine WK.loop (fun k s => ∃ j : Nat, s.n = n ∧ s.H = H ∧ s.f 0 = .slice p l.length l.length ∧ s.f 1 = .int .i64 t ∧ s.f 7 = .int .i64 (l.length : Nat) ∧ s.f 8 = .int .i64 (j : Nat) ∧ j ≤ l.length ∧ t ∉ l.take j ∧ k = l.length - j) l.length ?_ ?_
  · exact ⟨0, rfl, rfl, rfl, rfl, rfl, rfl, Nat.zero_le _, by simp, rfl⟩
  rintro k ⟨f, n1, H1⟩ ⟨j, rfl, rfl, f0, f1, f7, f8, hj, hn, rfl⟩ ih
  simp only at f0 f1 f7 f8 h ih
  by_cases hlt : j < l.length
  · obtain ⟨x, kx, cs, ty, own, rfl, hx, hc⟩ := h (by intro e; subst e; simp at hlt)
    have hcj := hc j _ (List.getElem?_eq_getElem hlt)
    have hwj : IntKind.wrap .i64 ((j : Int) + 1) = ((j + 1 : Nat) : Int) := by rw [wrap_in (by omega) (by omega)]; rfl
    have htj : l.take (j + 1) = l.take j ++ [l[j]] := List.take_succ_eq_append_getElem hlt
    by_cases he : t = l[j]
    · repeat (first | refine qqn rfl ?_ | ((first | (refine WK.rgn ?_ ?_; kernel_rfl) | refine AtCall.now ?_); simp (config := {maxSteps:=999999}) only [SS, qx10, forall_const, Int.reduceEq, Int.reduceNeg, Nat.reduceGT, Nat.reduceLT, Nat.reduceLeDiff, Nat.reduceEqDiff, ↓reduceIte, reduceCtorEq, Int.reduceToNat, Int.reduceLE, Int.reduceLT, Nat.reduceAdd, Nat.reduceMul, f0, f1, f7, f8, hlt, hx, hcj, he, ff_68]) | refine qqj rfl ?_ | refine qqk rfl ?_)
      (first | refine WK.retNil ⟨Or.inr rfl, _, rfl, ?_, ?_⟩ | refine WK.skipNil ⟨Or.inl rfl, _, rfl, ?_, ?_⟩)
      · exact fun _ _ => rfl
      · simp only [packed, fset_apply, Nat.reduceEqDiff, ↓reduceIte, List.getD_cons_zero, List.getD_cons_succ, ff_68]
        exact ⟨⟨_, rfl, by constructor; intro _; exact List.getElem_mem hlt; intro _; omega⟩, trivial, trivial⟩
    · repeat (first | refine qqn rfl ?_ | ((first | (refine WK.rgn ?_ ?_; kernel_rfl) | refine AtCall.now ?_); simp (config := {maxSteps:=999999}) only [SS, qx10, forall_const, Int.reduceEq, Int.reduceNeg, Nat.reduceGT, Nat.reduceLT, Nat.reduceLeDiff, Nat.reduceEqDiff, ↓reduceIte, reduceCtorEq, Int.reduceToNat, Int.reduceLE, Int.reduceLT, Nat.reduceAdd, Nat.reduceMul, f0, f1, f7, f8, hlt, hx, hcj, he, hwj, ff_68]) | refine qqj rfl ?_ | refine qqk rfl ?_)
      refine ih (l.length - (j + 1)) (by omega) _ ?_
      refine ⟨j + 1, rfl, rfl, f0, f1, f7, rfl, hlt, ?_, rfl⟩
      rw [htj]
      simp only [List.mem_append, List.mem_singleton, not_or]
      exact ⟨hn, he⟩
  · repeat (first | refine qqn rfl ?_ | ((first | (refine WK.rgn ?_ ?_; kernel_rfl) | refine AtCall.now ?_); simp (config := {maxSteps:=999999}) only [SS, qx10, forall_const, Int.reduceEq, Int.reduceNeg, Nat.reduceGT, Nat.reduceLT, Nat.reduceLeDiff, Nat.reduceEqDiff, ↓reduceIte, reduceCtorEq, Int.reduceToNat, Int.reduceLE, Int.reduceLT, Nat.reduceAdd, Nat.reduceMul, f0, f1, f7, f8, hlt, ff_68]) | refine qqj rfl ?_ | refine qqk rfl ?_)
    (first | refine WK.retNil ⟨Or.inr rfl, _, rfl, ?_, ?_⟩ | refine WK.skipNil ⟨Or.inl rfl, _, rfl, ?_, ?_⟩)
    · exact fun _ _ => rfl
    · simp only [packed, fset_apply, Nat.reduceEqDiff, ↓reduceIte, List.getD_cons_zero, List.getD_cons_succ, ff_68]
      rw [List.take_of_length_le (by omega)] at hn
      exact ⟨⟨_, rfl, by constructor; intro h; omega; intro h; exact absurd h hn⟩, trivial, trivial⟩
theorem containsI_gives {p : Option Addr} {l : List Int} {t : Int} {n : Nat} {H : Heap} (h : RA (Value.int .i64) H p l) (hl : l.length ≤ 1000000) : Gives Try.prog 50 [.slice p l.length l.length, .int .i64 t] n H fun v n' H' => v = .bool (decide (t ∈ l)) ∧ n' = n ∧ H' = H := by
  refine Gives.of orders ok50 (Nat.le_of_ble_eq_true rfl) ?_
  repeat (first | refine qqn rfl ?_ | ((first | (refine WK.rgn ?_ ?_; kernel_rfl) | refine AtCall.now ?_); simp (config := {maxSteps:=999999}) only [SS, qx21, forall_const, Int.reduceEq, Int.reduceNeg, Nat.reduceGT, Nat.reduceLT, Nat.reduceLeDiff, Nat.reduceEqDiff, ↓reduceIte, reduceCtorEq, Int.reduceToNat, Int.reduceLE, Int.reduceLT, Nat.reduceAdd, Nat.reduceMul]) | refine qqj rfl ?_ | refine qqk rfl ?_)
  refine AtCall.by (indexI_gives h hl) ?_
  rintro v n1 H1 hk1 ⟨⟨k, rfl, hk⟩, rfl, rfl⟩
  simp (config := {maxSteps:=999999}) only [SS, qx21, forall_const, Int.reduceEq, Int.reduceNeg, Nat.reduceGT, Nat.reduceLT, Nat.reduceLeDiff, Nat.reduceEqDiff, ↓reduceIte, reduceCtorEq, Int.reduceToNat, Int.reduceLE, Int.reduceLT, Nat.reduceAdd, Nat.reduceMul]
  repeat (first | refine qqn rfl ?_ | ((first | (refine WK.rgn ?_ ?_; kernel_rfl) | refine AtCall.now ?_); simp (config := {maxSteps:=999999}) only [SS, qx21, forall_const, Int.reduceEq, Int.reduceNeg, Nat.reduceGT, Nat.reduceLT, Nat.reduceLeDiff, Nat.reduceEqDiff, ↓reduceIte, reduceCtorEq, Int.reduceToNat, Int.reduceLE, Int.reduceLT, Nat.reduceAdd, Nat.reduceMul]) | refine qqj rfl ?_ | refine qqk rfl ?_)
  (first | refine WK.retNil ⟨Or.inr rfl, _, rfl, ?_, ?_⟩ | refine WK.skipNil ⟨Or.inl rfl, _, rfl, ?_, ?_⟩)
  · exact fun _ _ => rfl
  · simp only [packed, fset_apply, Nat.reduceEqDiff, ↓reduceIte, List.getD_cons_zero, List.getD_cons_succ]
    refine ⟨?_, trivial, trivial⟩
    simp only [hk]
def nextS (g : Gram) (out : List Int) (x : It) : List Int := match nx g x with
  | some y => if y < 0 ∧ (-y - 1) ∉ out then out ++ [-y - 1] else out
  | none => out
def nextC (g : Gram) (ps : List It) : List Int := ps.foldl (nextS g) []
theorem nextC_snoc {g : Gram} {ps : List It} {j : Nat} (hj : j < ps.length) : nextC g (ps.take (j + 1)) = nextS g (nextC g (ps.take j)) ps[j] := by
  unfold nextC
  rw [List.take_succ_eq_append_getElem hj, List.foldl_append]
  rfl
theorem nodup_int_len : ∀ (k : Nat) (l : List Int), l.Nodup → (∀ t ∈ l, 0 ≤ t ∧ t < (k : Int)) → l.length ≤ k := by
  intro k l hn h
  have := nodup_sub_len l ((List.range k).map fun (i : Nat) => (i : Int)) hn fun x hx => by
    obtain ⟨h1, h2⟩ := h x hx
    exact List.mem_map.2 ⟨x.toNat, List.mem_range.2 (by omega), by omega⟩
  simpa using this
theorem nextC_ok {g : Gram} (hts : ∀ r ∈ g.rules, ∀ s ∈ r.right, -s - 1 < (g.terms.length : Int)) : ∀ (ps : List It), (∀ x ∈ ps, x.1 < g.rules.length) → (nextC g ps).Nodup ∧ ∀ t ∈ nextC g ps, 0 ≤ t ∧ t < (g.terms.length : Int) := by
  intro ps
  unfold nextC
  suffices ∀ (ps : List It) (out : List Int), (∀ x ∈ ps, x.1 < g.rules.length) → (out.Nodup ∧ ∀ t ∈ out, 0 ≤ t ∧ t < (g.terms.length : Int)) → (ps.foldl (nextS g) out).Nodup ∧ ∀ t ∈ ps.foldl (nextS g) out, 0 ≤ t ∧ t < (g.terms.length : Int) from fun h => this ps [] h ⟨List.nodup_nil, fun t ht => by cases ht⟩
  intro ps
  induction ps with
  | nil => intro out _ h; exact h
  | cons x ps ih =>
    intro out hx h
    refine ih _ (fun y hy => hx y (by simp [hy])) ?_
    unfold nextS
    cases hn : nx g x with
    | none => exact h
    | some y =>
      simp only
      split
      · rename_i hc
        have hx1 := hx x (by simp)
        unfold nx at hn
        rw [rgt_at hx1] at hn
        have := hts _ (List.getElem_mem hx1) _ (List.mem_of_getElem? hn)
        refine ⟨?_, fun t ht => ?_⟩
        · rw [List.nodup_append]
          exact ⟨h.1, by simp, fun a ha b hb => by simp at hb; subst hb; intro e; subst e; exact hc.2 ha⟩
        · rcases List.mem_append.1 ht with h1 | h1
          · exact h.2 t h1
          · simp at h1; subst h1; omega
      · exact h
def isort : List Int → List Int
  | [] => []
  | a :: l => ins a (isort l)
where ins (a : Int) : List Int → List Int
  | [] => [a]
  | b :: l => if a ≤ b then a :: b :: l else b :: ins a l
theorem ins_perm (a : Int) : ∀ l, (isort.ins a l).Perm (a :: l) := by
  intro l
  induction l with
  | nil => exact .refl _
  | cons b l ih =>
    unfold isort.ins
    split
    · exact .refl _
    · exact (List.Perm.cons b ih).trans (.swap a b l)
theorem ins_le (a : Int) : ∀ l, le2 l → le2 (isort.ins a l) := by
  intro l
  induction l with
  | nil => intro _; simp [isort.ins, le2]
  | cons b l ih =>
    intro h
    unfold isort.ins
    have hb := List.pairwise_cons.1 h
    split
    · rename_i hab
      refine List.pairwise_cons.2 ⟨fun c hc => ?_, h⟩
      rcases List.mem_cons.1 hc with rfl | hc
      · exact hab
      · exact Int.le_trans hab (hb.1 c hc)
    · rename_i hab
      refine List.pairwise_cons.2 ⟨fun c hc => ?_, ih hb.2⟩
      rcases List.mem_cons.1 ((ins_perm a l).mem_iff.1 hc) with rfl | hc
      · omega
      · exact hb.1 c hc
theorem isort_perm : ∀ l, (isort l).Perm l := by
  intro l
  induction l with
  | nil => exact .refl _
  | cons a l ih => exact (ins_perm a _).trans (.cons a ih)
theorem isort_le : ∀ l, le2 (isort l) := by
  intro l
  induction l with
  | nil => exact List.Pairwise.nil
  | cons a l ih => exact ins_le a _ ih
def nextL (g : Gram) (sets : List (List It)) : List Int := isort (nextC g (lastS sets))
set_option maxHeartbeats 16000000 in
theorem nextm_gives {S H : Heap} {N o y x n : Nat} {pt pv pr pg pe pc : Option Addr} {g : Gram} {gd em : List Bool} {co : List Nat} {sets : List (List It)} {w : List Int} (st : Stat S N pr pg pe pc g gd em co) (hw : WF n H) (hS : Sub S H)
    (hc : CHR H N o y x pt pv pr pg pe pc g gd em co sets w) (hk : okS g sets) (ha : sets.length ≤ 4000) (hts : ∀ r ∈ g.rules, ∀ s ∈ r.right, -s - 1 < (g.terms.length : Int)) (htl : g.terms.length ≤ 6) :
    Gives Try.prog 23 [.pointer (some ⟨o, 0, none⟩)] n H fun v _ H' => WO n H' v (nextL g sets) := by
  refine Gives.of orders ok23 (Nat.le_of_ble_eq_true rfl) ?_
  obtain ⟨c, wv, cs, ho, hyN, hy, hyl, hsr, hwv⟩ := id hc
  have low : ∀ {z cs ty own}, H z = .cells cs ty own → z < n := fun {z cs ty own} e => Classical.byContradiction fun hc => by rw [hw z (by omega)] at e; cases e
  have hon := low ho
  have hs0 := List.length_pos_iff.2 hk.1
  have hsl : sets.length - 1 < sets.length := by omega
  obtain ⟨pp, hpp, hlr⟩ := hsr _ hsl
  have hlast : lastS sets = sets[sets.length - 1] := by unfold lastS; rw [List.getD_eq_getElem?_getD, List.getElem?_eq_getElem hsl]; rfl
  have hlok := lastS_ok hk
  unfold nextL
  rw [← hlast] at hpp hlr
  generalize hps : lastS sets = ps at *
  have hpl := small_okL hlok st.rl st.r8 (by omega)
  repeat (first | refine qqn rfl ?_)
  have hsub : IntKind.wrap .i64 ((sets.length : Int) - 1) = ((sets.length - 1 : Nat) : Int) := by rw [wrap_in (by omega) (by omega)]; omega
  repeat (first | refine qqn rfl ?_ | ((first | (refine WK.rgn ?_ ?_; kernel_rfl) | refine AtCall.now ?_); simp (config := {maxSteps:=999999}) only [SS, qx18, forall_const, vun, Int.reduceEq, Int.reduceNeg, Nat.reduceGT, Nat.reduceLT, Nat.reduceLeDiff, Nat.reduceEqDiff, ↓reduceIte, reduceCtorEq, Int.reduceToNat, Int.reduceLE, Int.reduceLT, Nat.reduceAdd, Nat.reduceMul, ho, ch6, hy, hsub, hsl, hpp, aop_nc, tnc, ff_23]) | refine qqj rfl ?_ | refine qqk rfl ?_)
  refine WK.loop (fun k2 s => ∃ j : Nat, Kp n H s.n s.H ∧ s.f 0 = .pointer (some ⟨o, 0, none⟩) ∧ WO n s.H (s.f 3) (nextC g (ps.take j)) ∧ s.f 20 = .slice pp ps.length ps.length ∧ s.f 21 = .int .i64 (ps.length : Nat) ∧ s.f 22 = .int .i64 (j : Nat) ∧ j ≤ ps.length ∧ k2 = ps.length - j) ps.length ?_ ?_
  · exact ⟨0, .refl _ _, rfl, ⟨none, rfl, .inl ⟨rfl, rfl⟩⟩, rfl, rfl, rfl, Nat.zero_le _, rfl⟩
  rintro kk ⟨f, n3, H3⟩ ⟨j, kx, f0, f3, f20, f21, f22, hj, rfl⟩ ih
  simp only at f0 f3 f20 f21 f22 kx ih
  have hw3 := kx.wf hw
  have hS3 := hS.kp hw kx
  have ho3 := (kx.keep o hon).trans ho
  have hcok := nextC_ok hts (ps.take j) fun x hx => (hlok.ok x (List.mem_of_mem_take hx)).1
  have hclen := nodup_int_len _ _ hcok.1 hcok.2
  by_cases hlt : j < ps.length
  · obtain ⟨zp, op, rfl, hzp, e3, e4⟩ := (hlr.rk (kx.rk hw)).at hlt
    obtain ⟨hq1, hq2, hq3⟩ := hlok.ok _ (List.getElem_mem hlt)
    have hsn := nextC_snoc (g := g) hlt
    generalize nextC g (ps.take j) = out at *
    generalize ps[j] = xj at *
    have hsmx := okI.small (x := xj) ⟨hq1, hq2, hq3⟩ st.rl st.r8 (by omega)
    have hk4 := Kp.new n3 H3 (.cells (itC xj) 74 true)
    have hb4 := hset_at H3 n3 (.cells (itC xj) 74 true)
    have hnle := kx.le
    have ho4 := (hk4.keep o (by omega)).trans ho3
    have hS4 := hS3.kp hw3 hk4
    have hw4 := hk4.wf hw3
    have kx4 := kx.trans hk4
    generalize hE : hset H3 n3 (.cells (itC xj) 74 true) = H4 at *
    have hwj : IntKind.wrap .i64 ((j : Int) + 1) = ((j + 1 : Nat) : Int) := by rw [wrap_in (by omega) (by omega)]; rfl
    obtain ⟨q, hv3, hq⟩ := f3
    repeat (first | refine qqn rfl ?_ | ((first | (refine WK.rgn ?_ ?_; kernel_rfl) | refine AtCall.now ?_); simp (config := {maxSteps:=999999}) only [SS, qx18, forall_const, vun, Int.reduceEq, Int.reduceNeg, Nat.reduceGT, Nat.reduceLT, Nat.reduceLeDiff, Nat.reduceEqDiff, ↓reduceIte, reduceCtorEq, Int.reduceToNat, Int.reduceLE, Int.reduceLT, Nat.reduceAdd, Nat.reduceMul, f0, hv3, f20, f21, f22, hlt, hzp, e3, e4, itvc, itone, itsp, itle, ittk, itag, hb4, hE, ff_23]) | refine qqj rfl ?_ | refine qqk rfl ?_)
    refine AtCall.by (next_gives st hw4 hS4 ho4 hq1 hq2) ?_
    rintro wq n5 H5 hk5 rfl
    have kx5 := kx4.trans hk5
    have hw5 := hk5.wf hw4
    have hn5 := hk5.le
    have hq5 : (q = none ∧ out = []) ∨ ∃ z, q = some ⟨z, 0, none⟩ ∧ n ≤ z ∧ z < n5 ∧ H5 z = .cells (out.map (.int .i64)) 3 true := by
      rcases hq with h | ⟨z, h1, h2, h3⟩
      · exact .inl h
      · have hz3 : z < n3 := Classical.byContradiction fun hc => by rw [hw3 z (by omega)] at h3; cases h3
        exact .inr ⟨z, h1, h2, by omega, (hk5.keep z (by omega)).trans ((hk4.keep z hz3).trans h3)⟩
    have wo5 : WO n H5 (.slice q out.length out.length) out := ⟨q, rfl, by rcases hq5 with h | ⟨z, h1, h2, _, h3⟩; exact .inl h; exact .inr ⟨z, h1, h2, h3⟩⟩
    have hra5 : RA (Value.int .i64) H5 q out := by
      obtain ⟨q', e, hrs⟩ := wo5.rs
      cases e
      exact hrs.ra
    unfold nextS at hsn
    cases hn : nx g xj with
    | none =>
      rw [hn] at hsn
      simp (config := {maxSteps:=999999}) only [SS, qx18, forall_const, vun, Int.reduceEq, Int.reduceNeg, Nat.reduceGT, Nat.reduceLT, Nat.reduceLeDiff, Nat.reduceEqDiff, ↓reduceIte, reduceCtorEq, Int.reduceToNat, Int.reduceLE, Int.reduceLT, Nat.reduceAdd, Nat.reduceMul, ff_23]
      repeat (first | refine qqn rfl ?_ | ((first | (refine WK.rgn ?_ ?_; kernel_rfl) | refine AtCall.now ?_); simp (config := {maxSteps:=999999}) only [SS, qx18, forall_const, vun, Int.reduceEq, Int.reduceNeg, Nat.reduceGT, Nat.reduceLT, Nat.reduceLeDiff, Nat.reduceEqDiff, ↓reduceIte, reduceCtorEq, Int.reduceToNat, Int.reduceLE, Int.reduceLT, Nat.reduceAdd, Nat.reduceMul, f0, hv3, f20, f21, f22, Option.isSome_none, hwj, ff_23]) | refine qqj rfl ?_ | refine qqk rfl ?_)
      refine ih (ps.length - (j + 1)) (by omega) _ ?_
      refine ⟨j + 1, kx5, f0, ?_, f20, f21, rfl, hlt, rfl⟩
      rw [hsn]
      simp only [fset_apply, Nat.reduceEqDiff, ↓reduceIte, hv3]
      exact wo5
    | some y0 =>
      rw [hn] at hsn
      simp only at hsn
      have hin : inI y0 := by
        unfold nx at hn
        rw [rgt_at hq1] at hn
        exact (st.sym _ (List.getElem_mem hq1) _ (List.mem_of_getElem? hn)).1
      have hnt := bnot_i64 hin.1 hin.2
      simp (config := {maxSteps:=999999}) only [SS, qx18, forall_const, vun, Int.reduceEq, Int.reduceNeg, Nat.reduceGT, Nat.reduceLT, Nat.reduceLeDiff, Nat.reduceEqDiff, ↓reduceIte, reduceCtorEq, Int.reduceToNat, Int.reduceLE, Int.reduceLT, Nat.reduceAdd, Nat.reduceMul, ff_23]
      repeat (first | refine qqn rfl ?_ | ((first | (refine WK.rgn ?_ ?_; kernel_rfl) | refine AtCall.now ?_); simp (config := {maxSteps:=999999}) only [SS, qx18, forall_const, vun, Int.reduceEq, Int.reduceNeg, Nat.reduceGT, Nat.reduceLT, Nat.reduceLeDiff, Nat.reduceEqDiff, ↓reduceIte, reduceCtorEq, Int.reduceToNat, Int.reduceLE, Int.reduceLT, Nat.reduceAdd, Nat.reduceMul, f0, hv3, f20, f21, f22, Option.isSome_some, Option.getD_some, ff_23]) | refine qqj rfl ?_ | refine qqk rfl ?_)
      refine AtCall.by (isVar_gives _ _ _) ?_
      rintro wq n6 H6 hk6 ⟨rfl, rfl, rfl⟩
      by_cases h0 : 0 ≤ y0
      · rw [if_neg (by omega)] at hsn
        simp (config := {maxSteps:=999999}) only [SS, qx18, forall_const, vun, Int.reduceEq, Int.reduceNeg, Nat.reduceGT, Nat.reduceLT, Nat.reduceLeDiff, Nat.reduceEqDiff, ↓reduceIte, reduceCtorEq, Int.reduceToNat, Int.reduceLE, Int.reduceLT, Nat.reduceAdd, Nat.reduceMul, h0, ff_23]
        repeat (first | refine qqn rfl ?_ | ((first | (refine WK.rgn ?_ ?_; kernel_rfl) | refine AtCall.now ?_); simp (config := {maxSteps:=999999}) only [SS, qx18, forall_const, vun, Int.reduceEq, Int.reduceNeg, Nat.reduceGT, Nat.reduceLT, Nat.reduceLeDiff, Nat.reduceEqDiff, ↓reduceIte, reduceCtorEq, Int.reduceToNat, Int.reduceLE, Int.reduceLT, Nat.reduceAdd, Nat.reduceMul, f0, hv3, f20, f21, f22, h0, hwj, ff_23]) | refine qqj rfl ?_ | refine qqk rfl ?_)
        refine ih (ps.length - (j + 1)) (by omega) _ ?_
        refine ⟨j + 1, kx5, f0, ?_, f20, f21, rfl, hlt, rfl⟩
        rw [hsn]
        simp only [fset_apply, Nat.reduceEqDiff, ↓reduceIte, hv3]
        exact wo5
      · simp (config := {maxSteps:=999999}) only [SS, qx18, forall_const, vun, Int.reduceEq, Int.reduceNeg, Nat.reduceGT, Nat.reduceLT, Nat.reduceLeDiff, Nat.reduceEqDiff, ↓reduceIte, reduceCtorEq, Int.reduceToNat, Int.reduceLE, Int.reduceLT, Nat.reduceAdd, Nat.reduceMul, h0, hnt, hv3, ff_23]
        refine AtCall.by (containsI_gives hra5 (by omega)) ?_
        rintro wq n7 H7 hk7 ⟨rfl, rfl, rfl⟩
        by_cases hm : (-y0 - 1) ∈ out
        · rw [if_neg (fun h => h.2 hm)] at hsn
          simp (config := {maxSteps:=999999}) only [SS, qx18, forall_const, vun, Int.reduceEq, Int.reduceNeg, Nat.reduceGT, Nat.reduceLT, Nat.reduceLeDiff, Nat.reduceEqDiff, ↓reduceIte, reduceCtorEq, Int.reduceToNat, Int.reduceLE, Int.reduceLT, Nat.reduceAdd, Nat.reduceMul, hm, ff_23]
          repeat (first | refine qqn rfl ?_ | ((first | (refine WK.rgn ?_ ?_; kernel_rfl) | refine AtCall.now ?_); simp (config := {maxSteps:=999999}) only [SS, qx18, forall_const, vun, Int.reduceEq, Int.reduceNeg, Nat.reduceGT, Nat.reduceLT, Nat.reduceLeDiff, Nat.reduceEqDiff, ↓reduceIte, reduceCtorEq, Int.reduceToNat, Int.reduceLE, Int.reduceLT, Nat.reduceAdd, Nat.reduceMul, f0, hv3, f20, f21, f22, hm, hwj, ff_23]) | refine qqj rfl ?_ | refine qqk rfl ?_)
          refine ih (ps.length - (j + 1)) (by omega) _ ?_
          refine ⟨j + 1, kx5, f0, ?_, f20, f21, rfl, hlt, rfl⟩
          rw [hsn]
          simp only [fset_apply, Nat.reduceEqDiff, ↓reduceIte, hv3]
          exact wo5
        · rw [if_pos ⟨by omega, hm⟩] at hsn
          have u1 : vcells (Value.int .i64 (-y0 - 1)) = [Value.int .i64 (-y0 - 1)] := rfl
          have u2 : ([Value.int .i64 (-y0 - 1)] : List Value).length = 1 := rfl
          have u3 : ([Value.int .i64 (-y0 - 1)] : List Value).all one = true := rfl
          have u4 : Go.AM.splice [Value.int IntKind.i64 (Int.ofNat 0)] 0 [Value.int .i64 (-y0 - 1)] = [Value.int .i64 (-y0 - 1)] := rfl
          have u5 : ([Value.int .i64 (-y0 - 1)] : List Value).take 1 = [Value.int .i64 (-y0 - 1)] := rfl
          have kA := Kp.new n7 H7 (.cells [.int .i64 (-y0 - 1)] 3 true)
          have bA := hset_at H7 n7 (.cells [.int .i64 (-y0 - 1)] 3 true)
          rcases hq5 with ⟨rfl, rfl⟩ | ⟨z, rfl, hz1, hz2, hz3⟩
          · generalize hA : hset H7 n7 (.cells [.int .i64 (-y0 - 1)] 3 true) = HA at *
            have kB := Kp.new (n7 + 1) HA (.cells [.int .i64 (-y0 - 1)] 3 true)
            have bB := hset_at HA (n7 + 1) (.cells [.int .i64 (-y0 - 1)] 3 true)
            simp (config := {maxSteps:=999999}) only [SS, qx18, forall_const, vun, Int.reduceEq, Int.reduceNeg, Nat.reduceGT, Nat.reduceLT, Nat.reduceLeDiff, Nat.reduceEqDiff, ↓reduceIte, reduceCtorEq, Int.reduceToNat, Int.reduceLE, Int.reduceLT, Nat.reduceAdd, Nat.reduceMul, hm, ff_23]
            repeat (first | refine qqn rfl ?_ | ((first | (refine WK.rgn ?_ ?_; kernel_rfl) | refine AtCall.now ?_); simp (config := {maxSteps:=999999}) only [SS, qx18, forall_const, vun, Int.reduceEq, Int.reduceNeg, Nat.reduceGT, Nat.reduceLT, Nat.reduceLeDiff, Nat.reduceEqDiff, ↓reduceIte, reduceCtorEq, Int.reduceToNat, Int.reduceLE, Int.reduceLT, Nat.reduceAdd, Nat.reduceMul, f0, hv3, f20, f21, f22, hm, hnt, hA, bA, u1, u2, u3, u4, u5, hwj, List.length_nil, List.drop_zero, ff_23]) | refine qqj rfl ?_ | refine qqk rfl ?_)
            refine ih (ps.length - (j + 1)) (by omega) _ ?_
            refine ⟨j + 1, (kx5.trans kA).trans kB, f0, ?_, f20, f21, rfl, hlt, rfl⟩
            rw [hsn]
            exact ⟨_, rfl, .inr ⟨n7 + 1, rfl, by omega, bB⟩⟩
          · have zA := (kA.keep z hz2).trans hz3
            generalize hA : hset H7 n7 (.cells [.int .i64 (-y0 - 1)] 3 true) = HA at *
            have kA' := (kx5.trans kA).set (x := z) .dead hz1 (by omega)
            generalize hA1 : hset HA z .dead = HA1 at *
            have kB := Kp.new (n7 + 1) HA1 (.cells (out.map (.int .i64) ++ [.int .i64 (-y0 - 1)]) 3 true)
            have bB := hset_at HA1 (n7 + 1) (.cells (out.map (.int .i64) ++ [.int .i64 (-y0 - 1)]) 3 true)
            have z1 : out.length + 1 ≤ bigN := by unfold bigN; omega
            have z2 : [n7].contains z = false := by simp; omega
            have z3 : (out.map (Value.int .i64)).take out.length = out.map (.int .i64) := List.take_of_length_le (by simp)
            simp (config := {maxSteps:=999999}) only [SS, qx18, forall_const, vun, Int.reduceEq, Int.reduceNeg, Nat.reduceGT, Nat.reduceLT, Nat.reduceLeDiff, Nat.reduceEqDiff, ↓reduceIte, reduceCtorEq, Int.reduceToNat, Int.reduceLE, Int.reduceLT, Nat.reduceAdd, Nat.reduceMul, hm, ff_23]
            repeat (first | refine qqn rfl ?_ | ((first | (refine WK.rgn ?_ ?_; kernel_rfl) | refine AtCall.now ?_); simp (config := {maxSteps:=999999}) only [SS, qx18, forall_const, vun, Int.reduceEq, Int.reduceNeg, Nat.reduceGT, Nat.reduceLT, Nat.reduceLeDiff, Nat.reduceEqDiff, ↓reduceIte, reduceCtorEq, Int.reduceToNat, Int.reduceLE, Int.reduceLT, Nat.reduceAdd, Nat.reduceMul, f0, hv3, f20, f21, f22, hm, hnt, hA, bA, u1, u2, u3, u4, u5, hwj, zA, z1, z2, z3, hA1, List.drop_zero, List.length_map, Nat.zero_add, Nat.mul_one, ff_23]) | refine qqj rfl ?_ | refine qqk rfl ?_)
            refine ih (ps.length - (j + 1)) (by omega) _ ?_
            refine ⟨j + 1, kA'.trans kB, f0, ?_, f20, f21, rfl, hlt, rfl⟩
            rw [hsn]
            exact ⟨_, by rw [List.length_append]; rfl, .inr ⟨n7 + 1, rfl, by omega, by rw [List.map_append]; exact bB⟩⟩
  · have hje : j = ps.length := by omega
    rw [hje, List.take_length] at f3 hclen
    generalize nextC g ps = out at *
    obtain ⟨q, hv3, hq⟩ := f3
    rcases hq with ⟨rfl, rfl⟩ | ⟨z, rfl, hz1, hz3⟩
    · repeat (first | refine qqn rfl ?_ | ((first | (refine WK.rgn ?_ ?_; kernel_rfl) | refine AtCall.now ?_); simp (config := {maxSteps:=999999}) only [SS, qx18, forall_const, vun, Int.reduceEq, Int.reduceNeg, Nat.reduceGT, Nat.reduceLT, Nat.reduceLeDiff, Nat.reduceEqDiff, ↓reduceIte, reduceCtorEq, Int.reduceToNat, Int.reduceLE, Int.reduceLT, Nat.reduceAdd, Nat.reduceMul, f0, hv3, f20, f21, f22, hlt, List.length_nil, ff_23]) | refine qqj rfl ?_ | refine qqk rfl ?_)
      refine AtCall.by (sort0_gives _ _) ?_
      rintro wq n6 H6 kx6 ⟨rfl, rfl⟩
      simp (config := {maxSteps:=999999}) only [SS, qx18, forall_const, vun, Int.reduceEq, Int.reduceNeg, Nat.reduceGT, Nat.reduceLT, Nat.reduceLeDiff, Nat.reduceEqDiff, ↓reduceIte, reduceCtorEq, Int.reduceToNat, Int.reduceLE, Int.reduceLT, Nat.reduceAdd, Nat.reduceMul, hv3, ff_23]
      repeat (first | refine qqn rfl ?_ | ((first | (refine WK.rgn ?_ ?_; kernel_rfl) | refine AtCall.now ?_); simp (config := {maxSteps:=999999}) only [SS, qx18, forall_const, vun, Int.reduceEq, Int.reduceNeg, Nat.reduceGT, Nat.reduceLT, Nat.reduceLeDiff, Nat.reduceEqDiff, ↓reduceIte, reduceCtorEq, Int.reduceToNat, Int.reduceLE, Int.reduceLT, Nat.reduceAdd, Nat.reduceMul, hv3, ff_23]) | refine qqj rfl ?_ | refine qqk rfl ?_)
      (first | refine WK.retNil ⟨Or.inr rfl, _, rfl, ?_, ?_⟩ | refine WK.skipNil ⟨Or.inl rfl, _, rfl, ?_, ?_⟩)
      · exact kx.keep
      · simp only [packed, fset_apply, Nat.reduceEqDiff, ↓reduceIte, List.getD_cons_zero, List.getD_cons_succ, hv3, ff_23]
        exact ⟨none, rfl, .inl ⟨rfl, rfl⟩⟩
    · repeat (first | refine qqn rfl ?_ | ((first | (refine WK.rgn ?_ ?_; kernel_rfl) | refine AtCall.now ?_); simp (config := {maxSteps:=999999}) only [SS, qx18, forall_const, vun, Int.reduceEq, Int.reduceNeg, Nat.reduceGT, Nat.reduceLT, Nat.reduceLeDiff, Nat.reduceEqDiff, ↓reduceIte, reduceCtorEq, Int.reduceToNat, Int.reduceLE, Int.reduceLT, Nat.reduceAdd, Nat.reduceMul, f0, hv3, f20, f21, f22, hlt, ff_23]) | refine qqj rfl ?_ | refine qqk rfl ?_)
      have hz2 : z < n3 := Classical.byContradiction fun hc => by rw [hw3 z (by omega)] at hz3; cases hz3
      refine AtCall.byX (sort_gives hz3 hz2 (by omega)) ?_
      rintro wq n6 H6 kx6 ⟨rfl, hne, l', hl', hp, hs⟩
      simp (config := {maxSteps:=999999}) only [SS, qx18, forall_const, vun, Int.reduceEq, Int.reduceNeg, Nat.reduceGT, Nat.reduceLT, Nat.reduceLeDiff, Nat.reduceEqDiff, ↓reduceIte, reduceCtorEq, Int.reduceToNat, Int.reduceLE, Int.reduceLT, Nat.reduceAdd, Nat.reduceMul, hv3, ff_23]
      repeat (first | refine qqn rfl ?_ | ((first | (refine WK.rgn ?_ ?_; kernel_rfl) | refine AtCall.now ?_); simp (config := {maxSteps:=999999}) only [SS, qx18, forall_const, vun, Int.reduceEq, Int.reduceNeg, Nat.reduceGT, Nat.reduceLT, Nat.reduceLeDiff, Nat.reduceEqDiff, ↓reduceIte, reduceCtorEq, Int.reduceToNat, Int.reduceLE, Int.reduceLT, Nat.reduceAdd, Nat.reduceMul, hv3, ff_23]) | refine qqj rfl ?_ | refine qqk rfl ?_)
      (first | refine WK.retNil ⟨Or.inr rfl, _, rfl, ?_, ?_⟩ | refine WK.skipNil ⟨Or.inl rfl, _, rfl, ?_, ?_⟩)
      · exact fun x hx => (hne x (by omega)).trans (kx.keep x hx)
      · simp only [packed, fset_apply, Nat.reduceEqDiff, ↓reduceIte, List.getD_cons_zero, List.getD_cons_succ, hv3, ff_23]
        have := sorted_eq (hp.trans (isort_perm out).symm) hs (isort_le out)
        rw [← this]
        exact ⟨_, by rw [hp.length_eq], .inr ⟨z, rfl, hz1, hl'⟩⟩
end Go.Proofs.Ytpdlmpbhohinpaa

namespace Go.Proofs.Ytpdlmpbhohinpaa
open Go.AM Go.RowKit
set_option maxRecDepth 100000
noncomputable section
theorem snocInd {α : Type} {P : List α → Prop} (h0 : P []) (h1 : ∀ l a, P l → P (l ++ [a])) : ∀ l, P l := by
  intro l
  suffices ∀ l : List α, P l.reverse by have := this l.reverse; rwa [List.reverse_reverse] at this
  intro l
  induction l with
  | nil => exact h0
  | cons a l ih => rw [List.reverse_cons]; exact h1 _ a ih
def runS (g : Gram) (w : List Int) : Option (List (List It)) := w.foldlM (pushS g (gdG g) (emG g)) (newS g (gdG g) (emG g))
theorem runS_snoc (g : Gram) (w : List Int) (t : Int) : runS g (w ++ [t]) = (runS g w).bind fun s => pushS g (gdG g) (emG g) s t := by
  unfold runS
  rw [List.foldlM_append]
  cases List.foldlM (pushS g (gdG g) (emG g)) (newS g (gdG g) (emG g)) w with
  | none => rfl
  | some s => simp [List.foldlM]
theorem runS_ok {g : Gram} : ∀ (w : List Int) (sets : List (List It)), runS g w = some sets → okS g sets ∧ sets.length = w.length + 1 := by
  refine snocInd ?_ ?_
  · intro sets h; cases h; exact ⟨okS.new, rfl⟩
  · intro w t ih sets h
    rw [runS_snoc] at h
    cases hr : runS g w with
    | none => rw [hr] at h; cases h
    | some s =>
      rw [hr] at h
      obtain ⟨h1, h2⟩ := ih s hr
      exact ⟨h1.push h, by rw [pushS_len h, h2]; simp⟩
theorem pushS_drop {g : Gram} {gd em : List Bool} {s s' : List (List It)} {t : Int} (h : pushS g gd em s t = some s') : s'.dropLast = s := by
  unfold pushS at h
  split at h
  · cases h
  · cases h; simp
theorem runS_drop {g : Gram} {w : List Int} {sets : List (List It)} (h : runS g w = some sets) (h0 : w ≠ []) : runS g w.dropLast = some sets.dropLast := by
  obtain ⟨w', t, rfl⟩ : ∃ w' t, w = w' ++ [t] := ⟨_, _, (List.dropLast_concat_getLast h0).symm⟩
  rw [List.dropLast_concat]
  rw [runS_snoc] at h
  cases hr : runS g w' with
  | none => rw [hr] at h; cases h
  | some s => rw [hr] at h; rw [pushS_drop h]
def accR (g : Gram) (w : List Int) : Bool := accB g ((runS g w).getD [])
def nextR (g : Gram) (w : List Int) : List Int := nextL g ((runS g w).getD [])
def shortR (g : Gram) (c : Nat → Nat) (w : List Int) : Nat := shortL g c ((runS g w).getD [])
structure Ch (S : Heap) (N o : Nat) (pt pv pr pg pe pc : Option Addr) (g : Gram) (co : List Nat) : Prop where
  st : Stat S N pr pg pe pc g (gdG g) (emG g) co
  so : S o = .dead
  oN : o < N
  cost : ∃ b, CostOK g (cF co) b
  ro : RRO S pr g.rules
  ok : RightOK g
  few : few g = true
section
variable {S : Heap} {N o : Nat} {pt pv pr pg pe pc : Option Addr} {g : Gram} {co : List Nat}
theorem Ch.cap (h : Ch S N o pt pv pr pg pe pc g co) : ∀ k ∈ co, k ≤ farN := by
  intro k hk
  obtain ⟨b, hb⟩ := h.cost
  obtain ⟨i, hi, rfl⟩ := List.getElem_of_mem hk
  have := hb.cap i (by have := h.st.coL; omega)
  simpa [cF, hi] using this
theorem Ch.hts (h : Ch S N o pt pv pr pg pe pc g co) : ∀ r ∈ g.rules, ∀ s ∈ r.right, -s - 1 < (g.terms.length : Int) := by
  intro r hr s hs
  rcases Int.lt_or_le s 0 with h0 | h0
  · exact h.ok.inG.rightT r hr s hs h0
  · omega
theorem Ch.htl (h : Ch S N o pt pv pr pg pe pc g co) : g.terms.length ≤ 6 := by
  have := h.few
  simp [Go.Proofs.Ytpdlmpbhohinpaa.few] at this
  omega
def CW (Z : Nat → Prop) (n : Nat) (H : Heap) (S : Heap) (N o : Nat) (pt pv pr pg pe pc : Option Addr) (g : Gram) (co : List Nat) (w : List Int) : Prop :=
  WF n H ∧ Sub S H ∧ N ≤ n ∧ ∃ y x sets, CHR H N o y x pt pv pr pg pe pc g (gdG g) (emG g) co sets w ∧ y < n ∧ x < n ∧ (∀ z, Z z → z ≠ o ∧ z ≠ y ∧ z ≠ x) ∧ runS g w = some sets
theorem CHR.norm {H : Heap} {n y x : Nat} {gd em : List Bool} {sets : List (List It)} {w : List Int} (hw : WF n H) (hc : CHR H N o y x pt pv pr pg pe pc g gd em co sets w) : o < n ∧ y < n ∧ ∃ x', x' < n ∧ (x' = x ∨ x' = o) ∧ CHR H N o y x' pt pv pr pg pe pc g gd em co sets w := by
  have low : ∀ {z cs ty own}, H z = .cells cs ty own → z < n := fun {z cs ty own} e => Classical.byContradiction fun hc => by rw [hw z (by omega)] at e; cases e
  obtain ⟨c, wv, cs, h1, h2, h3, h4, h5, h6⟩ := hc
  refine ⟨low h1, low h3, ?_⟩
  rcases h6 with ⟨rfl, rfl⟩ | ⟨cw, cx, rfl, a1, a2, a3, a4⟩
  · exact ⟨o, low h1, .inr rfl, c, _, cs, h1, h2, h3, h4, h5, .inl ⟨rfl, rfl⟩⟩
  · exact ⟨x, low a2, .inl rfl, c, _, cs, h1, h2, h3, h4, h5, .inr ⟨cw, cx, rfl, a1, a2, a3, a4⟩⟩
theorem CW.some {Z : Nat → Prop} {n : Nat} {H : Heap} {w : List Int} (h : CW Z n H S N o pt pv pr pg pe pc g co w) : (runS g w).isSome = true := by
  obtain ⟨_, _, _, y, x, sets, _, _, _, _, h⟩ := h
  rw [h]; rfl
theorem CW.mono {Z Z' : Nat → Prop} {n : Nat} {H : Heap} {w : List Int} (h : CW Z n H S N o pt pv pr pg pe pc g co w) (hz : ∀ z, Z' z → Z z) : CW Z' n H S N o pt pv pr pg pe pc g co w := by
  obtain ⟨hw, h1, h2, y, x, sets, h3, h4, h5, h6, h7⟩ := h
  exact ⟨hw, h1, h2, y, x, sets, h3, h4, h5, fun z hz' => h6 z (hz z hz'), h7⟩
theorem CW.kp {Z : Nat → Prop} {n n' : Nat} {H H' : Heap} {w : List Int} (h : CW Z n H S N o pt pv pr pg pe pc g co w) (k : Kp n H n' H') : CW Z n' H' S N o pt pv pr pg pe pc g co w := by
  obtain ⟨hw, h1, h2, y, x, sets, h3, h4, h5, h6, h7⟩ := h
  exact ⟨k.wf hw, h1.kp hw k, Nat.le_trans h2 k.le, y, x, sets, h3.kp hw k, Nat.lt_of_lt_of_le h4 k.le, Nat.lt_of_lt_of_le h5 k.le, h6, h7⟩
theorem CW.kpz {Z Z' : Nat → Prop} {n n' : Nat} {H H' : Heap} {w : List Int} (h : CW Z n H S N o pt pv pr pg pe pc g co w) (k : Kp n H n' H') (hz : ∀ z, Z' z → Z z ∨ n ≤ z) : CW Z' n' H' S N o pt pv pr pg pe pc g co w := by
  obtain ⟨hw, h1, h2, y, x, sets, h3, h4, h5, h6, h7⟩ := h
  have hon := (h3.norm hw).1
  refine ⟨k.wf hw, h1.kp hw k, Nat.le_trans h2 k.le, y, x, sets, h3.kp hw k, Nat.lt_of_lt_of_le h4 k.le, Nat.lt_of_lt_of_le h5 k.le, fun z hz' => ?_, h7⟩
  rcases hz z hz' with h | h
  · exact h6 z h
  · omega
def ZK (Z : Nat → Prop) (H H' : Heap) : Prop := RK H H' ∧ ∀ z cs ty own, Z z → H z = .cells cs ty own → H' z = .cells cs ty own
theorem RC.zk {P Z : Nat → Prop} {H H' : Heap} (h : RC P H H') (hz : ∀ z, Z z → ¬ P z) : ZK Z H H' := ⟨h.1, fun z cs ty own hZ e => h.2 z cs ty own (hz z hZ) e⟩
theorem ZK.trans {Z : Nat → Prop} {H H1 H2 : Heap} (a : ZK Z H H1) (b : ZK Z H1 H2) : ZK Z H H2 := ⟨a.1.trans b.1, fun z cs ty own hz e => b.2 z cs ty own hz (a.2 z cs ty own hz e)⟩
theorem ZK.kp {Z : Nat → Prop} {n n' : Nat} {H H' : Heap} (k : Kp n H n' H') (hw : WF n H) : ZK Z H H' := (rc_kp (P := fun _ => False) k hw).zk fun _ _ h => h
theorem CW.other {Z : Nat → Prop} {X : Nat → Prop} {n n' : Nat} {H H' : Heap} {w : List Int} (h : CW Z n H S N o pt pv pr pg pe pc g co w) (hS : Ch S N o pt pv pr pg pe pc g co) (kx : Kx X n H n' H') (hX : ∀ z, X z → N ≤ z) :
    ∃ Z2 : Nat → Prop, (∀ z, Z2 z → z < n ∧ (z = o ∨ N ≤ z) ∧ ¬ Z z) ∧ (ZK Z2 H H' → CW Z n' H' S N o pt pv pr pg pe pc g co w) := by
  obtain ⟨hw, h1, h2, y, x, sets, h3, h4, h5, h6, h7⟩ := h
  have hon := (h3.norm hw).1
  obtain ⟨c, wv, cs, a1, a2, a3, a4, a5, a6⟩ := h3
  refine ⟨fun z => z = o ∨ z = y ∨ (z = x ∧ N ≤ x), ?_, fun zk => ?_⟩
  · rintro z (rfl | rfl | ⟨rfl, hx⟩)
    · exact ⟨hon, .inl rfl, fun hz => (h6 _ hz).1 rfl⟩
    · exact ⟨h4, .inr a2, fun hz => (h6 _ hz).2.1 rfl⟩
    · exact ⟨h5, .inr hx, fun hz => (h6 _ hz).2.2 rfl⟩
  · refine ⟨kx.wf hw, h1.kx hS.st.wf (kx.mono fun z _ h => hX z h) h2, Nat.le_trans h2 kx.le, y, x, sets, ⟨c, wv, cs, zk.2 _ _ _ _ (.inl rfl) a1, a2, zk.2 _ _ _ _ (.inr (.inl rfl)) a3, a4, a5.rk (⟨zk.1, fun _ _ _ _ h => absurd trivial h⟩ : RC (fun _ => True) H H'), ?_⟩, Nat.lt_of_lt_of_le h4 kx.le, Nat.lt_of_lt_of_le h5 kx.le, h6, h7⟩
    rcases a6 with a6 | ⟨cw, cx, e, b1, b2, b3, b4⟩
    · exact .inl a6
    · exact .inr ⟨cw, cx, e, b1, zk.2 _ _ _ _ (.inr (.inr ⟨rfl, b1⟩)) b2, b3, b4⟩
theorem push_cw {Z : Nat → Prop} {n : Nat} {H : Heap} {w : List Int} {t : Int} (K : Ch S N o pt pv pr pg pe pc g co) (h : CW Z n H S N o pt pv pr pg pe pc g co w) (hwl : w.length ≤ 3998) (ht : inI t) (hZ : ∀ z, Z z → z < n) :
    GivesX Try.prog (fun z => z = o ∨ N ≤ z) 12 [.pointer (some ⟨o, 0, none⟩), .int .i64 t] n H fun v n' H' => v = .bool (runS g (w ++ [t])).isSome ∧ ZK Z H H' ∧ CW Z n' H' S N o pt pv pr pg pe pc g co (if (runS g (w ++ [t])).isSome then w ++ [t] else w) := by
  obtain ⟨hw, h1, h2, y, x, sets, h3, h4, h5, h6, h7⟩ := h
  obtain ⟨hk, hl⟩ := runS_ok w sets h7
  obtain ⟨v, n', H', hb, kx, hv, rc, y', x', hc, hy', hx'⟩ := push_gives (t := t) K.st K.so hw h1 h2 K.oN h3 hk (by omega) (by omega) ht
  have hw' := kx.wf hw
  have hs : runS g (w ++ [t]) = pushS g (gdG g) (emG g) sets t := by rw [runS_snoc, h7]; rfl
  have hS' := sub_kxo h1 K.st.wf K.so kx h2
  obtain ⟨_, hyn, x2, hx2, hx3, hc2⟩ := hc.norm hw'
  refine ⟨v, n', H', hb, kx, by rw [hs]; exact hv, rc.zk fun z hz => by have := h6 z hz; omega, hw', hS', Nat.le_trans h2 kx.le, y', x2, (pushS g (gdG g) (emG g) sets t).getD sets, by rw [hs]; exact hc2, hyn, hx2, fun z hz => ?_, ?_⟩
  · have a := h6 z hz
    have b := hZ z hz
    omega
  · rw [hs]
    cases hp : pushS g (gdG g) (emG g) sets t with
    | none => simpa using h7
    | some s' => simp only [Option.isSome_some, if_true, Option.getD_some]; rw [hs, hp]
theorem pop_cw {Z : Nat → Prop} {n : Nat} {H : Heap} {w : List Int} (K : Ch S N o pt pv pr pg pe pc g co) (h : CW Z n H S N o pt pv pr pg pe pc g co w) (hwl : w.length ≤ 3998) :
    GivesX Try.prog (fun z => z = o ∨ N ≤ z) 26 [.pointer (some ⟨o, 0, none⟩)] n H fun v n' H' => v = .bool (decide (w ≠ [])) ∧ ZK Z H H' ∧ CW Z n' H' S N o pt pv pr pg pe pc g co w.dropLast := by
  obtain ⟨hw, h1, h2, y, x, sets, h3, h4, h5, h6, h7⟩ := h
  obtain ⟨hk, hl⟩ := runS_ok w sets h7
  obtain ⟨v, n', H', hb, kx, hv, rc, hc⟩ := pop_gives K.st K.so hw h1 h2 K.oN h3 (by omega) hl
  refine ⟨v, n', H', hb, kx, hv, rc.zk fun z hz => by have := h6 z hz; omega, kx.wf hw, sub_kxo h1 K.st.wf K.so kx h2, Nat.le_trans h2 kx.le, y, x, _, hc, Nat.lt_of_lt_of_le h4 kx.le, Nat.lt_of_lt_of_le h5 kx.le, h6, ?_⟩
  by_cases h0 : w = []
  · subst h0; simpa using h7
  · rw [if_neg h0]; exact runS_drop h7 h0
theorem acc_cw {Z : Nat → Prop} {n : Nat} {H : Heap} {w : List Int} (K : Ch S N o pt pv pr pg pe pc g co) (h : CW Z n H S N o pt pv pr pg pe pc g co w) (hwl : w.length ≤ 3998) :
    Gives Try.prog 19 [.pointer (some ⟨o, 0, none⟩)] n H fun v _ _ => v = .bool (accR g w) := by
  obtain ⟨hw, h1, h2, y, x, sets, h3, h4, h5, h6, h7⟩ := h
  obtain ⟨hk, hl⟩ := runS_ok w sets h7
  unfold accR; rw [h7, Option.getD_some]
  exact accm_gives K.st hw h1 h3 hk (by omega)
theorem next_cw {Z : Nat → Prop} {n : Nat} {H : Heap} {w : List Int} (K : Ch S N o pt pv pr pg pe pc g co) (h : CW Z n H S N o pt pv pr pg pe pc g co w) (hwl : w.length ≤ 3998) :
    Gives Try.prog 23 [.pointer (some ⟨o, 0, none⟩)] n H fun v _ H' => WO n H' v (nextR g w) := by
  obtain ⟨hw, h1, h2, y, x, sets, h3, h4, h5, h6, h7⟩ := h
  obtain ⟨hk, hl⟩ := runS_ok w sets h7
  unfold nextR; rw [h7, Option.getD_some]
  exact nextm_gives K.st hw h1 h3 hk (by omega) K.hts K.htl
theorem short_cw {Z : Nat → Prop} {n : Nat} {H : Heap} {w : List Int} (K : Ch S N o pt pv pr pg pe pc g co) (h : CW Z n H S N o pt pv pr pg pe pc g co w) (hwl : w.length ≤ 3998) :
    Gives Try.prog 22 [.pointer (some ⟨o, 0, none⟩)] n H fun v _ _ => v = .int .i64 (shortR g (cF co) w : Nat) := by
  obtain ⟨hw, h1, h2, y, x, sets, h3, h4, h5, h6, h7⟩ := h
  obtain ⟨hk, hl⟩ := runS_ok w sets h7
  unfold shortR; rw [h7, Option.getD_some]
  exact shortm_gives K.st K.ro hw h1 h3 hk (by omega) K.cap
theorem word_cw {Z : Nat → Prop} {n : Nat} {H : Heap} {w : List Int} (h : CW Z n H S N o pt pv pr pg pe pc g co w) (hwl : w.length ≤ 3998) :
    Gives Try.prog 15 [.pointer (some ⟨o, 0, none⟩)] n H fun v _ H' => WO n H' v w := by
  obtain ⟨hw, h1, h2, y, x, sets, h3, h4, h5, h6, h7⟩ := h
  exact word_gives hw (by omega) h3
theorem len_cw {Z : Nat → Prop} {n : Nat} {H : Heap} {w : List Int} (h : CW Z n H S N o pt pv pr pg pe pc g co w) :
    Gives Try.prog 13 [.pointer (some ⟨o, 0, none⟩)] n H fun v _ _ => v = .int .i64 (w.length : Nat) := by
  obtain ⟨hw, h1, h2, y, x, sets, h3, h4, h5, h6, h7⟩ := h
  exact len_gives' h3
end
theorem new_cw {g : Gram} {n : Nat} {H H0 : Heap} {pt pv pr : Option Addr} (hw : WF n H) (hg : RG H (.agg (gcells pt pv pr g).toArray) g) (wg : WG g) (ok : RightOK g) (hf : few g = true) (hro : RRO H pr g.rules) :
    Gives Try.prog 11 [.agg (gcells pt pv pr g).toArray] n H fun r n' H' => ∃ (S : Heap) (N o : Nat) (pt pv pr pg pe pc : Option Addr) (co : List Nat), r = .pointer (some ⟨o, 0, none⟩) ∧ Ch S N o pt pv pr pg pe pc g co ∧ n ≤ o ∧ CW (fun z => z < n) n' H' S N o pt pv pr pg pe pc g co [] := by
  obtain ⟨v, n', H', hb, k, S, N, o, y, x, pt', pv', pr', pg, pe, pc, co, hr, st, hso, hS2, hN2, hoN, hno, hny, hnx, hc, hco, hHS, hv⟩ := new_gives hw hg wg ok hf
  have hpr : pr' = pr := by
    have h1 := congrArg (fun v => match v with | Value.agg xs => xs.toList | _ => []) hv
    simp only at h1
    have h2 := congrArg (fun l : List Value => l[2]?) h1
    simp [gcells] at h2
    exact h2.symm
  subst hpr
  obtain ⟨h1, h2, x2, h3, h4, h5⟩ := hc.norm (k.wf hw)
  exact ⟨v, n', H', hb, k, S, N, o, pt', pv', pr', pg, pe, pc, co, hr, ⟨st, hso, hoN, hco, hro.sub hHS, ok, hf⟩, hno, k.wf hw, hS2, hN2, y, x2, _, h5, h2, h3, fun z hz => by omega, rfl⟩
end
end Go.Proofs.Ytpdlmpbhohinpaa
