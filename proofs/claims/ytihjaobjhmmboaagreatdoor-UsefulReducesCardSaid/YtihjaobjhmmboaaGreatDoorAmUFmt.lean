/- A part of a proof. Its conditions: none. -/
import Derived.Test.YtihjaobjhmmboaaGreatDoorAmUSetD
set_option linter.all false
namespace Go.Proofs.YtihjaobjhmmboaaGreatDoor
open Go.AM
set_option maxRecDepth 100000
abbrev bv (b : Nat) : Value := .int .u8 (b : Int)
def OB (y0 n : Nat) (H : Heap) (s : St) (out : List Nat) : Prop :=
 ∃ y, (y = y0 ∨ n ≤ y) ∧ y < s.n ∧ s.H y = .cells (out.map bv) 5 true ∧ s.f 0 = .slice (some ⟨y, 0, none⟩) out.length out.length ∧ Kx (fun z => z = y0) n H s.n s.H
theorem OB.step {y0 n n2 y : Nat} {H H2 : Heap} {out : List Nat} {b : Nat} {f : Fr} {o1 : AObj} (hy : y = y0 ∨ n ≤ y) (hyn : y < n2) (kx : Kx (fun z => z = y0) n H n2 H2)
  (hf : f 0 = .slice (some ⟨n2 + 1, 0, none⟩) (out.length + 1) (out.length + 1)) : OB y0 n H ⟨f, n2 + 1 + 1, hset (hset (hset H2 n2 o1) y .dead) (n2 + 1) (.cells (out.map bv ++ [.int .u8 (b : Int)]) 5 true)⟩ (out ++ [b]) := by
 refine ⟨n2 + 1, .inr (by have := kx.le; omega), Nat.lt_succ_self _, ?_, ?_, ((kx.trans (Kp.new n2 H2 _).kx).set _ hy (by omega)).trans (Kp.new (n2 + 1) _ _).kx⟩
 ·show hset _ _ _ _ = _
  rw [hset_at, List.map_append]; rfl
 ·rw [List.length_append]; exact hf
theorem one_fact {n2 y : Nat} {H2 : Heap} {ds : List Value} {ty : TypeId} (hyn : y < n2) (hx : H2 y = .cells ds ty true) : (∀ o, hset H2 n2 o y = .cells ds ty true) ∧ [n2].contains y = false := by
 refine ⟨fun o => (hset_ne _ _ _ (by omega)).trans hx, ?_⟩
 simp; omega
def intS (dg : Nat → Nat) (nd : Nat) (dp : Int) : List Nat := if 0 < dp then (List.range (min nd dp.toNat)).map dg ++ List.replicate (dp.toNat - min nd dp.toNat) 48 else [48]
def fracS (dg : Nat → Nat) (nd : Nat) (dp : Int) : List Nat := 46 :: (List.replicate (-dp).toNat 48 ++ (List.range (nd - dp.toNat)).map fun q => dg (dp.toNat + q))
def fmtS (neg : Bool) (dg : Nat → Nat) (nd : Nat) (dp prec : Int) : List Nat := (if neg then [45] else []) ++ intS dg nd dp ++ (if 0 < prec then fracS dg nd dp else [])
theorem WK.cutBlock {P : Program} {id : Nat} {c : Code} {K : List Fk} {s : St} {Q : AExit → St → Prop} (R : St → Prop) (h1 : WK P c [.block id] s fun e s1 => e = .normal ∧ R s1) (h2 : ∀ s1, R s1 → WK P .skip K s1 Q) : WK P c (.block id :: K) s Q :=
 ⟨(WK.cut (c := .block id c) R (WK.block h1) h2).run⟩
set_option maxHeartbeats 32000000 in
theorem fmt_gives {x y0 Ls nd : Nat} {neg : Bool} {dg : Nat → Nat} {dp prec : Int} {sv : Value} {cs : List Value} {tyb : TypeId} {n : Nat} {H : Heap} (hy0 : H y0 = .cells [] 5 true) (hyn : y0 < n)
    (hsv : 0 < dp ∨ 0 < prec → sv = .slice (some ⟨x, 0, some 0⟩) Ls Ls ∧ H x = .cells cs tyb true ∧ (∀ q, q < nd → cs[q]? = some (.int .u8 (dg q : Int))) ∧ nd ≤ Ls ∧ x ≠ y0 ∧ x < n)
    (hnd : nd ≤ 100) (hdp : -400 ≤ dp ∧ dp ≤ 400) (hprec : prec ≤ 0 ∨ prec = (nd : Int) - dp) (hpr : -10 ≤ prec) (b7 : Bool) :
    GivesX Tryz.prog (fun z => z = y0) 121 [.slice (some ⟨y0, 0, none⟩) 0 0, .bool neg, sv, .int .i64 dp, .int .i64 (nd : Int), .int .i64 prec, .int .u8 102, .bool b7] n H fun v n' H' =>
      ∃ y, v = .slice (some ⟨y, 0, none⟩) (fmtS neg dg nd dp prec).length (fmtS neg dg nd dp prec).length ∧ H' y = .cells ((fmtS neg dg nd dp prec).map bv) 5 true := by
  refine GivesX.of orders ok121 (Nat.le_of_ble_eq_true rfl) ?_
  have start : ∃ sg : List Nat, sg = (if neg then [45] else []) ∧ sg.length ≤ 1 := ⟨_, rfl, by cases neg <;> simp⟩
  obtain ⟨sg, hsg, hsgl⟩ := start
  have hbg : ∀ m : Nat, m ≤ 2000 → m + 1 ≤ bigN := fun m hm => by unfold bigN; omega
  have c0 := one_fact hyn hy0
  repeat (first | apply WK.seq | apply WK.block | apply WK.skipSeq | apply WK.skipBlock | apply WK.retSeq | apply WK.retBlock | apply WK.exitSeq | apply WK.exitHere | refine WK.exitOn rfl ?_ | ((first | (refine WK.rgn ?_ ?_; kernel_rfl) | refine AtCall.now ?_); simp (config := { maxSteps := 1000000 }) only [SS, qx17, forall_const, vconv, vun, tap, tap2, tap3, tap4, tsrc, tsrc2, Int.reduceEq, Int.reduceNeg, Nat.reduceGT, Nat.reduceLT, Nat.reduceLeDiff, Nat.reduceEqDiff, ↓reduceIte, reduceCtorEq, Int.reduceToNat, Int.reduceLE, Int.reduceLT, Nat.reduceAdd, Nat.reduceMul, ff_121]) | (refine WK.condT ?_ ?_; focus (simp only [ev_tmp, ev_const, fset_apply, Nat.reduceEqDiff, ↓reduceIte, decide_true, decide_false, ff_121]; done)) | (refine WK.condF ?_ ?_; focus (simp only [ev_tmp, ev_const, fset_apply, Nat.reduceEqDiff, ↓reduceIte, decide_true, decide_false, ff_121]; done)))
  refine WK.cut (fun s => OB y0 n H s (sg) ∧ s.f 2 = sv ∧ s.f 3 = .int .i64 dp ∧ s.f 4 = .int .i64 (nd : Int) ∧ s.f 5 = .int .i64 prec) ?_ ?_
  · cases neg
    · repeat (first | apply WK.seq | apply WK.block | apply WK.skipSeq | apply WK.skipBlock | apply WK.retSeq | apply WK.retBlock | apply WK.exitSeq | apply WK.exitHere | refine WK.exitOn rfl ?_ | ((first | (refine WK.rgn ?_ ?_; kernel_rfl) | refine AtCall.now ?_); simp (config := { maxSteps := 1000000 }) only [SS, qx17, forall_const, vconv, vun, tap, tap2, tap3, tap4, tsrc, tsrc2, Int.reduceEq, Int.reduceNeg, Nat.reduceGT, Nat.reduceLT, Nat.reduceLeDiff, Nat.reduceEqDiff, ↓reduceIte, reduceCtorEq, Int.reduceToNat, Int.reduceLE, Int.reduceLT, Nat.reduceAdd, Nat.reduceMul, ff_121]) | (refine WK.condT ?_ ?_; focus (simp only [ev_tmp, ev_const, fset_apply, Nat.reduceEqDiff, ↓reduceIte, decide_true, decide_false, ff_121]; done)) | (refine WK.condF ?_ ?_; focus (simp only [ev_tmp, ev_const, fset_apply, Nat.reduceEqDiff, ↓reduceIte, decide_true, decide_false, ff_121]; done)))
      rw [hsg]
      exact WK.skipNil ⟨rfl, ⟨y0, .inl rfl, hyn, hy0, rfl, Kx.refl _ _ _⟩, rfl, rfl, rfl, rfl⟩
    · repeat (first | apply WK.seq | apply WK.block | apply WK.skipSeq | apply WK.skipBlock | apply WK.retSeq | apply WK.retBlock | apply WK.exitSeq | apply WK.exitHere | refine WK.exitOn rfl ?_ | ((first | (refine WK.rgn ?_ ?_; kernel_rfl) | refine AtCall.now ?_); simp (config := { maxSteps := 1000000 }) only [SS, qx17, forall_const, vconv, vun, tap, tap2, tap3, tap4, tsrc, tsrc2, Int.reduceEq, Int.reduceNeg, Nat.reduceGT, Nat.reduceLT, Nat.reduceLeDiff, Nat.reduceEqDiff, ↓reduceIte, reduceCtorEq, Int.reduceToNat, Int.reduceLE, Int.reduceLT, Nat.reduceAdd, Nat.reduceMul, c0.1, c0.2, List.take_nil, List.drop_nil, List.nil_append, hbg, Nat.zero_le, ff_121]) | (refine WK.condT ?_ ?_; focus (simp only [ev_tmp, ev_const, fset_apply, Nat.reduceEqDiff, ↓reduceIte, decide_true, decide_false, c0.1, c0.2, List.take_nil, List.drop_nil, List.nil_append, hbg, Nat.zero_le, ff_121]; done)) | (refine WK.condF ?_ ?_; focus (simp only [ev_tmp, ev_const, fset_apply, Nat.reduceEqDiff, ↓reduceIte, decide_true, decide_false, c0.1, c0.2, List.take_nil, List.drop_nil, List.nil_append, hbg, Nat.zero_le, ff_121]; done)))
      rw [hsg]
      exact WK.skipNil ⟨rfl, OB.step (out := []) (.inl rfl) hyn (Kx.refl _ _ _) rfl, rfl, rfl, rfl, rfl⟩
  rintro ⟨f, n2, H2⟩ ⟨⟨y, hyy, hyn2, hy, f0, kx⟩, f2, f3, f4, f5⟩
  simp only at hyn2 hy f0 kx f2 f3 f4 f5
  repeat (first | apply WK.seq | apply WK.block | apply WK.skipSeq | apply WK.skipBlock | apply WK.retSeq | apply WK.retBlock | apply WK.exitSeq | apply WK.exitHere | refine WK.exitOn rfl ?_ | ((first | (refine WK.rgn ?_ ?_; kernel_rfl) | refine AtCall.now ?_); simp (config := { maxSteps := 1000000 }) only [SS, qx17, forall_const, vconv, vun, tap, tap2, tap3, tap4, tsrc, tsrc2, Int.reduceEq, Int.reduceNeg, Nat.reduceGT, Nat.reduceLT, Nat.reduceLeDiff, Nat.reduceEqDiff, ↓reduceIte, reduceCtorEq, Int.reduceToNat, Int.reduceLE, Int.reduceLT, Nat.reduceAdd, Nat.reduceMul, f3, ff_121]) | (refine WK.condT ?_ ?_; focus (simp only [ev_tmp, ev_const, fset_apply, Nat.reduceEqDiff, ↓reduceIte, decide_true, decide_false, f3, ff_121]; done)) | (refine WK.condF ?_ ?_; focus (simp only [ev_tmp, ev_const, fset_apply, Nat.reduceEqDiff, ↓reduceIte, decide_true, decide_false, f3, ff_121]; done)))
  refine WK.cut (fun s => OB y0 n H s (sg ++ intS dg nd dp) ∧ s.f 2 = sv ∧ s.f 3 = .int .i64 dp ∧ s.f 4 = .int .i64 (nd : Int) ∧ s.f 5 = .int .i64 prec) ?_ ?_
  · by_cases hdp0 : 0 < dp
    · obtain ⟨hsv1, hx, hget, hndL, hxy, hxn⟩ := hsv (.inl hdp0)
      obtain ⟨D, hD⟩ : ∃ D : Nat, dp = (D : Int) := ⟨dp.toNat, by omega⟩
      obtain ⟨m, hm⟩ : ∃ m, min nd D = m := ⟨_, rfl⟩
      have hmin : (if dp < (nd : Int) then dp else (nd : Int)) = (m : Int) := by split <;> omega
      have hm0 : (0 : Int) ≤ (m : Int) := by omega
      have hmL : m ≤ Ls := by omega
      have hwm : IntKind.i64.wrap (dp - (m : Int)) = ((D - m : Nat) : Int) := by rw [wrap_in (by omega) (by omega)]; omega
      have f2' := f2.trans hsv1
      have hint : intS dg nd dp = (List.range m).map dg ++ List.replicate (D - m) 48 := by unfold intS; rw [if_pos hdp0, hD, Int.toNat_natCast, hm]
      repeat (first | apply WK.seq | apply WK.block | apply WK.skipSeq | apply WK.skipBlock | apply WK.retSeq | apply WK.retBlock | apply WK.exitSeq | apply WK.exitHere | refine WK.exitOn rfl ?_ | ((first | (refine WK.rgn ?_ ?_; kernel_rfl) | refine AtCall.now ?_); simp (config := { maxSteps := 1000000 }) only [SS, qx17, forall_const, vconv, vun, tap, tap2, tap3, tap4, tsrc, tsrc2, Int.reduceEq, Int.reduceNeg, Nat.reduceGT, Nat.reduceLT, Nat.reduceLeDiff, Nat.reduceEqDiff, ↓reduceIte, reduceCtorEq, Int.reduceToNat, Int.reduceLE, Int.reduceLT, Nat.reduceAdd, Nat.reduceMul, f2', f3, f4, hdp0, aop_min, tmm, Bool.false_eq_true, hmin, hm0, hmL, Nat.zero_le, Nat.sub_zero, Int.toNat_natCast, ff_121]) | (refine WK.condT ?_ ?_; focus (simp only [ev_tmp, ev_const, fset_apply, Nat.reduceEqDiff, ↓reduceIte, decide_true, decide_false, f2', f3, f4, hdp0, aop_min, tmm, Bool.false_eq_true, hmin, hm0, hmL, Nat.zero_le, Nat.sub_zero, Int.toNat_natCast, ff_121]; done)) | (refine WK.condF ?_ ?_; focus (simp only [ev_tmp, ev_const, fset_apply, Nat.reduceEqDiff, ↓reduceIte, decide_true, decide_false, f2', f3, f4, hdp0, aop_min, tmm, Bool.false_eq_true, hmin, hm0, hmL, Nat.zero_le, Nat.sub_zero, Int.toNat_natCast, ff_121]; done)))
      refine WK.cutBlock (fun s => OB y0 n H s (sg ++ (List.range (m)).map dg) ∧ s.f 2 = sv ∧ s.f 3 = .int .i64 dp ∧ s.f 4 = .int .i64 (nd : Int) ∧ s.f 5 = .int .i64 prec ∧ s.f 23 = .int .i64 (m : Int)) ?_ ?_
      · refine WK.loop (fun kk s => ∃ i : Nat, OB y0 n H s (sg ++ (List.range i).map dg) ∧ s.f 2 = sv ∧ s.f 3 = .int .i64 dp ∧ s.f 4 = .int .i64 (nd : Int) ∧ s.f 5 = .int .i64 prec ∧ s.f 23 = .int .i64 (m : Int) ∧ s.f 189 = .slice (some ⟨x, 0, some 0⟩) m m ∧ s.f 190 = .int .i64 (m : Int) ∧ s.f 191 = .int .i64 (i : Int) ∧ i ≤ m ∧ kk = m - i + 1) (m + 1) ?_ ?_
        · refine ⟨0, ?_, f2, f3, f4, f5, rfl, rfl, rfl, rfl, Nat.zero_le _, rfl⟩
          have e0 : sg ++ (List.range 0).map dg = sg := by simp
          rw [e0]; exact ⟨y, hyy, hyn2, hy, f0, kx⟩
        clear hy f0 kx hyy hyn2 f2 f3 f4 f5 f2'
        rintro kk ⟨f, n2, H2⟩ ⟨i, ⟨y, hyy, hyn2, hy, f0, kx⟩, f2, f3, f4, f5, f23, f189, f190, f191, him, rfl⟩ ih
        simp only at hyn2 hy f0 kx f2 f3 f4 f5 f23 f189 f190 f191 ih
        have hx2 := (kx.keep x hxn hxy).trans hx
        by_cases hil : i < m
        · have hil' : ((i : Int) < ((m : Nat) : Int)) = True := by simp only [eq_iff_iff, iff_true]; omega
          have k1 : (0 : Int) ≤ (i : Int) ∧ (i : Int) < ((m : Nat) : Int) := by omega
          have hc := hget i (by omega)
          have hw1 : IntKind.i64.wrap ((i : Int) + 1) = ((i + 1 : Nat) : Int) := by rw [wrap_in (by omega) (by omega)]; simp
          obtain ⟨c1, c2⟩ := one_fact hyn2 hy
          have hoL : (sg ++ (List.range i).map dg).length ≤ 1900 := by simp only [List.length_append, List.length_map, List.length_range, List.length_replicate, List.length_cons, List.length_nil]; omega
          have hbl := hbg (sg ++ (List.range i).map dg).length (by omega)
          have hdl : (sg ++ (List.range i).map dg).length ≤ ((sg ++ (List.range i).map dg).map bv).length := by rw [List.length_map]; exact Nat.le_refl _
          have hds : ((sg ++ (List.range i).map dg).map bv).take (sg ++ (List.range i).map dg).length = (sg ++ (List.range i).map dg).map bv := List.take_of_length_le (by rw [List.length_map]; exact Nat.le_refl _)
          have hrs : sg ++ (List.range (i + 1)).map dg = (sg ++ (List.range i).map dg) ++ [dg i] := by rw [List.range_succ, List.map_append, List.append_assoc]; rfl
          generalize hout : sg ++ (List.range i).map dg = out at *
          have hst := fun (f : Fr) (o1 : AObj) (hf : f 0 = _) => OB.step (H := H) (out := out) (b := dg i) (f := f) (o1 := o1) hyy hyn2 kx hf
          generalize hdsv : out.map bv = ds at *
          generalize out.length = ol at *
          repeat (first | apply WK.seq | apply WK.block | apply WK.skipSeq | apply WK.skipBlock | apply WK.retSeq | apply WK.retBlock | apply WK.exitSeq | apply WK.exitHere | refine WK.exitOn rfl ?_ | ((first | (refine WK.rgn ?_ ?_; kernel_rfl) | refine AtCall.now ?_); simp (config := { maxSteps := 1000000 }) only [SS, qx17, forall_const, vconv, vun, tap, tap2, tap3, tap4, tsrc, tsrc2, Int.reduceEq, Int.reduceNeg, Nat.reduceGT, Nat.reduceLT, Nat.reduceLeDiff, Nat.reduceEqDiff, ↓reduceIte, reduceCtorEq, Int.reduceToNat, Int.reduceLE, Int.reduceLT, Nat.reduceAdd, Nat.reduceMul, f0, f190, f191, hil', hil, c1, c2, hds, hdl, hbg, hbl, List.drop_zero, f2, f3, f4, f5, f23, f189, k1, hx2, hc, Int.toNat_natCast, ff_121]) | (refine WK.condT ?_ ?_; focus (simp only [ev_tmp, ev_const, fset_apply, Nat.reduceEqDiff, ↓reduceIte, decide_true, decide_false, f0, f190, f191, hil', hil, c1, c2, hds, hdl, hbg, hbl, List.drop_zero, f2, f3, f4, f5, f23, f189, k1, hx2, hc, Int.toNat_natCast, ff_121]; done)) | (refine WK.condF ?_ ?_; focus (simp only [ev_tmp, ev_const, fset_apply, Nat.reduceEqDiff, ↓reduceIte, decide_true, decide_false, f0, f190, f191, hil', hil, c1, c2, hds, hdl, hbg, hbl, List.drop_zero, f2, f3, f4, f5, f23, f189, k1, hx2, hc, Int.toNat_natCast, ff_121]; done)))
          refine ih (m - (i + 1) + 1) (by omega) _ ⟨i + 1, by rw [hrs]; exact hst _ _ rfl, f2, f3, f4, f5, f23, f189, f190, ?_, hil, rfl⟩
          simp only [packed, fset_apply, Nat.reduceEqDiff, ↓reduceIte, List.getD_cons_zero, List.getD_cons_succ, f191, hw1, ff_121]
        · have hil' : ((i : Int) < ((m : Nat) : Int)) = False := by simp only [eq_iff_iff, iff_false]; omega
          have hie : i = m := by omega
          subst hie
          repeat (first | apply WK.seq | apply WK.block | apply WK.skipSeq | apply WK.skipBlock | apply WK.retSeq | apply WK.retBlock | apply WK.exitSeq | apply WK.exitHere | refine WK.exitOn rfl ?_ | ((first | (refine WK.rgn ?_ ?_; kernel_rfl) | refine AtCall.now ?_); simp (config := { maxSteps := 1000000 }) only [SS, qx17, forall_const, vconv, vun, tap, tap2, tap3, tap4, tsrc, tsrc2, Int.reduceEq, Int.reduceNeg, Nat.reduceGT, Nat.reduceLT, Nat.reduceLeDiff, Nat.reduceEqDiff, ↓reduceIte, reduceCtorEq, Int.reduceToNat, Int.reduceLE, Int.reduceLT, Nat.reduceAdd, Nat.reduceMul, f0, f190, f191, hil', hil, f2, f3, f4, f5, f23, f189, ff_121]) | (refine WK.condT ?_ ?_; focus (simp only [ev_tmp, ev_const, fset_apply, Nat.reduceEqDiff, ↓reduceIte, decide_true, decide_false, f0, f190, f191, hil', hil, f2, f3, f4, f5, f23, f189, ff_121]; done)) | (refine WK.condF ?_ ?_; focus (simp only [ev_tmp, ev_const, fset_apply, Nat.reduceEqDiff, ↓reduceIte, decide_true, decide_false, f0, f190, f191, hil', hil, f2, f3, f4, f5, f23, f189, ff_121]; done)))
          exact WK.skipNil ⟨rfl, ⟨y, hyy, hyn2, hy, f0, kx⟩, f2, f3, f4, f5, f23⟩
      rintro ⟨f, n2, H2⟩ ⟨⟨y, hyy, hyn2, hy, f0, kx⟩, f2, f3, f4, f5, f23⟩
      simp only at hyn2 hy f0 kx f2 f3 f4 f5 f23
      obtain ⟨cnt, hcnt⟩ : ∃ cnt, D - m = cnt := ⟨_, rfl⟩
      rw [hcnt] at hwm
      repeat (first | apply WK.seq | apply WK.block | apply WK.skipSeq | apply WK.skipBlock | apply WK.retSeq | apply WK.retBlock | apply WK.exitSeq | apply WK.exitHere | refine WK.exitOn rfl ?_ | ((first | (refine WK.rgn ?_ ?_; kernel_rfl) | refine AtCall.now ?_); simp (config := { maxSteps := 1000000 }) only [SS, qx17, forall_const, vconv, vun, tap, tap2, tap3, tap4, tsrc, tsrc2, Int.reduceEq, Int.reduceNeg, Nat.reduceGT, Nat.reduceLT, Nat.reduceLeDiff, Nat.reduceEqDiff, ↓reduceIte, reduceCtorEq, Int.reduceToNat, Int.reduceLE, Int.reduceLT, Nat.reduceAdd, Nat.reduceMul, f2, f3, f4, f5, f23, hwm, ff_121]) | (refine WK.condT ?_ ?_; focus (simp only [ev_tmp, ev_const, fset_apply, Nat.reduceEqDiff, ↓reduceIte, decide_true, decide_false, f2, f3, f4, f5, f23, hwm, ff_121]; done)) | (refine WK.condF ?_ ?_; focus (simp only [ev_tmp, ev_const, fset_apply, Nat.reduceEqDiff, ↓reduceIte, decide_true, decide_false, f2, f3, f4, f5, f23, hwm, ff_121]; done)))
      rw [hint, ← List.append_assoc, hcnt]
      generalize hB : sg ++ (List.range m).map dg = B at *
      have hBL : B.length ≤ 101 := by rw [← hB]; simp only [List.length_append, List.length_map, List.length_range]; omega
      refine WK.cutBlock (fun s => OB y0 n H s (B ++ List.replicate (cnt) 48) ∧ s.f 2 = sv ∧ s.f 3 = .int .i64 dp ∧ s.f 4 = .int .i64 (nd : Int) ∧ s.f 5 = .int .i64 prec) ?_ ?_
      · refine WK.loop (fun kk s => ∃ i : Nat, OB y0 n H s (B ++ List.replicate i 48) ∧ s.f 2 = sv ∧ s.f 3 = .int .i64 dp ∧ s.f 4 = .int .i64 (nd : Int) ∧ s.f 5 = .int .i64 prec ∧ s.f 202 = .int .i64 (cnt : Int) ∧ s.f 203 = .int .i64 (i : Int) ∧ i ≤ cnt ∧ kk = cnt - i + 1) (cnt + 1) ?_ ?_
        · refine ⟨0, ?_, f2, f3, f4, f5, rfl, rfl, Nat.zero_le _, rfl⟩
          have e0 : B ++ List.replicate 0 48 = B := by simp
          rw [e0]; exact ⟨y, hyy, hyn2, hy, f0, kx⟩
        clear hy f0 kx hyy hyn2 f2 f3 f4 f5
        rintro kk ⟨f, n2, H2⟩ ⟨i, ⟨y, hyy, hyn2, hy, f0, kx⟩, f2, f3, f4, f5, f202, f203, him, rfl⟩ ih
        simp only at hyn2 hy f0 kx f2 f3 f4 f5 f202 f203 ih
        by_cases hil : i < cnt
        · have hil' : ((i : Int) < ((cnt : Nat) : Int)) = True := by simp only [eq_iff_iff, iff_true]; omega
          have hw1 : IntKind.i64.wrap ((i : Int) + 1) = ((i + 1 : Nat) : Int) := by rw [wrap_in (by omega) (by omega)]; simp
          obtain ⟨c1, c2⟩ := one_fact hyn2 hy
          have hoL : (B ++ List.replicate i 48).length ≤ 1900 := by simp only [List.length_append, List.length_map, List.length_range, List.length_replicate, List.length_cons, List.length_nil]; omega
          have hbl := hbg (B ++ List.replicate i 48).length (by omega)
          have hdl : (B ++ List.replicate i 48).length ≤ ((B ++ List.replicate i 48).map bv).length := by rw [List.length_map]; exact Nat.le_refl _
          have hds : ((B ++ List.replicate i 48).map bv).take (B ++ List.replicate i 48).length = (B ++ List.replicate i 48).map bv := List.take_of_length_le (by rw [List.length_map]; exact Nat.le_refl _)
          have hrs : B ++ List.replicate (i + 1) 48 = (B ++ List.replicate i 48) ++ [48] := by rw [List.replicate_succ', List.append_assoc]
          generalize hout : B ++ List.replicate i 48 = out at *
          have hst := fun (f : Fr) (o1 : AObj) (hf : f 0 = _) => OB.step (H := H) (out := out) (b := 48) (f := f) (o1 := o1) hyy hyn2 kx hf
          generalize hdsv : out.map bv = ds at *
          generalize out.length = ol at *
          repeat (first | apply WK.seq | apply WK.block | apply WK.skipSeq | apply WK.skipBlock | apply WK.retSeq | apply WK.retBlock | apply WK.exitSeq | apply WK.exitHere | refine WK.exitOn rfl ?_ | ((first | (refine WK.rgn ?_ ?_; kernel_rfl) | refine AtCall.now ?_); simp (config := { maxSteps := 1000000 }) only [SS, qx17, forall_const, vconv, vun, tap, tap2, tap3, tap4, tsrc, tsrc2, Int.reduceEq, Int.reduceNeg, Nat.reduceGT, Nat.reduceLT, Nat.reduceLeDiff, Nat.reduceEqDiff, ↓reduceIte, reduceCtorEq, Int.reduceToNat, Int.reduceLE, Int.reduceLT, Nat.reduceAdd, Nat.reduceMul, f0, f202, f203, hil', hil, c1, c2, hds, hdl, hbg, hbl, List.drop_zero, f2, f3, f4, f5, ff_121]) | (refine WK.condT ?_ ?_; focus (simp only [ev_tmp, ev_const, fset_apply, Nat.reduceEqDiff, ↓reduceIte, decide_true, decide_false, f0, f202, f203, hil', hil, c1, c2, hds, hdl, hbg, hbl, List.drop_zero, f2, f3, f4, f5, ff_121]; done)) | (refine WK.condF ?_ ?_; focus (simp only [ev_tmp, ev_const, fset_apply, Nat.reduceEqDiff, ↓reduceIte, decide_true, decide_false, f0, f202, f203, hil', hil, c1, c2, hds, hdl, hbg, hbl, List.drop_zero, f2, f3, f4, f5, ff_121]; done)))
          refine ih (cnt - (i + 1) + 1) (by omega) _ ⟨i + 1, by rw [hrs]; exact hst _ _ rfl, f2, f3, f4, f5, f202, ?_, hil, rfl⟩
          simp only [packed, fset_apply, Nat.reduceEqDiff, ↓reduceIte, List.getD_cons_zero, List.getD_cons_succ, f203, hw1, ff_121]
        · have hil' : ((i : Int) < ((cnt : Nat) : Int)) = False := by simp only [eq_iff_iff, iff_false]; omega
          have hie : i = cnt := by omega
          subst hie
          repeat (first | apply WK.seq | apply WK.block | apply WK.skipSeq | apply WK.skipBlock | apply WK.retSeq | apply WK.retBlock | apply WK.exitSeq | apply WK.exitHere | refine WK.exitOn rfl ?_ | ((first | (refine WK.rgn ?_ ?_; kernel_rfl) | refine AtCall.now ?_); simp (config := { maxSteps := 1000000 }) only [SS, qx17, forall_const, vconv, vun, tap, tap2, tap3, tap4, tsrc, tsrc2, Int.reduceEq, Int.reduceNeg, Nat.reduceGT, Nat.reduceLT, Nat.reduceLeDiff, Nat.reduceEqDiff, ↓reduceIte, reduceCtorEq, Int.reduceToNat, Int.reduceLE, Int.reduceLT, Nat.reduceAdd, Nat.reduceMul, f0, f202, f203, hil', hil, f2, f3, f4, f5, ff_121]) | (refine WK.condT ?_ ?_; focus (simp only [ev_tmp, ev_const, fset_apply, Nat.reduceEqDiff, ↓reduceIte, decide_true, decide_false, f0, f202, f203, hil', hil, f2, f3, f4, f5, ff_121]; done)) | (refine WK.condF ?_ ?_; focus (simp only [ev_tmp, ev_const, fset_apply, Nat.reduceEqDiff, ↓reduceIte, decide_true, decide_false, f0, f202, f203, hil', hil, f2, f3, f4, f5, ff_121]; done)))
          exact WK.skipNil ⟨rfl, ⟨y, hyy, hyn2, hy, f0, kx⟩, f2, f3, f4, f5⟩
      rintro ⟨f, n2, H2⟩ ⟨⟨y, hyy, hyn2, hy, f0, kx⟩, f2, f3, f4, f5⟩
      simp only at hyn2 hy f0 kx f2 f3 f4 f5
      repeat (first | apply WK.seq | apply WK.block | apply WK.skipSeq | apply WK.skipBlock | apply WK.retSeq | apply WK.retBlock | apply WK.exitSeq | apply WK.exitHere | refine WK.exitOn rfl ?_ | ((first | (refine WK.rgn ?_ ?_; kernel_rfl) | refine AtCall.now ?_); simp (config := { maxSteps := 1000000 }) only [SS, qx17, forall_const, vconv, vun, tap, tap2, tap3, tap4, tsrc, tsrc2, Int.reduceEq, Int.reduceNeg, Nat.reduceGT, Nat.reduceLT, Nat.reduceLeDiff, Nat.reduceEqDiff, ↓reduceIte, reduceCtorEq, Int.reduceToNat, Int.reduceLE, Int.reduceLT, Nat.reduceAdd, Nat.reduceMul, ff_121]) | (refine WK.condT ?_ ?_; focus (simp only [ev_tmp, ev_const, fset_apply, Nat.reduceEqDiff, ↓reduceIte, decide_true, decide_false, ff_121]; done)) | (refine WK.condF ?_ ?_; focus (simp only [ev_tmp, ev_const, fset_apply, Nat.reduceEqDiff, ↓reduceIte, decide_true, decide_false, ff_121]; done)))
      exact WK.skipNil ⟨rfl, ⟨y, hyy, hyn2, hy, f0, kx⟩, f2, f3, f4, f5⟩
    · obtain ⟨c1, c2⟩ := one_fact hyn2 hy
      have hint : intS dg nd dp = [48] := by unfold intS; rw [if_neg hdp0]
      have hbl := hbg sg.length (by omega)
      have hdl : sg.length ≤ (sg.map bv).length := by rw [List.length_map]; exact Nat.le_refl _
      have hds : (sg.map bv).take sg.length = sg.map bv := List.take_of_length_le (by rw [List.length_map]; exact Nat.le_refl _)
      have hst := fun (f : Fr) (o1 : AObj) (hf : f 0 = _) => OB.step (H := H) (out := sg) (b := 48) (f := f) (o1 := o1) hyy hyn2 kx hf
      rw [hint]
      clear hsg
      generalize hdsv : sg.map bv = ds at *
      generalize sg.length = ol at *
      repeat (first | apply WK.seq | apply WK.block | apply WK.skipSeq | apply WK.skipBlock | apply WK.retSeq | apply WK.retBlock | apply WK.exitSeq | apply WK.exitHere | refine WK.exitOn rfl ?_ | ((first | (refine WK.rgn ?_ ?_; kernel_rfl) | refine AtCall.now ?_); simp (config := { maxSteps := 1000000 }) only [SS, qx17, forall_const, vconv, vun, tap, tap2, tap3, tap4, tsrc, tsrc2, Int.reduceEq, Int.reduceNeg, Nat.reduceGT, Nat.reduceLT, Nat.reduceLeDiff, Nat.reduceEqDiff, ↓reduceIte, reduceCtorEq, Int.reduceToNat, Int.reduceLE, Int.reduceLT, Nat.reduceAdd, Nat.reduceMul, f0, f2, f3, f4, f5, hdp0, c1, c2, hds, hdl, hbg, hbl, List.drop_zero, ff_121]) | (refine WK.condT ?_ ?_; focus (simp only [ev_tmp, ev_const, fset_apply, Nat.reduceEqDiff, ↓reduceIte, decide_true, decide_false, f0, f2, f3, f4, f5, hdp0, c1, c2, hds, hdl, hbg, hbl, List.drop_zero, ff_121]; done)) | (refine WK.condF ?_ ?_; focus (simp only [ev_tmp, ev_const, fset_apply, Nat.reduceEqDiff, ↓reduceIte, decide_true, decide_false, f0, f2, f3, f4, f5, hdp0, c1, c2, hds, hdl, hbg, hbl, List.drop_zero, ff_121]; done)))
      exact WK.skipNil ⟨rfl, hst _ _ rfl, f2, f3, f4, f5⟩
  clear hy f0 kx f2 f3 f4 f5 hyy hyn2
  rintro ⟨f, n2, H2⟩ ⟨⟨y, hyy, hyn2, hy, f0, kx⟩, f2, f3, f4, f5⟩
  simp only at hyn2 hy f0 kx f2 f3 f4 f5
  have hiL : (sg ++ intS dg nd dp).length ≤ 600 := by
    unfold intS; split <;> simp only [List.length_append, List.length_map, List.length_range, List.length_replicate, List.length_cons, List.length_nil] <;> omega
  by_cases hp0 : 0 < prec
  · obtain ⟨hsv1, hx, hget, hndL, hxy, hxn⟩ := hsv (.inr hp0)
    have hpe : prec = (nd : Int) - dp := by omega
    obtain ⟨lz, hlz⟩ : ∃ lz, (-dp).toNat = lz := ⟨_, rfl⟩
    obtain ⟨off, hoff⟩ : ∃ off, dp.toNat = off := ⟨_, rfl⟩
    obtain ⟨m, hm⟩ : ∃ m, nd - off = m := ⟨_, rfl⟩
    have hfin : fmtS neg dg nd dp prec = ((sg ++ intS dg nd dp ++ [46]) ++ List.replicate lz 48) ++ (List.range m).map fun q => dg (off + q) := by
      unfold fmtS fracS; rw [if_pos hp0, ← hsg, hlz, hoff, hm]; simp only [List.append_assoc, List.cons_append, List.nil_append]
    rw [hfin]
    generalize hA : sg ++ intS dg nd dp = A0 at *
    have hneg : IntKind.i64.wrap (0 - dp) = -dp := by rw [wrap_in (by omega) (by omega)]; omega
    have hmax1 : (if (0 : Int) < -dp then -dp else (0 : Int)) = (lz : Int) := by split <;> omega
    have hmin1 : (if (lz : Int) < prec then (lz : Int) else prec) = (lz : Int) := by split <;> omega
    have hwo : IntKind.i64.wrap (dp + (lz : Int)) = (off : Int) := by rw [wrap_in (by omega) (by omega)]; omega
    have hwm : IntKind.i64.wrap (prec - (lz : Int)) = (m : Int) := by rw [wrap_in (by omega) (by omega)]; omega
    have hwm2 : IntKind.i64.wrap ((nd : Int) - (off : Int)) = (m : Int) := by rw [wrap_in (by omega) (by omega)]; omega
    have hwm3 : IntKind.i64.wrap ((m : Int) - (m : Int)) = 0 := by rw [Int.sub_self]; rfl
    have hmax2 : (if (0 : Int) < (m : Int) then (m : Int) else (0 : Int)) = (m : Int) := by split <;> omega
    have hmin2 : (if (m : Int) < (m : Int) then (m : Int) else (m : Int)) = (m : Int) := by split <;> rfl
    have hmax3 : (if (0 : Int) < 0 then (0 : Int) else (0 : Int)) = 0 := rfl
    obtain ⟨c1, c2⟩ := one_fact hyn2 hy
    have hbl := hbg A0.length (by omega)
    have hdl : A0.length ≤ (A0.map bv).length := by rw [List.length_map]; exact Nat.le_refl _
    have hds : (A0.map bv).take A0.length = A0.map bv := List.take_of_length_le (by rw [List.length_map]; exact Nat.le_refl _)
    have hst := fun (f : Fr) (o1 : AObj) (hf : f 0 = _) => OB.step (H := H) (out := A0) (b := 46) (f := f) (o1 := o1) hyy hyn2 kx hf
    have hst2 : ∀ f : Fr, (f 0 = .slice (some ⟨n2 + 1, 0, none⟩) (A0.length + 1) (A0.length + 1)) → ∀ o1, OB y0 n H ⟨f, n2 + 1 + 1, hset (hset (hset H2 n2 o1) y .dead) (n2 + 1) (.cells (A0.map bv ++ [.int .u8 (46 : Int)]) 5 true)⟩ (A0 ++ [46]) := fun f hf o1 => hst f o1 hf
    clear hst
    have hB1L : (A0 ++ [46]).length ≤ 601 := by rw [List.length_append]; simp only [List.length_cons, List.length_nil]; omega
    generalize hB1 : A0 ++ [46] = B1 at *
    repeat (first | apply WK.seq | apply WK.block | apply WK.skipSeq | apply WK.skipBlock | apply WK.retSeq | apply WK.retBlock | apply WK.exitSeq | apply WK.exitHere | refine WK.exitOn rfl ?_ | ((first | (refine WK.rgn ?_ ?_; kernel_rfl) | refine AtCall.now ?_); simp (config := { maxSteps := 1000000 }) only [SS, qx17, forall_const, vconv, vun, tap, tap2, tap3, tap4, tsrc, tsrc2, Int.reduceEq, Int.reduceNeg, Nat.reduceGT, Nat.reduceLT, Nat.reduceLeDiff, Nat.reduceEqDiff, ↓reduceIte, reduceCtorEq, Int.reduceToNat, Int.reduceLE, Int.reduceLT, Nat.reduceAdd, Nat.reduceMul, f5, ff_121]) | (refine WK.condT ?_ ?_; focus (simp only [ev_tmp, ev_const, fset_apply, Nat.reduceEqDiff, ↓reduceIte, decide_true, decide_false, f5, ff_121]; done)) | (refine WK.condF ?_ ?_; focus (simp only [ev_tmp, ev_const, fset_apply, Nat.reduceEqDiff, ↓reduceIte, decide_true, decide_false, f5, ff_121]; done)))
    refine WK.cut (fun s => OB y0 n H s ((B1 ++ List.replicate lz 48) ++ (List.range m).map fun q => dg (off + q))) ?_ ?_
    · clear hfin hsg hA hiL hB1
      generalize hdsv : A0.map bv = ds at *
      generalize hol : A0.length = ol at *
      repeat (first | apply WK.seq | apply WK.block | apply WK.skipSeq | apply WK.skipBlock | apply WK.retSeq | apply WK.retBlock | apply WK.exitSeq | apply WK.exitHere | refine WK.exitOn rfl ?_ | ((first | (refine WK.rgn ?_ ?_; kernel_rfl) | refine AtCall.now ?_); simp (config := { maxSteps := 1000000 }) only [SS, qx17, forall_const, vconv, vun, tap, tap2, tap3, tap4, tsrc, tsrc2, Int.reduceEq, Int.reduceNeg, Nat.reduceGT, Nat.reduceLT, Nat.reduceLeDiff, Nat.reduceEqDiff, ↓reduceIte, reduceCtorEq, Int.reduceToNat, Int.reduceLE, Int.reduceLT, Nat.reduceAdd, Nat.reduceMul, f0, f2, f3, f4, f5, hp0, c1, c2, hds, hdl, hbg, hbl, List.drop_zero, aop_min, aop_max, tmm, Bool.false_eq_true, hneg, hmax1, hmin1, hwo, hwm, hwm2, hwm3, hmax2, hmin2, hmax3, ff_121]) | (refine WK.condT ?_ ?_; focus (simp only [ev_tmp, ev_const, fset_apply, Nat.reduceEqDiff, ↓reduceIte, decide_true, decide_false, f0, f2, f3, f4, f5, hp0, c1, c2, hds, hdl, hbg, hbl, List.drop_zero, aop_min, aop_max, tmm, Bool.false_eq_true, hneg, hmax1, hmin1, hwo, hwm, hwm2, hwm3, hmax2, hmin2, hmax3, ff_121]; done)) | (refine WK.condF ?_ ?_; focus (simp only [ev_tmp, ev_const, fset_apply, Nat.reduceEqDiff, ↓reduceIte, decide_true, decide_false, f0, f2, f3, f4, f5, hp0, c1, c2, hds, hdl, hbg, hbl, List.drop_zero, aop_min, aop_max, tmm, Bool.false_eq_true, hneg, hmax1, hmin1, hwo, hwm, hwm2, hwm3, hmax2, hmin2, hmax3, ff_121]; done)))
      refine WK.cutBlock (fun s => OB y0 n H s (B1 ++ List.replicate lz 48) ∧ s.f 2 = sv ∧ s.f 27 = .int .i64 (off : Int) ∧ s.f 28 = .int .i64 (m : Int) ∧ s.f 29 = .int .i64 0) ?_ ?_
      · refine WK.loop (fun kk s => ∃ i : Nat, OB y0 n H s (B1 ++ List.replicate i 48) ∧ s.f 2 = sv ∧ s.f 27 = .int .i64 (off : Int) ∧ s.f 28 = .int .i64 (m : Int) ∧ s.f 29 = .int .i64 0 ∧ s.f 239 = .int .i64 (lz : Int) ∧ s.f 240 = .int .i64 (i : Int) ∧ i ≤ lz ∧ kk = lz - i + 1) (lz + 1) ?_ ?_
        · refine ⟨0, ?_, f2, ?_, ?_, ?_, ?_, rfl, Nat.zero_le _, rfl⟩
          · have e0 : B1 ++ List.replicate 0 48 = B1 := by simp
            rw [e0]; exact hst2 _ rfl _
          · simp only [packed, fset_apply, Nat.reduceEqDiff, ↓reduceIte, List.getD_cons_zero, List.getD_cons_succ, f3, f4, f5, hneg, hmax1, hmin1, hwo, hwm, hwm2, hwm3, hmax2, hmin2, hmax3, ff_121]
          · simp only [packed, fset_apply, Nat.reduceEqDiff, ↓reduceIte, List.getD_cons_zero, List.getD_cons_succ, f3, f4, f5, hneg, hmax1, hmin1, hwo, hwm, hwm2, hwm3, hmax2, hmin2, hmax3, ff_121]
          · simp only [packed, fset_apply, Nat.reduceEqDiff, ↓reduceIte, List.getD_cons_zero, List.getD_cons_succ, f3, f4, f5, hneg, hmax1, hmin1, hwo, hwm, hwm2, hwm3, hmax2, hmin2, hmax3, ff_121]
          · simp only [packed, fset_apply, Nat.reduceEqDiff, ↓reduceIte, List.getD_cons_zero, List.getD_cons_succ, f3, f4, f5, hneg, hmax1, hmin1, hwo, hwm, hwm2, hwm3, hmax2, hmin2, hmax3, ff_121]
        clear hst2 hds hdl c1 hy f0 kx hyy hyn2 f2 f3 f4 f5 hdsv
        rintro kk ⟨f, n2, H2⟩ ⟨i, ⟨y, hyy, hyn2, hy, f0, kx⟩, f2, f27, f28, f29, f239, f240, him, rfl⟩ ih
        simp only at hyn2 hy f0 kx f2 f27 f28 f29 f239 f240 ih
        by_cases hil : i < lz
        · have hil' : ((i : Int) < ((lz : Nat) : Int)) = True := by simp only [eq_iff_iff, iff_true]; omega
          have hw1 : IntKind.i64.wrap ((i : Int) + 1) = ((i + 1 : Nat) : Int) := by rw [wrap_in (by omega) (by omega)]; simp
          obtain ⟨c1, c2⟩ := one_fact hyn2 hy
          have hoL : (B1 ++ List.replicate i 48).length ≤ 1900 := by simp only [List.length_append, List.length_map, List.length_range, List.length_replicate, List.length_cons, List.length_nil]; omega
          have hbl := hbg (B1 ++ List.replicate i 48).length (by omega)
          have hdl : (B1 ++ List.replicate i 48).length ≤ ((B1 ++ List.replicate i 48).map bv).length := by rw [List.length_map]; exact Nat.le_refl _
          have hds : ((B1 ++ List.replicate i 48).map bv).take (B1 ++ List.replicate i 48).length = (B1 ++ List.replicate i 48).map bv := List.take_of_length_le (by rw [List.length_map]; exact Nat.le_refl _)
          have hrs : B1 ++ List.replicate (i + 1) 48 = (B1 ++ List.replicate i 48) ++ [48] := by rw [List.replicate_succ', List.append_assoc]
          generalize hout : B1 ++ List.replicate i 48 = out at *
          have hst := fun (f : Fr) (o1 : AObj) (hf : f 0 = _) => OB.step (H := H) (out := out) (b := 48) (f := f) (o1 := o1) hyy hyn2 kx hf
          generalize hdsv : out.map bv = ds at *
          generalize out.length = ol at *
          repeat (first | apply WK.seq | apply WK.block | apply WK.skipSeq | apply WK.skipBlock | apply WK.retSeq | apply WK.retBlock | apply WK.exitSeq | apply WK.exitHere | refine WK.exitOn rfl ?_ | ((first | (refine WK.rgn ?_ ?_; kernel_rfl) | refine AtCall.now ?_); simp (config := { maxSteps := 1000000 }) only [SS, qx17, forall_const, vconv, vun, tap, tap2, tap3, tap4, tsrc, tsrc2, Int.reduceEq, Int.reduceNeg, Nat.reduceGT, Nat.reduceLT, Nat.reduceLeDiff, Nat.reduceEqDiff, ↓reduceIte, reduceCtorEq, Int.reduceToNat, Int.reduceLE, Int.reduceLT, Nat.reduceAdd, Nat.reduceMul, f0, f239, f240, hil', hil, c1, c2, hds, hdl, hbg, hbl, List.drop_zero, f2, f27, f28, f29, ff_121]) | (refine WK.condT ?_ ?_; focus (simp only [ev_tmp, ev_const, fset_apply, Nat.reduceEqDiff, ↓reduceIte, decide_true, decide_false, f0, f239, f240, hil', hil, c1, c2, hds, hdl, hbg, hbl, List.drop_zero, f2, f27, f28, f29, ff_121]; done)) | (refine WK.condF ?_ ?_; focus (simp only [ev_tmp, ev_const, fset_apply, Nat.reduceEqDiff, ↓reduceIte, decide_true, decide_false, f0, f239, f240, hil', hil, c1, c2, hds, hdl, hbg, hbl, List.drop_zero, f2, f27, f28, f29, ff_121]; done)))
          refine ih (lz - (i + 1) + 1) (by omega) _ ⟨i + 1, by rw [hrs]; exact hst _ _ rfl, f2, f27, f28, f29, f239, ?_, hil, rfl⟩
          simp only [packed, fset_apply, Nat.reduceEqDiff, ↓reduceIte, List.getD_cons_zero, List.getD_cons_succ, f240, hw1, ff_121]
        · have hil' : ((i : Int) < ((lz : Nat) : Int)) = False := by simp only [eq_iff_iff, iff_false]; omega
          have hie : i = lz := by omega
          subst hie
          repeat (first | apply WK.seq | apply WK.block | apply WK.skipSeq | apply WK.skipBlock | apply WK.retSeq | apply WK.retBlock | apply WK.exitSeq | apply WK.exitHere | refine WK.exitOn rfl ?_ | ((first | (refine WK.rgn ?_ ?_; kernel_rfl) | refine AtCall.now ?_); simp (config := { maxSteps := 1000000 }) only [SS, qx17, forall_const, vconv, vun, tap, tap2, tap3, tap4, tsrc, tsrc2, Int.reduceEq, Int.reduceNeg, Nat.reduceGT, Nat.reduceLT, Nat.reduceLeDiff, Nat.reduceEqDiff, ↓reduceIte, reduceCtorEq, Int.reduceToNat, Int.reduceLE, Int.reduceLT, Nat.reduceAdd, Nat.reduceMul, f0, f239, f240, hil', hil, f2, f27, f28, f29, ff_121]) | (refine WK.condT ?_ ?_; focus (simp only [ev_tmp, ev_const, fset_apply, Nat.reduceEqDiff, ↓reduceIte, decide_true, decide_false, f0, f239, f240, hil', hil, f2, f27, f28, f29, ff_121]; done)) | (refine WK.condF ?_ ?_; focus (simp only [ev_tmp, ev_const, fset_apply, Nat.reduceEqDiff, ↓reduceIte, decide_true, decide_false, f0, f239, f240, hil', hil, f2, f27, f28, f29, ff_121]; done)))
          exact WK.skipNil ⟨rfl, ⟨y, hyy, hyn2, hy, f0, kx⟩, f2, f27, f28, f29⟩
      rintro ⟨f, n2, H2⟩ ⟨⟨y, hyy, hyn2, hy, f0, kx⟩, f2, f27, f28, f29⟩
      simp only at hyn2 hy f0 kx f2 f27 f28 f29
      have hB2L : (B1 ++ List.replicate lz 48).length ≤ 1001 := by rw [List.length_append, List.length_replicate]; omega
      generalize hB2 : B1 ++ List.replicate lz 48 = B2 at *
      repeat (first | apply WK.seq | apply WK.block | apply WK.skipSeq | apply WK.skipBlock | apply WK.retSeq | apply WK.retBlock | apply WK.exitSeq | apply WK.exitHere | refine WK.exitOn rfl ?_ | ((first | (refine WK.rgn ?_ ?_; kernel_rfl) | refine AtCall.now ?_); simp (config := { maxSteps := 1000000 }) only [SS, qx17, forall_const, vconv, vun, tap, tap2, tap3, tap4, tsrc, tsrc2, Int.reduceEq, Int.reduceNeg, Nat.reduceGT, Nat.reduceLT, Nat.reduceLeDiff, Nat.reduceEqDiff, ↓reduceIte, reduceCtorEq, Int.reduceToNat, Int.reduceLE, Int.reduceLT, Nat.reduceAdd, Nat.reduceMul, f2, f27, f28, f29, ff_121]) | (refine WK.condT ?_ ?_; focus (simp only [ev_tmp, ev_const, fset_apply, Nat.reduceEqDiff, ↓reduceIte, decide_true, decide_false, f2, f27, f28, f29, ff_121]; done)) | (refine WK.condF ?_ ?_; focus (simp only [ev_tmp, ev_const, fset_apply, Nat.reduceEqDiff, ↓reduceIte, decide_true, decide_false, f2, f27, f28, f29, ff_121]; done)))
      refine WK.cutBlock (fun s => OB y0 n H s (B2 ++ ((List.range m).map fun q => dg (off + q))) ∧ s.f 2 = sv ∧ s.f 27 = .int .i64 (off : Int) ∧ s.f 28 = .int .i64 (m : Int) ∧ s.f 29 = .int .i64 0) ?_ ?_
      · refine WK.loop (fun kk s => ∃ i : Nat, OB y0 n H s (B2 ++ ((List.range i).map fun q => dg (off + q))) ∧ s.f 2 = sv ∧ s.f 27 = .int .i64 (off : Int) ∧ s.f 28 = .int .i64 (m : Int) ∧ s.f 29 = .int .i64 0 ∧ s.f 246 = .int .i64 (m : Int) ∧ s.f 247 = .int .i64 (i : Int) ∧ i ≤ m ∧ kk = m - i + 1) (m + 1) ?_ ?_
        · refine ⟨0, ?_, f2, f27, f28, f29, rfl, rfl, Nat.zero_le _, rfl⟩
          have e0 : B2 ++ ((List.range 0).map fun q => dg (off + q)) = B2 := by simp
          rw [e0]; exact ⟨y, hyy, hyn2, hy, f0, kx⟩
        clear hy f0 kx hyy hyn2 f2 f27 f28 f29
        rintro kk ⟨f, n2, H2⟩ ⟨i, ⟨y, hyy, hyn2, hy, f0, kx⟩, f2, f27, f28, f29, f246, f247, him, rfl⟩ ih
        simp only at hyn2 hy f0 kx f2 f27 f28 f29 f246 f247 ih
        have hx2 := (kx.keep x hxn hxy).trans hx
        by_cases hil : i < m
        · have hil' : ((i : Int) < ((m : Nat) : Int)) = True := by simp only [eq_iff_iff, iff_true]; omega
          have k1 : (0 : Int) ≤ ((off + i : Nat) : Int) ∧ ((off + i : Nat) : Int) < ((Ls : Nat) : Int) := by omega
          have hc := hget (off + i) (by omega)
          have f2' := f2.trans hsv1
          have hwi : IntKind.i64.wrap ((off : Int) + (i : Int)) = ((off + i : Nat) : Int) := by rw [wrap_in (by omega) (by omega)]; omega
          have hw1 : IntKind.i64.wrap ((i : Int) + 1) = ((i + 1 : Nat) : Int) := by rw [wrap_in (by omega) (by omega)]; simp
          obtain ⟨c1, c2⟩ := one_fact hyn2 hy
          have hoL : (B2 ++ ((List.range i).map fun q => dg (off + q))).length ≤ 1900 := by simp only [List.length_append, List.length_map, List.length_range, List.length_replicate, List.length_cons, List.length_nil]; omega
          have hbl := hbg (B2 ++ ((List.range i).map fun q => dg (off + q))).length (by omega)
          have hdl : (B2 ++ ((List.range i).map fun q => dg (off + q))).length ≤ ((B2 ++ ((List.range i).map fun q => dg (off + q))).map bv).length := by rw [List.length_map]; exact Nat.le_refl _
          have hds : ((B2 ++ ((List.range i).map fun q => dg (off + q))).map bv).take (B2 ++ ((List.range i).map fun q => dg (off + q))).length = (B2 ++ ((List.range i).map fun q => dg (off + q))).map bv := List.take_of_length_le (by rw [List.length_map]; exact Nat.le_refl _)
          have hrs : B2 ++ ((List.range (i + 1)).map fun q => dg (off + q)) = (B2 ++ ((List.range i).map fun q => dg (off + q))) ++ [dg (off + i)] := by rw [List.range_succ, List.map_append, List.append_assoc]; rfl
          generalize hout : B2 ++ ((List.range i).map fun q => dg (off + q)) = out at *
          have hst := fun (f : Fr) (o1 : AObj) (hf : f 0 = _) => OB.step (H := H) (out := out) (b := dg (off + i)) (f := f) (o1 := o1) hyy hyn2 kx hf
          generalize hdsv : out.map bv = ds at *
          generalize out.length = ol at *
          repeat (first | apply WK.seq | apply WK.block | apply WK.skipSeq | apply WK.skipBlock | apply WK.retSeq | apply WK.retBlock | apply WK.exitSeq | apply WK.exitHere | refine WK.exitOn rfl ?_ | ((first | (refine WK.rgn ?_ ?_; kernel_rfl) | refine AtCall.now ?_); simp (config := { maxSteps := 1000000 }) only [SS, qx17, forall_const, vconv, vun, tap, tap2, tap3, tap4, tsrc, tsrc2, Int.reduceEq, Int.reduceNeg, Nat.reduceGT, Nat.reduceLT, Nat.reduceLeDiff, Nat.reduceEqDiff, ↓reduceIte, reduceCtorEq, Int.reduceToNat, Int.reduceLE, Int.reduceLT, Nat.reduceAdd, Nat.reduceMul, f0, f246, f247, hil', hil, c1, c2, hds, hdl, hbg, hbl, List.drop_zero, f27, f28, f29, k1, hx2, hc, hwi, f2', Int.toNat_natCast, Nat.zero_add, ff_121]) | (refine WK.condT ?_ ?_; focus (simp only [ev_tmp, ev_const, fset_apply, Nat.reduceEqDiff, ↓reduceIte, decide_true, decide_false, f0, f246, f247, hil', hil, c1, c2, hds, hdl, hbg, hbl, List.drop_zero, f27, f28, f29, k1, hx2, hc, hwi, f2', Int.toNat_natCast, Nat.zero_add, ff_121]; done)) | (refine WK.condF ?_ ?_; focus (simp only [ev_tmp, ev_const, fset_apply, Nat.reduceEqDiff, ↓reduceIte, decide_true, decide_false, f0, f246, f247, hil', hil, c1, c2, hds, hdl, hbg, hbl, List.drop_zero, f27, f28, f29, k1, hx2, hc, hwi, f2', Int.toNat_natCast, Nat.zero_add, ff_121]; done)))
          refine ih (m - (i + 1) + 1) (by omega) _ ⟨i + 1, by rw [hrs]; exact hst _ _ rfl, f2, f27, f28, f29, f246, ?_, hil, rfl⟩
          simp only [packed, fset_apply, Nat.reduceEqDiff, ↓reduceIte, List.getD_cons_zero, List.getD_cons_succ, f247, hw1, ff_121]
        · have hil' : ((i : Int) < ((m : Nat) : Int)) = False := by simp only [eq_iff_iff, iff_false]; omega
          have hie : i = m := by omega
          subst hie
          repeat (first | apply WK.seq | apply WK.block | apply WK.skipSeq | apply WK.skipBlock | apply WK.retSeq | apply WK.retBlock | apply WK.exitSeq | apply WK.exitHere | refine WK.exitOn rfl ?_ | ((first | (refine WK.rgn ?_ ?_; kernel_rfl) | refine AtCall.now ?_); simp (config := { maxSteps := 1000000 }) only [SS, qx17, forall_const, vconv, vun, tap, tap2, tap3, tap4, tsrc, tsrc2, Int.reduceEq, Int.reduceNeg, Nat.reduceGT, Nat.reduceLT, Nat.reduceLeDiff, Nat.reduceEqDiff, ↓reduceIte, reduceCtorEq, Int.reduceToNat, Int.reduceLE, Int.reduceLT, Nat.reduceAdd, Nat.reduceMul, f0, f246, f247, hil', hil, f2, f27, f28, f29, ff_121]) | (refine WK.condT ?_ ?_; focus (simp only [ev_tmp, ev_const, fset_apply, Nat.reduceEqDiff, ↓reduceIte, decide_true, decide_false, f0, f246, f247, hil', hil, f2, f27, f28, f29, ff_121]; done)) | (refine WK.condF ?_ ?_; focus (simp only [ev_tmp, ev_const, fset_apply, Nat.reduceEqDiff, ↓reduceIte, decide_true, decide_false, f0, f246, f247, hil', hil, f2, f27, f28, f29, ff_121]; done)))
          exact WK.skipNil ⟨rfl, ⟨y, hyy, hyn2, hy, f0, kx⟩, f2, f27, f28, f29⟩
      rintro ⟨f, n2, H2⟩ ⟨⟨y, hyy, hyn2, hy, f0, kx⟩, f2, f27, f28, f29⟩
      simp only at hyn2 hy f0 kx f2 f27 f28 f29
      repeat (first | apply WK.seq | apply WK.block | apply WK.skipSeq | apply WK.skipBlock | apply WK.retSeq | apply WK.retBlock | apply WK.exitSeq | apply WK.exitHere | refine WK.exitOn rfl ?_ | ((first | (refine WK.rgn ?_ ?_; kernel_rfl) | refine AtCall.now ?_); simp (config := { maxSteps := 1000000 }) only [SS, qx17, forall_const, vconv, vun, tap, tap2, tap3, tap4, tsrc, tsrc2, Int.reduceEq, Int.reduceNeg, Nat.reduceGT, Nat.reduceLT, Nat.reduceLeDiff, Nat.reduceEqDiff, ↓reduceIte, reduceCtorEq, Int.reduceToNat, Int.reduceLE, Int.reduceLT, Nat.reduceAdd, Nat.reduceMul, f29, ff_121]) | (refine WK.condT ?_ ?_; focus (simp only [ev_tmp, ev_const, fset_apply, Nat.reduceEqDiff, ↓reduceIte, decide_true, decide_false, f29, ff_121]; done)) | (refine WK.condF ?_ ?_; focus (simp only [ev_tmp, ev_const, fset_apply, Nat.reduceEqDiff, ↓reduceIte, decide_true, decide_false, f29, ff_121]; done)))
      refine WK.unloop ?_
      have z0 : ((0 : Int) < 0) = False := by simp
      repeat (first | apply WK.seq | apply WK.block | apply WK.skipSeq | apply WK.skipBlock | apply WK.retSeq | apply WK.retBlock | apply WK.exitSeq | apply WK.exitHere | refine WK.exitOn rfl ?_ | ((first | (refine WK.rgn ?_ ?_; kernel_rfl) | refine AtCall.now ?_); simp (config := { maxSteps := 1000000 }) only [SS, qx17, forall_const, vconv, vun, tap, tap2, tap3, tap4, tsrc, tsrc2, Int.reduceEq, Int.reduceNeg, Nat.reduceGT, Nat.reduceLT, Nat.reduceLeDiff, Nat.reduceEqDiff, ↓reduceIte, reduceCtorEq, Int.reduceToNat, Int.reduceLE, Int.reduceLT, Nat.reduceAdd, Nat.reduceMul, z0, ff_121]) | (refine WK.condT ?_ ?_; focus (simp only [ev_tmp, ev_const, fset_apply, Nat.reduceEqDiff, ↓reduceIte, decide_true, decide_false, z0, ff_121]; done)) | (refine WK.condF ?_ ?_; focus (simp only [ev_tmp, ev_const, fset_apply, Nat.reduceEqDiff, ↓reduceIte, decide_true, decide_false, z0, ff_121]; done)))
      exact WK.skipNil ⟨rfl, ⟨y, hyy, hyn2, hy, f0, kx⟩⟩
    rintro ⟨f, n2, H2⟩ ⟨y, hyy, hyn2, hy, f0, kx⟩
    simp only at hyn2 hy f0 kx
    repeat (first | apply WK.seq | apply WK.block | apply WK.skipSeq | apply WK.skipBlock | apply WK.retSeq | apply WK.retBlock | apply WK.exitSeq | apply WK.exitHere | refine WK.exitOn rfl ?_ | ((first | (refine WK.rgn ?_ ?_; kernel_rfl) | refine AtCall.now ?_); simp (config := { maxSteps := 1000000 }) only [SS, qx17, forall_const, vconv, vun, tap, tap2, tap3, tap4, tsrc, tsrc2, Int.reduceEq, Int.reduceNeg, Nat.reduceGT, Nat.reduceLT, Nat.reduceLeDiff, Nat.reduceEqDiff, ↓reduceIte, reduceCtorEq, Int.reduceToNat, Int.reduceLE, Int.reduceLT, Nat.reduceAdd, Nat.reduceMul, f0, ff_121]) | (refine WK.condT ?_ ?_; focus (simp only [ev_tmp, ev_const, fset_apply, Nat.reduceEqDiff, ↓reduceIte, decide_true, decide_false, f0, ff_121]; done)) | (refine WK.condF ?_ ?_; focus (simp only [ev_tmp, ev_const, fset_apply, Nat.reduceEqDiff, ↓reduceIte, decide_true, decide_false, f0, ff_121]; done)))
    refine WK.retNil ⟨Or.inr rfl, _, rfl, fun z hz hzx => kx.keep z hz hzx, ?_⟩
    simp only [packed, fset_apply, Nat.reduceEqDiff, ↓reduceIte, List.getD_cons_zero, List.getD_cons_succ, f0, ff_121]
    exact ⟨y, rfl, hy⟩
  · have hfin : fmtS neg dg nd dp prec = sg ++ intS dg nd dp := by
      unfold fmtS; rw [if_neg hp0, ← hsg, List.append_nil]
    rw [hfin]
    generalize sg ++ intS dg nd dp = A0 at *
    repeat (first | apply WK.seq | apply WK.block | apply WK.skipSeq | apply WK.skipBlock | apply WK.retSeq | apply WK.retBlock | apply WK.exitSeq | apply WK.exitHere | refine WK.exitOn rfl ?_ | ((first | (refine WK.rgn ?_ ?_; kernel_rfl) | refine AtCall.now ?_); simp (config := { maxSteps := 1000000 }) only [SS, qx17, forall_const, vconv, vun, tap, tap2, tap3, tap4, tsrc, tsrc2, Int.reduceEq, Int.reduceNeg, Nat.reduceGT, Nat.reduceLT, Nat.reduceLeDiff, Nat.reduceEqDiff, ↓reduceIte, reduceCtorEq, Int.reduceToNat, Int.reduceLE, Int.reduceLT, Nat.reduceAdd, Nat.reduceMul, f5, hp0, f0, ff_121]) | (refine WK.condT ?_ ?_; focus (simp only [ev_tmp, ev_const, fset_apply, Nat.reduceEqDiff, ↓reduceIte, decide_true, decide_false, f5, hp0, f0, ff_121]; done)) | (refine WK.condF ?_ ?_; focus (simp only [ev_tmp, ev_const, fset_apply, Nat.reduceEqDiff, ↓reduceIte, decide_true, decide_false, f5, hp0, f0, ff_121]; done)))
    refine WK.retNil ⟨Or.inr rfl, _, rfl, fun z hz hzx => kx.keep z hz hzx, ?_⟩
    simp only [packed, fset_apply, Nat.reduceEqDiff, ↓reduceIte, List.getD_cons_zero, List.getD_cons_succ, f0, ff_121]
    exact ⟨y, rfl, hy⟩
end Go.Proofs.YtihjaobjhmmboaaGreatDoor
