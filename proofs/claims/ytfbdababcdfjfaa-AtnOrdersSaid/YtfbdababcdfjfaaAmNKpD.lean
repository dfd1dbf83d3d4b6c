/- A part of a proof. Its conditions: none. -/
import Derived.Test.YtfbdababcdfjfaaAmNAtPl
import Derived.Test.YtfbdababcdfjfaaAmNFacts
import Derived.Test.YtfbdababcdfjfaaAmC
import Derived.Test.YtfbdababcdfjfaaAmD
set_option linter.all false
namespace Go.Proofs.Ytfbdababcdfjfaa
open Go.AM
set_option maxRecDepth 100000
def spF (P : Program) (i : Nat) : Field := match P.underlying 50 with
  | some (.struct fs) => fs[i]!
  | _ => default
theorem sp_u : Try.prog.underlying 50 = some (.struct #[spF Try.prog 0, spF Try.prog 1]) := by kernel_rfl
theorem sp_i : Try.prog.underlying 3 = some (.int .i64) := by kernel_rfl
theorem sp_0 : (spF Try.prog 0).name = "Rule" := by kernel_rfl
theorem sp_1 : (spF Try.prog 1).name = "Dot" := by kernel_rfl
theorem sp_2 : (spF Try.prog 0).type = 3 := by kernel_rfl
theorem sp_3 : (spF Try.prog 1).type = 3 := by kernel_rfl
theorem sp_4 : (spF Try.prog 0).offset = 0 := by kernel_rfl
theorem sp_5 : (spF Try.prog 1).offset = 1 := by kernel_rfl
theorem sp_6 : Try.prog.stoodInHeld 50 = false := by kernel_rfl
theorem sp_7 : Try.prog.eqGuardType Try.prog.depth 50 = false := by kernel_rfl
theorem pureRun_bnd {P : Program} {α β : Type} (s : Sem α) (f : α → Sem β) : pureRun P (Sem.bind s f) = (pureRun P s).bind fun a => pureRun P (f a) := by
  induction s with
  | pure x => rfl
  | program k ih => exact ih P
  | _ => simp [pureRun, Sem.bind]
theorem run_und {P : Program} {t : TypeId} {u : TypeDesc} (h : P.underlying t = some u) : pureRun P (underlying t) = some u := by
  simp [underlying, program, h, pureRun, bind, Sem.bind, pure]
theorem run_part {cs : Array Value} {k : Nat} {v : Value} (h : cs[k]? = some v) : pureRun Try.prog (part 3 cs k) = some v := by
  simp [part, isAgg, underlying, program, sp_i, pureRun, bind, Sem.bind, pure, h]
theorem run_eqI (d : Nat) (a b : Int) : pureRun Try.prog (Op.equalIn (d + 1) 3 (.int .i64 a) (.int .i64 b)) = some (a == b) := by
  simp [Op.equalIn, underlying, program, sp_i, pureRun, bind, Sem.bind, pure]
theorem eq_sp (a b c e : Int) : pureRun Try.prog (Op.equal 50 (.agg #[.int .i64 a, .int .i64 b]) (.agg #[.int .i64 c, .int .i64 e])) = some (decide (a = c) && decide (b = e)) := by
  have key : ∀ d : Nat, (∀ x y, pureRun Try.prog (Op.equalIn d 3 (.int .i64 x) (.int .i64 y)) = some (x == y)) → pureRun Try.prog (Op.equalIn (d + 1) 50 (.agg #[.int .i64 a, .int .i64 b]) (.agg #[.int .i64 c, .int .i64 e])) = some (decide (a = c) && decide (b = e)) := fun d hd => by
    unfold Op.equalIn
    simp [bind, pureRun_bnd, run_und sp_u, program, pureRun, Sem.bind, pure, sp_0, sp_1, sp_2, sp_3, sp_4, sp_5, sp_6, run_part, hd]
    by_cases h1 : a = c
    · by_cases h2 : b = e
      · simp [bind, pureRun_bnd, pureRun, Sem.bind, run_part, hd, h1, h2]
      · simp [bind, pureRun_bnd, pureRun, Sem.bind, run_part, hd, h1, h2]
    · simp [bind, pureRun_bnd, pureRun, Sem.bind, run_part, hd, h1]
  exact key 9999 (run_eqI 9998)
def spN (r : Option Res) : Value → Value → Option Res
  | .agg ⟨[.int .i64 a, .int .i64 b]⟩, .agg ⟨[.int .i64 c, .int .i64 e]⟩ => some { v := .bool (!(decide (a = c) && decide (b = e))) }
  | _, _ => r
theorem aop_spq {f : Fr} {n : Nat} {H : Heap} {d : Option Nat} {u : TypeId} {x y : Operand} {ty : TypeId} {p : String} {af : Array Edge} {gd : Option (Nat × Bool)} :
    aop Try.prog (evalA f) n H ⟨d, .binOp .neq 50 x y u, ty, p, af, gd⟩ = spN (abin0 Try.prog (evalA f) ⟨d, .binOp .neq 50 x y u, ty, p, af, gd⟩ .neq 50 (evalA f x) (evalA f y)) (evalA f x) (evalA f y) := by
  show abin0 Try.prog (evalA f) ⟨d, .binOp .neq 50 x y u, ty, p, af, gd⟩ .neq 50 (evalA f x) (evalA f y) = _
  unfold spN
  split
  · rename_i a b c e hx hy
    have h0 : aeqNil Try.prog 50 (.agg ⟨[.int .i64 a, .int .i64 b]⟩) (.agg ⟨[.int .i64 c, .int .i64 e]⟩) = none := by unfold aeqNil; rw [sp_u]
    have h1 : anan Try.prog .neq 50 (.agg ⟨[.int .i64 a, .int .i64 b]⟩) (.agg ⟨[.int .i64 c, .int .i64 e]⟩) = none := by unfold anan; rw [sp_u]
    unfold abin0
    rw [hx, hy, h0]
    simp only [h1]
    refine flat_op (by simp [opFlat, Op.operands, hx, hy, flat, flat1]) ?_ (by simp [flat, flat1])
    have hq := eq_sp a b c e
    simp only [execOp, hx, hy, eqGuard, binOp, bind, pureRun_bnd, program, pureRun, Sem.bind, pure, sp_7]
    simp [pureRun, hq, sp_7, pureRun_bnd]
  · rfl
set_option maxHeartbeats 16000000 in
theorem same14_gives {a b : CA} {n : Nat} {H : Heap} (hw : WF n H) (ha : StOK H a) (hb : StOK H b) (hla : a.1.stack.length ≤ 65536) (hlb : b.1.stack.length ≤ 65536) :
    Gives Try.prog 26 [.agg (ccell a).toArray, .agg (ccell b).toArray] n H fun v _ _ => v = .bool (decide (a.1 = b.1)) := by
  refine Gives.of orders ok26 (Nat.le_of_ble_eq_true rfl) ?_
  have v1 : ∀ s, vcells (.agg (ccell s).toArray) = ccell s := fun _ => rfl
  have v2 : ∀ s, (ccell s).all one = true := fun _ => rfl
  have v4 : ∀ s, (ccell s)[3]? = some (.slice s.2 s.1.stack.length s.1.stack.length) := fun _ => rfl
  have v0 : ∀ s, (ccell s)[0]? = some (.int .i64 s.1.alt) := fun _ => rfl
  have v5 : ∀ s, (ccell s).length = 4 := fun _ => rfl
  have v8 : ∀ s, ((ccell s).drop 1).take 2 = [.int .i64 s.1.rule, .int .i64 s.1.dot] := fun _ => rfl
  repeat (first | apply WK.seq | apply WK.block | apply WK.skipSeq | apply WK.skipBlock | apply WK.retSeq | apply WK.retBlock | apply WK.exitSeq | apply WK.exitHere | refine WK.exitOn rfl ?_)
  (refine WK.rgn ?_ ?_; kernel_rfl; simp (config := { maxSteps := 1000000 }) only [SS, forall_const, wx, tguard, acallee, top, tval, fput, tor, vsh, vbin, tload, tload2, tload3, tidx, tidx2, tidx3, tfa, tfa2, tlen2, tlen3, tpick, tbox, one, Int.reduceEq, Int.reduceNeg, Nat.reduceGT, Nat.reduceLT, Nat.reduceLeDiff, Nat.reduceEqDiff, ↓reduceIte, reduceCtorEq, Int.reduceToNat, Int.reduceLE, Int.reduceLT, Nat.reduceAdd, Nat.reduceMul, abox, v1, v2, ff_26])
  have k1 := Kp.new n H (.cells (ccell a) 53 true)
  have hA := hset_at H n (.cells (ccell a) 53 true)
  generalize hset H n (.cells (ccell a) 53 true) = H1 at *
  have k2 := Kp.new (n + 1) H1 (.cells (ccell b) 53 true)
  have hB := hset_at H1 (n + 1) (.cells (ccell b) 53 true)
  generalize hset H1 (n + 1) (.cells (ccell b) 53 true) = H2 at *
  have hA2 := (k2.keep n (by omega)).trans hA
  have k12 := k1.trans k2
  have hw2 := k12.wf hw
  have ha2 := ha.mono hw k12
  have hb2 := hb.mono hw k12
  by_cases e1 : a.1.alt = b.1.alt
  · by_cases e2 : a.1.rule = b.1.rule
    · by_cases e4 : a.1.dot = b.1.dot
      · by_cases e3 : a.1.stack.length = b.1.stack.length
        · have e3' : ((a.1.stack.length : Int) = (b.1.stack.length : Int)) := by rw [e3]
          repeat (first | apply WK.seq | apply WK.block | apply WK.skipSeq | apply WK.skipBlock | apply WK.retSeq | apply WK.retBlock | apply WK.exitSeq | apply WK.exitHere | refine WK.exitOn rfl ?_ | ((first | (refine WK.rgn ?_ ?_; kernel_rfl) | refine AtCall.now ?_); simp (config := { maxSteps := 1000000 }) only [SS, forall_const, wx, tguard, acallee, top, tval, fput, tor, vsh, vbin, tload, tload2, tload3, tidx, tidx2, tidx3, tfa, tfa2, tlen2, tlen3, tpick, tbox, one, Int.reduceEq, Int.reduceNeg, Nat.reduceGT, Nat.reduceLT, Nat.reduceLeDiff, Nat.reduceEqDiff, ↓reduceIte, reduceCtorEq, Int.reduceToNat, Int.reduceLE, Int.reduceLT, Nat.reduceAdd, Nat.reduceMul, hA2, hB, v0, v4, v5, v8, aop_spq, spN, e1, e2, e4, e3, e3', ff_26]) | (refine WK.condT ?_ ?_; focus (simp only [ev_tmp, ev_const, fset_apply, Nat.reduceEqDiff, ↓reduceIte, decide_true, decide_false, hA2, hB, v0, v4, v5, v8, aop_spq, spN, e1, e2, e4, e3, e3', ff_26]; done)) | (refine WK.condF ?_ ?_; focus (simp only [ev_tmp, ev_const, fset_apply, Nat.reduceEqDiff, ↓reduceIte, decide_true, decide_false, hA2, hB, v0, v4, v5, v8, aop_spq, spN, e1, e2, e4, e3, e3', ff_26]; done)))
          refine WK.loop (fun kk s => ∃ i : Nat, s.n = n + 1 + 1 ∧ s.H = H2 ∧ s.f 2 = .pointer (some ⟨n, 0, none⟩) ∧ s.f 3 = .pointer (some ⟨n + 1, 0, none⟩) ∧ s.f 5 = .int .i64 (i : Nat) ∧ i ≤ a.1.stack.length ∧ a.1.stack.take i = b.1.stack.take i ∧ kk = a.1.stack.length - i) a.1.stack.length ?_ ?_
          · exact ⟨0, rfl, rfl, rfl, rfl, rfl, Nat.zero_le _, rfl, rfl⟩
          rintro kk ⟨f, n4, H4⟩ ⟨i, rfl, rfl, f2, f3, f5, hil, htk, rfl⟩ ih
          simp only at f2 f3 f5 ih hA2 hB k12 hw2 ha2 hb2
          by_cases hlt : i < a.1.stack.length
          · have hlt2 : i < b.1.stack.length := by omega
            obtain ⟨u, k0, cs, ty, own, q1, q2, q3, q4⟩ := ha2.at spC_len hlt
            obtain ⟨u', k0', cs', ty', own', q1', q2', q3', q4'⟩ := hb2.at spC_len hlt2
            have hiw : IntKind.i64.wrap ((i : Int) + 1) = ((i + 1 : Nat) : Int) := by rw [wrap_in (by omega) (by omega)]; rfl
            have s3 : ∀ s, (spC s) = [.int .i64 s.1, .int .i64 s.2] := fun _ => rfl
            rw [s3] at q3 q3'
            by_cases h1 : a.1.stack[i].1 = b.1.stack[i].1 ∧ a.1.stack[i].2 = b.1.stack[i].2
            · obtain ⟨h1, h2⟩ := h1
              repeat (first | apply WK.seq | apply WK.block | apply WK.skipSeq | apply WK.skipBlock | apply WK.retSeq | apply WK.retBlock | apply WK.exitSeq | apply WK.exitHere | refine WK.exitOn rfl ?_ | ((first | (refine WK.rgn ?_ ?_; kernel_rfl) | refine AtCall.now ?_); simp (config := { maxSteps := 1000000 }) only [SS, forall_const, wx, tguard, acallee, top, tval, fput, tor, vsh, vbin, tload, tload2, tload3, tidx, tidx2, tidx3, tfa, tfa2, tlen2, tlen3, tpick, tbox, one, Int.reduceEq, Int.reduceNeg, Nat.reduceGT, Nat.reduceLT, Nat.reduceLeDiff, Nat.reduceEqDiff, ↓reduceIte, reduceCtorEq, Int.reduceToNat, Int.reduceLE, Int.reduceLT, Nat.reduceAdd, Nat.reduceMul, aop_spq, spN, Bool.false_and, Bool.not_false, f2, f3, f5, hlt, hlt2, hA2, hB, v4, q1, q2, q3, q4, q1', q2', q3', q4', hiw, h1, h2, e3, ff_26]) | (refine WK.condT ?_ ?_; focus (simp only [ev_tmp, ev_const, fset_apply, Nat.reduceEqDiff, ↓reduceIte, decide_true, decide_false, aop_spq, spN, Bool.false_and, Bool.not_false, f2, f3, f5, hlt, hlt2, hA2, hB, v4, q1, q2, q3, q4, q1', q2', q3', q4', hiw, h1, h2, e3, ff_26]; done)) | (refine WK.condF ?_ ?_; focus (simp only [ev_tmp, ev_const, fset_apply, Nat.reduceEqDiff, ↓reduceIte, decide_true, decide_false, aop_spq, spN, Bool.false_and, Bool.not_false, f2, f3, f5, hlt, hlt2, hA2, hB, v4, q1, q2, q3, q4, q1', q2', q3', q4', hiw, h1, h2, e3, ff_26]; done)))
              refine ih (a.1.stack.length - (i + 1)) (by omega) _ ⟨i + 1, rfl, rfl, f2, f3, rfl, hlt, ?_, rfl⟩
              rw [List.take_add_one, List.take_add_one, htk, List.getElem?_eq_getElem hlt, List.getElem?_eq_getElem hlt2, Prod.ext h1 h2]
            · have hne : a.1 ≠ b.1 := fun h => h1 (by simp only [h]; exact ⟨trivial, trivial⟩)
              by_cases h2 : a.1.stack[i].1 = b.1.stack[i].1
              · have h3 : ¬ a.1.stack[i].2 = b.1.stack[i].2 := fun h => h1 ⟨h2, h⟩
                repeat (first | apply WK.seq | apply WK.block | apply WK.skipSeq | apply WK.skipBlock | apply WK.retSeq | apply WK.retBlock | apply WK.exitSeq | apply WK.exitHere | refine WK.exitOn rfl ?_ | ((first | (refine WK.rgn ?_ ?_; kernel_rfl) | refine AtCall.now ?_); simp (config := { maxSteps := 1000000 }) only [SS, forall_const, wx, tguard, acallee, top, tval, fput, tor, vsh, vbin, tload, tload2, tload3, tidx, tidx2, tidx3, tfa, tfa2, tlen2, tlen3, tpick, tbox, one, Int.reduceEq, Int.reduceNeg, Nat.reduceGT, Nat.reduceLT, Nat.reduceLeDiff, Nat.reduceEqDiff, ↓reduceIte, reduceCtorEq, Int.reduceToNat, Int.reduceLE, Int.reduceLT, Nat.reduceAdd, Nat.reduceMul, aop_spq, spN, Bool.false_and, Bool.not_false, f2, f3, f5, hlt, hlt2, hA2, hB, v4, q1, q2, q3, q4, q1', q2', q3', q4', hiw, h2, h3, e3, ff_26]) | (refine WK.condT ?_ ?_; focus (simp only [ev_tmp, ev_const, fset_apply, Nat.reduceEqDiff, ↓reduceIte, decide_true, decide_false, aop_spq, spN, Bool.false_and, Bool.not_false, f2, f3, f5, hlt, hlt2, hA2, hB, v4, q1, q2, q3, q4, q1', q2', q3', q4', hiw, h2, h3, e3, ff_26]; done)) | (refine WK.condF ?_ ?_; focus (simp only [ev_tmp, ev_const, fset_apply, Nat.reduceEqDiff, ↓reduceIte, decide_true, decide_false, aop_spq, spN, Bool.false_and, Bool.not_false, f2, f3, f5, hlt, hlt2, hA2, hB, v4, q1, q2, q3, q4, q1', q2', q3', q4', hiw, h2, h3, e3, ff_26]; done)))
                (first | refine WK.retNil ⟨Or.inr rfl, _, rfl, ?_, ?_⟩ | refine WK.skipNil ⟨Or.inl rfl, _, rfl, ?_, ?_⟩)
                · exact k12.keep
                · simp only [packed, fset_apply, Nat.reduceEqDiff, ↓reduceIte, List.getD_cons_zero, List.getD_cons_succ, hne, decide_false, ff_26]
              · repeat (first | apply WK.seq | apply WK.block | apply WK.skipSeq | apply WK.skipBlock | apply WK.retSeq | apply WK.retBlock | apply WK.exitSeq | apply WK.exitHere | refine WK.exitOn rfl ?_ | ((first | (refine WK.rgn ?_ ?_; kernel_rfl) | refine AtCall.now ?_); simp (config := { maxSteps := 1000000 }) only [SS, forall_const, wx, tguard, acallee, top, tval, fput, tor, vsh, vbin, tload, tload2, tload3, tidx, tidx2, tidx3, tfa, tfa2, tlen2, tlen3, tpick, tbox, one, Int.reduceEq, Int.reduceNeg, Nat.reduceGT, Nat.reduceLT, Nat.reduceLeDiff, Nat.reduceEqDiff, ↓reduceIte, reduceCtorEq, Int.reduceToNat, Int.reduceLE, Int.reduceLT, Nat.reduceAdd, Nat.reduceMul, aop_spq, spN, Bool.false_and, Bool.not_false, f2, f3, f5, hlt, hlt2, hA2, hB, v4, q1, q2, q3, q4, q1', q2', q3', q4', hiw, h2, e3, ff_26]) | (refine WK.condT ?_ ?_; focus (simp only [ev_tmp, ev_const, fset_apply, Nat.reduceEqDiff, ↓reduceIte, decide_true, decide_false, aop_spq, spN, Bool.false_and, Bool.not_false, f2, f3, f5, hlt, hlt2, hA2, hB, v4, q1, q2, q3, q4, q1', q2', q3', q4', hiw, h2, e3, ff_26]; done)) | (refine WK.condF ?_ ?_; focus (simp only [ev_tmp, ev_const, fset_apply, Nat.reduceEqDiff, ↓reduceIte, decide_true, decide_false, aop_spq, spN, Bool.false_and, Bool.not_false, f2, f3, f5, hlt, hlt2, hA2, hB, v4, q1, q2, q3, q4, q1', q2', q3', q4', hiw, h2, e3, ff_26]; done)))
                (first | refine WK.retNil ⟨Or.inr rfl, _, rfl, ?_, ?_⟩ | refine WK.skipNil ⟨Or.inl rfl, _, rfl, ?_, ?_⟩)
                · exact k12.keep
                · simp only [packed, fset_apply, Nat.reduceEqDiff, ↓reduceIte, List.getD_cons_zero, List.getD_cons_succ, hne, decide_false, ff_26]
          · obtain rfl : i = a.1.stack.length := by omega
            have heq : a.1 = b.1 := by
              rcases hA1 : a.1 with ⟨p1, p2, p3, p4⟩
              rcases hB1 : b.1 with ⟨r1, r2, r3, r4⟩
              rw [hA1, hB1] at e1 e2 e4 e3 htk
              simp only at e1 e2 e4 e3 htk
              rw [List.take_length, e3, List.take_length] at htk
              rw [e1, e2, e4, htk]
            repeat (first | apply WK.seq | apply WK.block | apply WK.skipSeq | apply WK.skipBlock | apply WK.retSeq | apply WK.retBlock | apply WK.exitSeq | apply WK.exitHere | refine WK.exitOn rfl ?_ | ((first | (refine WK.rgn ?_ ?_; kernel_rfl) | refine AtCall.now ?_); simp (config := { maxSteps := 1000000 }) only [SS, forall_const, wx, tguard, acallee, top, tval, fput, tor, vsh, vbin, tload, tload2, tload3, tidx, tidx2, tidx3, tfa, tfa2, tlen2, tlen3, tpick, tbox, one, Int.reduceEq, Int.reduceNeg, Nat.reduceGT, Nat.reduceLT, Nat.reduceLeDiff, Nat.reduceEqDiff, ↓reduceIte, reduceCtorEq, Int.reduceToNat, Int.reduceLE, Int.reduceLT, Nat.reduceAdd, Nat.reduceMul, f2, f3, f5, hA2, v4, hlt, ff_26]) | (refine WK.condT ?_ ?_; focus (simp only [ev_tmp, ev_const, fset_apply, Nat.reduceEqDiff, ↓reduceIte, decide_true, decide_false, f2, f3, f5, hA2, v4, hlt, ff_26]; done)) | (refine WK.condF ?_ ?_; focus (simp only [ev_tmp, ev_const, fset_apply, Nat.reduceEqDiff, ↓reduceIte, decide_true, decide_false, f2, f3, f5, hA2, v4, hlt, ff_26]; done)))
            (first | refine WK.retNil ⟨Or.inr rfl, _, rfl, ?_, ?_⟩ | refine WK.skipNil ⟨Or.inl rfl, _, rfl, ?_, ?_⟩)
            · exact k12.keep
            · simp only [packed, fset_apply, Nat.reduceEqDiff, ↓reduceIte, List.getD_cons_zero, List.getD_cons_succ, heq, decide_true, ff_26]
        · have e3' : ((a.1.stack.length : Int) = (b.1.stack.length : Int)) = False := eq_false (by omega)
          have hne : a.1 ≠ b.1 := fun h => e3 (by rw [h])
          repeat (first | apply WK.seq | apply WK.block | apply WK.skipSeq | apply WK.skipBlock | apply WK.retSeq | apply WK.retBlock | apply WK.exitSeq | apply WK.exitHere | refine WK.exitOn rfl ?_ | ((first | (refine WK.rgn ?_ ?_; kernel_rfl) | refine AtCall.now ?_); simp (config := { maxSteps := 1000000 }) only [SS, forall_const, wx, tguard, acallee, top, tval, fput, tor, vsh, vbin, tload, tload2, tload3, tidx, tidx2, tidx3, tfa, tfa2, tlen2, tlen3, tpick, tbox, one, Int.reduceEq, Int.reduceNeg, Nat.reduceGT, Nat.reduceLT, Nat.reduceLeDiff, Nat.reduceEqDiff, ↓reduceIte, reduceCtorEq, Int.reduceToNat, Int.reduceLE, Int.reduceLT, Nat.reduceAdd, Nat.reduceMul, hA2, hB, v0, v4, v5, v8, aop_spq, spN, e1, e2, e4, e3', decide_false, ff_26]) | (refine WK.condT ?_ ?_; focus (simp only [ev_tmp, ev_const, fset_apply, Nat.reduceEqDiff, ↓reduceIte, decide_true, decide_false, hA2, hB, v0, v4, v5, v8, aop_spq, spN, e1, e2, e4, e3', decide_false, ff_26]; done)) | (refine WK.condF ?_ ?_; focus (simp only [ev_tmp, ev_const, fset_apply, Nat.reduceEqDiff, ↓reduceIte, decide_true, decide_false, hA2, hB, v0, v4, v5, v8, aop_spq, spN, e1, e2, e4, e3', decide_false, ff_26]; done)))
          (first | refine WK.retNil ⟨Or.inr rfl, _, rfl, ?_, ?_⟩ | refine WK.skipNil ⟨Or.inl rfl, _, rfl, ?_, ?_⟩)
          · exact k12.keep
          · simp only [packed, fset_apply, Nat.reduceEqDiff, ↓reduceIte, List.getD_cons_zero, List.getD_cons_succ, hne, decide_false, ff_26]
      · have hne : a.1 ≠ b.1 := fun h => e4 (by rw [h])
        repeat (first | apply WK.seq | apply WK.block | apply WK.skipSeq | apply WK.skipBlock | apply WK.retSeq | apply WK.retBlock | apply WK.exitSeq | apply WK.exitHere | refine WK.exitOn rfl ?_ | ((first | (refine WK.rgn ?_ ?_; kernel_rfl) | refine AtCall.now ?_); simp (config := { maxSteps := 1000000 }) only [SS, forall_const, wx, tguard, acallee, top, tval, fput, tor, vsh, vbin, tload, tload2, tload3, tidx, tidx2, tidx3, tfa, tfa2, tlen2, tlen3, tpick, tbox, one, Int.reduceEq, Int.reduceNeg, Nat.reduceGT, Nat.reduceLT, Nat.reduceLeDiff, Nat.reduceEqDiff, ↓reduceIte, reduceCtorEq, Int.reduceToNat, Int.reduceLE, Int.reduceLT, Nat.reduceAdd, Nat.reduceMul, hA2, hB, v0, v4, v5, v8, aop_spq, spN, e1, e2, e4, decide_false, decide_true, Bool.and_false, Bool.not_false, ff_26]) | (refine WK.condT ?_ ?_; focus (simp only [ev_tmp, ev_const, fset_apply, Nat.reduceEqDiff, ↓reduceIte, decide_true, decide_false, hA2, hB, v0, v4, v5, v8, aop_spq, spN, e1, e2, e4, decide_false, decide_true, Bool.and_false, Bool.not_false, ff_26]; done)) | (refine WK.condF ?_ ?_; focus (simp only [ev_tmp, ev_const, fset_apply, Nat.reduceEqDiff, ↓reduceIte, decide_true, decide_false, hA2, hB, v0, v4, v5, v8, aop_spq, spN, e1, e2, e4, decide_false, decide_true, Bool.and_false, Bool.not_false, ff_26]; done)))
        (first | refine WK.retNil ⟨Or.inr rfl, _, rfl, ?_, ?_⟩ | refine WK.skipNil ⟨Or.inl rfl, _, rfl, ?_, ?_⟩)
        · exact k12.keep
        · simp only [packed, fset_apply, Nat.reduceEqDiff, ↓reduceIte, List.getD_cons_zero, List.getD_cons_succ, hne, decide_false, ff_26]
    · have hne : a.1 ≠ b.1 := fun h => e2 (by rw [h])
      repeat (first | apply WK.seq | apply WK.block | apply WK.skipSeq | apply WK.skipBlock | apply WK.retSeq | apply WK.retBlock | apply WK.exitSeq | apply WK.exitHere | refine WK.exitOn rfl ?_ | ((first | (refine WK.rgn ?_ ?_; kernel_rfl) | refine AtCall.now ?_); simp (config := { maxSteps := 1000000 }) only [SS, forall_const, wx, tguard, acallee, top, tval, fput, tor, vsh, vbin, tload, tload2, tload3, tidx, tidx2, tidx3, tfa, tfa2, tlen2, tlen3, tpick, tbox, one, Int.reduceEq, Int.reduceNeg, Nat.reduceGT, Nat.reduceLT, Nat.reduceLeDiff, Nat.reduceEqDiff, ↓reduceIte, reduceCtorEq, Int.reduceToNat, Int.reduceLE, Int.reduceLT, Nat.reduceAdd, Nat.reduceMul, hA2, hB, v0, v4, v5, v8, aop_spq, spN, e1, e2, decide_false, Bool.false_and, Bool.not_false, ff_26]) | (refine WK.condT ?_ ?_; focus (simp only [ev_tmp, ev_const, fset_apply, Nat.reduceEqDiff, ↓reduceIte, decide_true, decide_false, hA2, hB, v0, v4, v5, v8, aop_spq, spN, e1, e2, decide_false, Bool.false_and, Bool.not_false, ff_26]; done)) | (refine WK.condF ?_ ?_; focus (simp only [ev_tmp, ev_const, fset_apply, Nat.reduceEqDiff, ↓reduceIte, decide_true, decide_false, hA2, hB, v0, v4, v5, v8, aop_spq, spN, e1, e2, decide_false, Bool.false_and, Bool.not_false, ff_26]; done)))
      (first | refine WK.retNil ⟨Or.inr rfl, _, rfl, ?_, ?_⟩ | refine WK.skipNil ⟨Or.inl rfl, _, rfl, ?_, ?_⟩)
      · exact k12.keep
      · simp only [packed, fset_apply, Nat.reduceEqDiff, ↓reduceIte, List.getD_cons_zero, List.getD_cons_succ, hne, decide_false, ff_26]
  · have hne : a.1 ≠ b.1 := fun h => e1 (by rw [h])
    repeat (first | apply WK.seq | apply WK.block | apply WK.skipSeq | apply WK.skipBlock | apply WK.retSeq | apply WK.retBlock | apply WK.exitSeq | apply WK.exitHere | refine WK.exitOn rfl ?_ | ((first | (refine WK.rgn ?_ ?_; kernel_rfl) | refine AtCall.now ?_); simp (config := { maxSteps := 1000000 }) only [SS, forall_const, wx, tguard, acallee, top, tval, fput, tor, vsh, vbin, tload, tload2, tload3, tidx, tidx2, tidx3, tfa, tfa2, tlen2, tlen3, tpick, tbox, one, Int.reduceEq, Int.reduceNeg, Nat.reduceGT, Nat.reduceLT, Nat.reduceLeDiff, Nat.reduceEqDiff, ↓reduceIte, reduceCtorEq, Int.reduceToNat, Int.reduceLE, Int.reduceLT, Nat.reduceAdd, Nat.reduceMul, hA2, hB, v0, v4, v5, v8, aop_spq, spN, e1, ff_26]) | (refine WK.condT ?_ ?_; focus (simp only [ev_tmp, ev_const, fset_apply, Nat.reduceEqDiff, ↓reduceIte, decide_true, decide_false, hA2, hB, v0, v4, v5, v8, aop_spq, spN, e1, ff_26]; done)) | (refine WK.condF ?_ ?_; focus (simp only [ev_tmp, ev_const, fset_apply, Nat.reduceEqDiff, ↓reduceIte, decide_true, decide_false, hA2, hB, v0, v4, v5, v8, aop_spq, spN, e1, ff_26]; done)))
    (first | refine WK.retNil ⟨Or.inr rfl, _, rfl, ?_, ?_⟩ | refine WK.skipNil ⟨Or.inl rfl, _, rfl, ?_, ?_⟩)
    · exact k12.keep
    · simp only [packed, fset_apply, Nat.reduceEqDiff, ↓reduceIte, List.getD_cons_zero, List.getD_cons_succ, hne, decide_false, ff_26]
end Go.Proofs.Ytfbdababcdfjfaa

namespace Go.Proofs.Ytfbdababcdfjfaa
open Go.AM
set_option maxRecDepth 100000
def few (g : Gram) : Bool := decide (g.vars.length ≤ 8) && decide (g.terms.length ≤ 6) && decide (g.rules.length ≤ 24) && g.rules.all fun r => decide (r.right.length ≤ 8)
theorem few_gives {v : Value} {g : Gram} {n : Nat} {H : Heap} (hw : WF n H) (hg : RG H v g) (wg : WG g) :
    Gives Try.prog 32 [v] n H fun v _ _ => v = .bool (few g) := by
  obtain ⟨pt, pv, pr, rfl, ht, hv, hr⟩ := hg
  refine Gives.of orders ok32 (Nat.le_of_ble_eq_true rfl) ?_
  have hk := Kp.new n H (.cells (gcells pt pv pr g) 25 true)
  replace hr := hr.mono hw hk
  have hb := hset_at H n (.cells (gcells pt pv pr g) 25 true)
  repeat (first | apply WK.seq | apply WK.block | apply WK.skipSeq | apply WK.skipBlock | apply WK.retSeq | apply WK.retBlock | apply WK.exitSeq | apply WK.exitHere | refine WK.exitOn rfl ?_)
  (refine WK.rgn ?_ ?_; kernel_rfl; simp (config := { maxSteps := 1000000 }) only [SS, forall_const, wx, tguard, acallee, top, tval, fput, tor, vsh, vbin, tload, tload2, tload3, tidx, tidx2, tidx3, tfa, tfa2, tlen2, tlen3, tpick, tbox, one, Int.reduceEq, Int.reduceNeg, Nat.reduceGT, Nat.reduceLT, Nat.reduceLeDiff, Nat.reduceEqDiff, ↓reduceIte, reduceCtorEq, Int.reduceToNat, Int.reduceLE, Int.reduceLT, Nat.reduceAdd, Nat.reduceMul, abox, box_cells, box_one, ff_32])
  repeat (first | apply WK.seq | apply WK.block | apply WK.skipSeq | apply WK.skipBlock | apply WK.retSeq | apply WK.retBlock | apply WK.exitSeq | apply WK.exitHere | refine WK.exitOn rfl ?_)
  generalize hset H n (.cells (gcells pt pv pr g) 25 true) = H1 at *
  by_cases h1 : (8 : Int) < g.vars.length
  · repeat (first | apply WK.seq | apply WK.block | apply WK.skipSeq | apply WK.skipBlock | apply WK.retSeq | apply WK.retBlock | apply WK.exitSeq | apply WK.exitHere | refine WK.exitOn rfl ?_ | ((first | (refine WK.rgn ?_ ?_; kernel_rfl) | refine AtCall.now ?_); simp (config := { maxSteps := 1000000 }) only [SS, forall_const, wx, tguard, acallee, top, tval, fput, tor, vsh, vbin, tload, tload2, tload3, tidx, tidx2, tidx3, tfa, tfa2, tlen2, tlen3, tpick, tbox, one, Int.reduceEq, Int.reduceNeg, Nat.reduceGT, Nat.reduceLT, Nat.reduceLeDiff, Nat.reduceEqDiff, ↓reduceIte, reduceCtorEq, Int.reduceToNat, Int.reduceLE, Int.reduceLT, Nat.reduceAdd, Nat.reduceMul, hb, h1, gc_1, ff_32]) | (refine WK.condT ?_ ?_; focus (simp only [ev_tmp, ev_const, fset_apply, Nat.reduceEqDiff, ↓reduceIte, decide_true, decide_false, hb, h1, gc_1, ff_32]; done)) | (refine WK.condF ?_ ?_; focus (simp only [ev_tmp, ev_const, fset_apply, Nat.reduceEqDiff, ↓reduceIte, decide_true, decide_false, hb, h1, gc_1, ff_32]; done)))
    (first | refine WK.retNil ⟨Or.inr rfl, _, rfl, ?_, ?_⟩ | refine WK.skipNil ⟨Or.inl rfl, _, rfl, ?_, ?_⟩)
    · exact hk.keep
    · simp only [packed, fset_apply, Nat.reduceEqDiff, ↓reduceIte, List.getD_cons_zero, List.getD_cons_succ, few, ff_32]
      simp; omega
  by_cases h2 : (6 : Int) < g.terms.length
  · repeat (first | apply WK.seq | apply WK.block | apply WK.skipSeq | apply WK.skipBlock | apply WK.retSeq | apply WK.retBlock | apply WK.exitSeq | apply WK.exitHere | refine WK.exitOn rfl ?_ | ((first | (refine WK.rgn ?_ ?_; kernel_rfl) | refine AtCall.now ?_); simp (config := { maxSteps := 1000000 }) only [SS, forall_const, wx, tguard, acallee, top, tval, fput, tor, vsh, vbin, tload, tload2, tload3, tidx, tidx2, tidx3, tfa, tfa2, tlen2, tlen3, tpick, tbox, one, Int.reduceEq, Int.reduceNeg, Nat.reduceGT, Nat.reduceLT, Nat.reduceLeDiff, Nat.reduceEqDiff, ↓reduceIte, reduceCtorEq, Int.reduceToNat, Int.reduceLE, Int.reduceLT, Nat.reduceAdd, Nat.reduceMul, hb, h1, h2, gc_1, gc_0, ff_32]) | (refine WK.condT ?_ ?_; focus (simp only [ev_tmp, ev_const, fset_apply, Nat.reduceEqDiff, ↓reduceIte, decide_true, decide_false, hb, h1, h2, gc_1, gc_0, ff_32]; done)) | (refine WK.condF ?_ ?_; focus (simp only [ev_tmp, ev_const, fset_apply, Nat.reduceEqDiff, ↓reduceIte, decide_true, decide_false, hb, h1, h2, gc_1, gc_0, ff_32]; done)))
    (first | refine WK.retNil ⟨Or.inr rfl, _, rfl, ?_, ?_⟩ | refine WK.skipNil ⟨Or.inl rfl, _, rfl, ?_, ?_⟩)
    · exact hk.keep
    · simp only [packed, fset_apply, Nat.reduceEqDiff, ↓reduceIte, List.getD_cons_zero, List.getD_cons_succ, few, ff_32]
      simp; omega
  by_cases h3 : (24 : Int) < g.rules.length
  · repeat (first | apply WK.seq | apply WK.block | apply WK.skipSeq | apply WK.skipBlock | apply WK.retSeq | apply WK.retBlock | apply WK.exitSeq | apply WK.exitHere | refine WK.exitOn rfl ?_ | ((first | (refine WK.rgn ?_ ?_; kernel_rfl) | refine AtCall.now ?_); simp (config := { maxSteps := 1000000 }) only [SS, forall_const, wx, tguard, acallee, top, tval, fput, tor, vsh, vbin, tload, tload2, tload3, tidx, tidx2, tidx3, tfa, tfa2, tlen2, tlen3, tpick, tbox, one, Int.reduceEq, Int.reduceNeg, Nat.reduceGT, Nat.reduceLT, Nat.reduceLeDiff, Nat.reduceEqDiff, ↓reduceIte, reduceCtorEq, Int.reduceToNat, Int.reduceLE, Int.reduceLT, Nat.reduceAdd, Nat.reduceMul, hb, h1, h2, h3, gc_1, gc_0, gc_2, ff_32]) | (refine WK.condT ?_ ?_; focus (simp only [ev_tmp, ev_const, fset_apply, Nat.reduceEqDiff, ↓reduceIte, decide_true, decide_false, hb, h1, h2, h3, gc_1, gc_0, gc_2, ff_32]; done)) | (refine WK.condF ?_ ?_; focus (simp only [ev_tmp, ev_const, fset_apply, Nat.reduceEqDiff, ↓reduceIte, decide_true, decide_false, hb, h1, h2, h3, gc_1, gc_0, gc_2, ff_32]; done)))
    (first | refine WK.retNil ⟨Or.inr rfl, _, rfl, ?_, ?_⟩ | refine WK.skipNil ⟨Or.inl rfl, _, rfl, ?_, ?_⟩)
    · exact hk.keep
    · simp only [packed, fset_apply, Nat.reduceEqDiff, ↓reduceIte, List.getD_cons_zero, List.getD_cons_succ, few, ff_32]
      simp; omega
  repeat (first | apply WK.seq | apply WK.block | apply WK.skipSeq | apply WK.skipBlock | apply WK.retSeq | apply WK.retBlock | apply WK.exitSeq | apply WK.exitHere | refine WK.exitOn rfl ?_ | ((first | (refine WK.rgn ?_ ?_; kernel_rfl) | refine AtCall.now ?_); simp (config := { maxSteps := 1000000 }) only [SS, forall_const, wx, tguard, acallee, top, tval, fput, tor, vsh, vbin, tload, tload2, tload3, tidx, tidx2, tidx3, tfa, tfa2, tlen2, tlen3, tpick, tbox, one, Int.reduceEq, Int.reduceNeg, Nat.reduceGT, Nat.reduceLT, Nat.reduceLeDiff, Nat.reduceEqDiff, ↓reduceIte, reduceCtorEq, Int.reduceToNat, Int.reduceLE, Int.reduceLT, Nat.reduceAdd, Nat.reduceMul, hb, h1, h2, h3, gc_1, gc_0, gc_2, ff_32]) | (refine WK.condT ?_ ?_; focus (simp only [ev_tmp, ev_const, fset_apply, Nat.reduceEqDiff, ↓reduceIte, decide_true, decide_false, hb, h1, h2, h3, gc_1, gc_0, gc_2, ff_32]; done)) | (refine WK.condF ?_ ?_; focus (simp only [ev_tmp, ev_const, fset_apply, Nat.reduceEqDiff, ↓reduceIte, decide_true, decide_false, hb, h1, h2, h3, gc_1, gc_0, gc_2, ff_32]; done)))
  refine WK.loop (fun k s => ∃ i, s.n = n + 1 ∧ s.H = H1 ∧ s.f 1 = .pointer (some ⟨n, 0, none⟩) ∧ s.f 3 = .int .i64 (i : Nat) ∧ i ≤ g.rules.length ∧ k = g.rules.length - i ∧ ∀ r ∈ g.rules.take i, r.right.length ≤ 8) g.rules.length ?_ ?_
  · exact ⟨0, rfl, rfl, rfl, rfl, Nat.zero_le _, rfl, by simp⟩
  rintro k ⟨f, n', H'⟩ ⟨i, rfl, rfl, f1, f3, hi, rfl, hall⟩ ih
  simp only at f1 f3 ih hr hb
  by_cases hir : i < g.rules.length
  · obtain ⟨x, k, cs, ty, own, p, rfl, hx, c0, c1, c2, hp⟩ := hr.at hir
    by_cases h8 : (8 : Int) < g.rules[i].right.length
    · repeat (first | apply WK.seq | apply WK.block | apply WK.skipSeq | apply WK.skipBlock | apply WK.retSeq | apply WK.retBlock | apply WK.exitSeq | apply WK.exitHere | refine WK.exitOn rfl ?_ | ((first | (refine WK.rgn ?_ ?_; kernel_rfl) | refine AtCall.now ?_); simp (config := { maxSteps := 1000000 }) only [SS, forall_const, wx, tguard, acallee, top, tval, fput, tor, vsh, vbin, tload, tload2, tload3, tidx, tidx2, tidx3, tfa, tfa2, tlen2, tlen3, tpick, tbox, one, Int.reduceEq, Int.reduceNeg, Nat.reduceGT, Nat.reduceLT, Nat.reduceLeDiff, Nat.reduceEqDiff, ↓reduceIte, reduceCtorEq, Int.reduceToNat, Int.reduceLE, Int.reduceLT, Nat.reduceAdd, Nat.reduceMul, f1, f3, hb, gc_2, hir, hx, c1, h8, ff_32]) | (refine WK.condT ?_ ?_; focus (simp only [ev_tmp, ev_const, fset_apply, Nat.reduceEqDiff, ↓reduceIte, decide_true, decide_false, f1, f3, hb, gc_2, hir, hx, c1, h8, ff_32]; done)) | (refine WK.condF ?_ ?_; focus (simp only [ev_tmp, ev_const, fset_apply, Nat.reduceEqDiff, ↓reduceIte, decide_true, decide_false, f1, f3, hb, gc_2, hir, hx, c1, h8, ff_32]; done)))
      (first | refine WK.retNil ⟨Or.inr rfl, _, rfl, ?_, ?_⟩ | refine WK.skipNil ⟨Or.inl rfl, _, rfl, ?_, ?_⟩)
      · exact hk.keep
      · simp only [packed, fset_apply, Nat.reduceEqDiff, ↓reduceIte, List.getD_cons_zero, List.getD_cons_succ, few, ff_32]
        have : g.rules.all (fun r => decide (r.right.length ≤ 8)) = false := by
          rw [List.all_eq_false]; exact ⟨g.rules[i], List.getElem_mem hir, by simp; omega⟩
        rw [this]; simp
    · repeat (first | apply WK.seq | apply WK.block | apply WK.skipSeq | apply WK.skipBlock | apply WK.retSeq | apply WK.retBlock | apply WK.exitSeq | apply WK.exitHere | refine WK.exitOn rfl ?_ | ((first | (refine WK.rgn ?_ ?_; kernel_rfl) | refine AtCall.now ?_); simp (config := { maxSteps := 1000000 }) only [SS, forall_const, wx, tguard, acallee, top, tval, fput, tor, vsh, vbin, tload, tload2, tload3, tidx, tidx2, tidx3, tfa, tfa2, tlen2, tlen3, tpick, tbox, one, Int.reduceEq, Int.reduceNeg, Nat.reduceGT, Nat.reduceLT, Nat.reduceLeDiff, Nat.reduceEqDiff, ↓reduceIte, reduceCtorEq, Int.reduceToNat, Int.reduceLE, Int.reduceLT, Nat.reduceAdd, Nat.reduceMul, f1, f3, hb, gc_2, hir, hx, c1, h8, ff_32]) | (refine WK.condT ?_ ?_; focus (simp only [ev_tmp, ev_const, fset_apply, Nat.reduceEqDiff, ↓reduceIte, decide_true, decide_false, f1, f3, hb, gc_2, hir, hx, c1, h8, ff_32]; done)) | (refine WK.condF ?_ ?_; focus (simp only [ev_tmp, ev_const, fset_apply, Nat.reduceEqDiff, ↓reduceIte, decide_true, decide_false, f1, f3, hb, gc_2, hir, hx, c1, h8, ff_32]; done)))
      refine ih (g.rules.length - (i + 1)) (by omega) _ ⟨i + 1, rfl, rfl, f1, ?_, hir, rfl, ?_⟩
      · simp only [packed, fset_apply, Nat.reduceEqDiff, ↓reduceIte, List.getD_cons_zero, List.getD_cons_succ, ff_32]
        have := wg.rules; unfold maxL at this
        rw [wrap_in (by omega) (by omega)]; rfl
      · intro r hr'
        rw [List.take_succ_eq_append_getElem hir, List.mem_append] at hr'
        rcases hr' with hr' | hr'
        · exact hall r hr'
        · simp at hr'; subst hr'; omega
  · repeat (first | apply WK.seq | apply WK.block | apply WK.skipSeq | apply WK.skipBlock | apply WK.retSeq | apply WK.retBlock | apply WK.exitSeq | apply WK.exitHere | refine WK.exitOn rfl ?_ | ((first | (refine WK.rgn ?_ ?_; kernel_rfl) | refine AtCall.now ?_); simp (config := { maxSteps := 1000000 }) only [SS, forall_const, wx, tguard, acallee, top, tval, fput, tor, vsh, vbin, tload, tload2, tload3, tidx, tidx2, tidx3, tfa, tfa2, tlen2, tlen3, tpick, tbox, one, Int.reduceEq, Int.reduceNeg, Nat.reduceGT, Nat.reduceLT, Nat.reduceLeDiff, Nat.reduceEqDiff, ↓reduceIte, reduceCtorEq, Int.reduceToNat, Int.reduceLE, Int.reduceLT, Nat.reduceAdd, Nat.reduceMul, f1, f3, hb, gc_2, hir, ff_32]) | (refine WK.condT ?_ ?_; focus (simp only [ev_tmp, ev_const, fset_apply, Nat.reduceEqDiff, ↓reduceIte, decide_true, decide_false, f1, f3, hb, gc_2, hir, ff_32]; done)) | (refine WK.condF ?_ ?_; focus (simp only [ev_tmp, ev_const, fset_apply, Nat.reduceEqDiff, ↓reduceIte, decide_true, decide_false, f1, f3, hb, gc_2, hir, ff_32]; done)))
    (first | refine WK.retNil ⟨Or.inr rfl, _, rfl, ?_, ?_⟩ | refine WK.skipNil ⟨Or.inl rfl, _, rfl, ?_, ?_⟩)
    · exact hk.keep
    · simp only [packed, fset_apply, Nat.reduceEqDiff, ↓reduceIte, List.getD_cons_zero, List.getD_cons_succ, few, ff_32]
      rw [List.take_of_length_le (by omega)] at hall
      have : g.rules.all (fun r => decide (r.right.length ≤ 8)) = true := by
        rw [List.all_eq_true]; exact fun r hr => by simpa using hall r hr
      rw [this]; simp; omega
end Go.Proofs.Ytfbdababcdfjfaa

namespace Go.Proofs.Ytfbdababcdfjfaa
open Go.AM
set_option maxRecDepth 100000
def kpB (us ws : List Bool) (r : GRule) : Bool := us.getD r.left.toNat false && prdB r.right ws
end Go.Proofs.Ytfbdababcdfjfaa
