/- A part of a proof. Its conditions: none. -/
import Derived.Test.YtgnmaekfiifepaaDoorAmMMiGlobs
import Derived.Test.YtgnmaekfiifepaaDoorAmD
import Derived.Test.YtgnmaekfiifepaaDoorAmC
set_option linter.all false
namespace Go.Proofs.YtgnmaekfiifepaaDoor
open Go.AM
set_option maxRecDepth 100000
theorem ext_noesc (y k : Nat) : aext Tryd.prog 24 [.pointer (some ⟨y, k, none⟩)] = some (.pointer (some ⟨y, k, none⟩)) := by
  have h : (match Tryd.prog.funcs[24]? with | some fn => fn.body.isNone && fn.origin == "" && fn.name == "internal/abi.NoEscape" | none => false) = true := by kernel_rfl
  unfold aext
  split at h
  · rename_i fn hf
    simp only [Bool.and_eq_true] at h
    simp [hf, h]
  · cases h
theorem auns_out {H : Heap} {o : Nat} {cs : List Value} {ty : TypeId} {own : Bool} (h : H o = .cells cs ty own) (hl : 0 < cs.length) : aunsafe Tryd.prog 47 58 H o 0 = some { v := .pointer (some ⟨o, 0, none⟩), rd := [o] } := by
  have h1 : Tryd.prog.underlying 47 = some (.pointer 50) := by kernel_rfl
  have h2 : Tryd.prog.underlying 58 = some .unsafePointer := by kernel_rfl
  have h3 : ((Tryd.prog.info? 50).map fun j => j.size) = some 2 := by kernel_rfl
  obtain ⟨j, hj, hs⟩ := Option.map_eq_some_iff.1 h3
  unfold aunsafe
  simp only [h1, h2, h, hj]
  rw [if_pos ⟨by omega, hl⟩]
theorem auns_in {H : Heap} {o : Nat} {cs : List Value} (h : H o = .cells cs 50 true) (hl : cs.length = 2) : aunsafe Tryd.prog 58 47 H o 0 = some { v := .pointer (some ⟨o, 0, none⟩), rd := [o] } := by
  have h1 : Tryd.prog.underlying 47 = some (.pointer 50) := by kernel_rfl
  have h2 : Tryd.prog.underlying 58 = some .unsafePointer := by kernel_rfl
  have h3 : ((Tryd.prog.info? 50).map fun j => j.size) = some 2 := by kernel_rfl
  obtain ⟨j, hj, hs⟩ := Option.map_eq_some_iff.1 h3
  unfold aunsafe
  simp only [h1, h2, h, hj]
  rw [if_pos ⟨trivial, by omega, by simp, by omega⟩]
def tusd : Value → Option Res
  | .slice (some ⟨y, k, none⟩) (_ + 1) _ => some { v := .pointer (some ⟨y, k, none⟩) }
  | _ => none
theorem aop_usd {P : Program} {f : Fr} {n : Nat} {H : Heap} {d : Option Nat} {x : Operand} {ts : Array TypeId} {ty : TypeId} {p : String} {af : Array Edge} {gd : Option (Nat × Bool)} :
    aop P (evalA f) n H ⟨d, .call { callee := .builtin .unsafeSliceData, args := #[x], argTypes := ts }, ty, p, af, gd⟩ = tusd (evalA f x) := by
  unfold aop tusd
  rfl
theorem aop_ust {P : Program} {f : Fr} {n : Nat} {H : Heap} {d : Option Nat} {x y : Operand} {ts : Array TypeId} {ty : TypeId} {p : String} {af : Array Edge} {gd : Option (Nat × Bool)} :
    aop P (evalA f) n H ⟨d, .call { callee := .builtin .unsafeString, args := #[x, y], argTypes := ts }, ty, p, af, gd⟩ = aunstr P H ts (evalA f x) (evalA f y) := rfl
theorem tusd_some {y k m : Nat} (h : 0 < m) : tusd (.slice (some ⟨y, k, none⟩) m m) = some { v := .pointer (some ⟨y, k, none⟩) } := by
  cases m with
  | zero => omega
  | succ m => rfl
theorem rs_v (a : Value) : ({ v := a } : Res).v = a := rfl
theorem rs_n (a : Value) (n : Nat) : ({ v := a } : Res).next n = n := rfl
theorem rs_h (a : Value) (n : Nat) (H : Heap) : ({ v := a } : Res).heap n H = H := rfl
theorem aeq_nn : aeqNil Tryd.prog 47 (.pointer none) (.pointer none) = none := by kernel_rfl
theorem anan_nn : anan Tryd.prog .eql 47 (.pointer none) (.pointer none) = none := by kernel_rfl
theorem nil_nil {f : Fr} {n : Nat} {H : Heap} {d : Option Nat} {x : Operand} {u ty : TypeId} {p : String} {af : Array Edge} {gd : Option (Nat × Bool)} (hx : evalA f x = .pointer none) :
    aop Tryd.prog (evalA f) n H ⟨d, .binOp .eql 47 x (.const (.pointer none)) u, ty, p, af, gd⟩ = some { v := .bool true } := by
  have hc : evalA f (.const (.pointer none)) = .pointer none := rfl
  unfold aop
  simp only [hx, hc, aeq_nn, anan_nn]
  have ho : opFlat (evalA f) ⟨d, .binOp .eql 47 x (.const (.pointer none)) u, ty, p, af, gd⟩ = true := by
    simp [opFlat, Op.operands, hx, hc, flat, flat1]
  unfold aflat
  rw [if_pos ho]
  simp only [execOp, resolve, hx, hc]
  rfl
theorem aeq_pp (o : Nat) : aeqNil Tryd.prog 47 (.pointer (some ⟨o, 0, none⟩)) (.pointer (some ⟨o, 0, none⟩)) = some true := by
  have h1 : Tryd.prog.underlying 47 = some (.pointer 50) := by kernel_rfl
  have h3 : ((Tryd.prog.info? 50).map fun j => j.size) = some 2 := by kernel_rfl
  obtain ⟨j, hj, hs⟩ := Option.map_eq_some_iff.1 h3
  unfold aeqNil
  simp only [h1, hj]
  rw [if_pos ⟨trivial, by omega⟩]
  rfl
theorem pp_neq {f : Fr} {n o : Nat} {H : Heap} {d : Option Nat} {x y : Operand} {u ty : TypeId} {p : String} {af : Array Edge} {gd : Option (Nat × Bool)} (hx : evalA f x = .pointer (some ⟨o, 0, none⟩)) (hy : evalA f y = .pointer (some ⟨o, 0, none⟩)) :
    aop Tryd.prog (evalA f) n H ⟨d, .binOp .neq 47 x y u, ty, p, af, gd⟩ = some { v := .bool false } := by
  unfold aop
  simp only [hx, hy, aeq_pp]
  rfl
def bv8 (b : UInt8) : Value := .int .u8 (bI b)
def B0 (H : Heap) (o : Nat) : Prop := H o = .cells [.pointer none, .slice none 0 0] 50 true
structure Bs (H : Heap) (o y : Nat) (l : List UInt8) : Prop where
  ho : H o = .cells [.pointer (some ⟨o, 0, none⟩), .slice (some ⟨y, 0, none⟩) l.length l.length] 50 true
  ne : y ≠ o
  hy : H y = .cells (l.map bv8) 5 true ∨ H y = .frz (l.map bI) 5
  pos : 0 < l.length
  big : l.length ≤ 1000000
theorem check_gives {H : Heap} {o n : Nat} {a b : Value} (h : H o = .cells [a, b] 50 true) (ha : a = .pointer none ∨ a = .pointer (some ⟨o, 0, none⟩)) :
    GivesX Tryd.prog (fun z => z = o) 22 [.pointer (some ⟨o, 0, none⟩)] n H fun _ n' H' => n' = n ∧ H' o = .cells [.pointer (some ⟨o, 0, none⟩), b] 50 true := by
  refine GivesX.of orders ok22 (Nat.le_of_ble_eq_true rfl) ?_
  have h1 := auns_out h (by simp)
  have h2 := auns_in h rfl
  rcases ha with rfl | rfl
  · repeat (first | apply WK.seq | apply WK.block | apply WK.skipSeq | apply WK.skipBlock | apply WK.retSeq | apply WK.retBlock | apply WK.exitSeq | apply WK.exitHere | refine WK.exitOn rfl ?_ | ((first | (refine WK.rgn ?_ ?_; kernel_rfl) | refine AtCall.now ?_); simp (config := { maxSteps := 1000000 }) only [SS, forall_const, wx, tguard, acallee, top, tval, fput, tor, vsh, vbin, vconv, tload, tload2, tload3, tstore, tstore2, tstore3, Go.AM.splice, one, tfa, tfa2, Int.reduceEq, Int.reduceNeg, Nat.reduceGT, Nat.reduceLT, Nat.reduceLeDiff, Nat.reduceEqDiff, ↓reduceIte, reduceCtorEq, Int.reduceToNat, Int.reduceLE, Int.reduceLT, Nat.reduceAdd, Nat.reduceMul, h, aop_nc, tnc, ext_noesc, h1, h2, aop_cv, acv, nil_nil, ev_tmp, fset_apply, rs_v, rs_n, rs_h, ff_22]) | (refine WK.condT ?_ ?_; focus (simp only [ev_tmp, ev_const, fset_apply, Nat.reduceEqDiff, ↓reduceIte, decide_true, decide_false, h, aop_nc, tnc, ext_noesc, h1, h2, aop_cv, acv, nil_nil, ev_tmp, fset_apply, rs_v, rs_n, rs_h, ff_22]; done)) | (refine WK.condF ?_ ?_; focus (simp only [ev_tmp, ev_const, fset_apply, Nat.reduceEqDiff, ↓reduceIte, decide_true, decide_false, h, aop_nc, tnc, ext_noesc, h1, h2, aop_cv, acv, nil_nil, ev_tmp, fset_apply, rs_v, rs_n, rs_h, ff_22]; done)))
    refine WK.skipNil ⟨Or.inl rfl, _, rfl, fun z hz hX => hset_ne _ _ _ hX, ?_⟩
    simp only [packed, fset_apply, Nat.reduceEqDiff, ↓reduceIte, List.getD_cons_zero, List.getD_cons_succ, ff_22]
    exact ⟨trivial, hset_at _ _ _⟩
  · repeat (first | apply WK.seq | apply WK.block | apply WK.skipSeq | apply WK.skipBlock | apply WK.retSeq | apply WK.retBlock | apply WK.exitSeq | apply WK.exitHere | refine WK.exitOn rfl ?_ | ((first | (refine WK.rgn ?_ ?_; kernel_rfl) | refine AtCall.now ?_); simp (config := { maxSteps := 1000000 }) only [SS, forall_const, wx, tguard, acallee, top, tval, fput, tor, vsh, vbin, vconv, tload, tload2, tload3, tstore, tstore2, tstore3, Go.AM.splice, one, tfa, tfa2, Int.reduceEq, Int.reduceNeg, Nat.reduceGT, Nat.reduceLT, Nat.reduceLeDiff, Nat.reduceEqDiff, ↓reduceIte, reduceCtorEq, Int.reduceToNat, Int.reduceLE, Int.reduceLT, Nat.reduceAdd, Nat.reduceMul, h, aop_nc, tnc, rs_v, rs_n, rs_h, ff_22]) | (refine WK.condT ?_ ?_; focus (simp only [ev_tmp, ev_const, fset_apply, Nat.reduceEqDiff, ↓reduceIte, decide_true, decide_false, h, aop_nc, tnc, rs_v, rs_n, rs_h, ff_22]; done)) | (refine WK.condF ?_ ?_; focus (simp only [ev_tmp, ev_const, fset_apply, Nat.reduceEqDiff, ↓reduceIte, decide_true, decide_false, h, aop_nc, tnc, rs_v, rs_n, rs_h, ff_22]; done)))
    try dsimp only [fput, Res.next, Res.heap]
    have hpp := fun f d u ty p af gd hx hy => @pp_neq f n o H d (.tmp 17) (.tmp 18) u ty p af gd hx hy
    repeat (first | apply WK.seq | apply WK.block | apply WK.skipSeq | apply WK.skipBlock | apply WK.retSeq | apply WK.retBlock | apply WK.exitSeq | apply WK.exitHere | refine WK.exitOn rfl ?_ | ((first | (refine WK.rgn ?_ ?_; kernel_rfl) | refine AtCall.now ?_); simp (config := { maxSteps := 1000000 }) only [SS, forall_const, wx, tguard, acallee, top, tval, fput, tor, vsh, vbin, vconv, tload, tload2, tload3, tstore, tstore2, tstore3, Go.AM.splice, one, tfa, tfa2, Int.reduceEq, Int.reduceNeg, Nat.reduceGT, Nat.reduceLT, Nat.reduceLeDiff, Nat.reduceEqDiff, ↓reduceIte, reduceCtorEq, Int.reduceToNat, Int.reduceLE, Int.reduceLT, Nat.reduceAdd, Nat.reduceMul, h, aop_nc, tnc, hpp, ev_tmp, fset_apply, ff_22]) | (refine WK.condT ?_ ?_; focus (simp only [ev_tmp, ev_const, fset_apply, Nat.reduceEqDiff, ↓reduceIte, decide_true, decide_false, h, aop_nc, tnc, hpp, ev_tmp, fset_apply, ff_22]; done)) | (refine WK.condF ?_ ?_; focus (simp only [ev_tmp, ev_const, fset_apply, Nat.reduceEqDiff, ↓reduceIte, decide_true, decide_false, h, aop_nc, tnc, hpp, ev_tmp, fset_apply, ff_22]; done)))
    try dsimp only [fput, Res.next, Res.heap]
    repeat (first | apply WK.seq | apply WK.block | apply WK.skipSeq | apply WK.skipBlock | apply WK.retSeq | apply WK.retBlock | apply WK.exitSeq | apply WK.exitHere | refine WK.exitOn rfl ?_ | ((first | (refine WK.rgn ?_ ?_; kernel_rfl) | refine AtCall.now ?_); simp (config := { maxSteps := 1000000 }) only [SS, forall_const, wx, tguard, acallee, top, tval, fput, tor, vsh, vbin, vconv, tload, tload2, tload3, tstore, tstore2, tstore3, Go.AM.splice, one, tfa, tfa2, Int.reduceEq, Int.reduceNeg, Nat.reduceGT, Nat.reduceLT, Nat.reduceLeDiff, Nat.reduceEqDiff, ↓reduceIte, reduceCtorEq, Int.reduceToNat, Int.reduceLE, Int.reduceLT, Nat.reduceAdd, Nat.reduceMul, h, aop_nc, tnc, ff_22]) | (refine WK.condT ?_ ?_; focus (simp only [ev_tmp, ev_const, fset_apply, Nat.reduceEqDiff, ↓reduceIte, decide_true, decide_false, h, aop_nc, tnc, ff_22]; done)) | (refine WK.condF ?_ ?_; focus (simp only [ev_tmp, ev_const, fset_apply, Nat.reduceEqDiff, ↓reduceIte, decide_true, decide_false, h, aop_nc, tnc, ff_22]; done)))
    refine WK.skipNil ⟨Or.inl rfl, _, rfl, fun z hz hX => rfl, ?_⟩
    simp only [packed, fset_apply, Nat.reduceEqDiff, ↓reduceIte, List.getD_cons_zero, List.getD_cons_succ, ff_22]
    exact ⟨trivial, h⟩
theorem write_gives {H : Heap} {o y n : Nat} {l s : List UInt8} (hw : WF n H) (hs : 0 < s.length) (hsl : l.length + s.length ≤ 1000000) (ho : (l = [] ∧ B0 H o) ∨ (Bs H o y l ∧ H y = .cells (l.map bv8) 5 true)) :
    GivesX Tryd.prog (fun z => z = o ∨ (l ≠ [] ∧ z = y)) 19 [.pointer (some ⟨o, 0, none⟩), .string (BA s)] n H fun _ _ H' => ∃ y', n ≤ y' ∧ Bs H' o y' (l ++ s) ∧ H' y' = .cells ((l ++ s).map bv8) 5 true := by
  refine GivesX.of orders ok19 (Nat.le_of_ble_eq_true rfl) ?_
  obtain ⟨a, b, hab, ha, hb⟩ : ∃ a b, H o = .cells [a, b] 50 true ∧ (a = .pointer none ∨ a = .pointer (some ⟨o, 0, none⟩)) ∧ (l = [] ∧ b = .slice none 0 0 ∨ l ≠ [] ∧ y ≠ o ∧ b = .slice (some ⟨y, 0, none⟩) l.length l.length ∧ H y = .cells (l.map bv8) 5 true) := by
    rcases ho with ⟨h1, h2⟩ | ⟨h1, h2⟩
    · exact ⟨_, _, h2, .inl rfl, .inl ⟨h1, rfl⟩⟩
    · exact ⟨_, _, h1.ho, .inr rfl, .inr ⟨by intro e; have := h1.pos; rw [e] at this; exact absurd this (by simp), h1.ne, rfl, h2⟩⟩
  have hol : o < n := live_lt0 hw (by rw [hab]; intro e; cases e)
  repeat (first | apply WK.seq | apply WK.block | apply WK.skipSeq | apply WK.skipBlock | apply WK.retSeq | apply WK.retBlock | apply WK.exitSeq | apply WK.exitHere | refine WK.exitOn rfl ?_ | ((first | (refine WK.rgn ?_ ?_; kernel_rfl) | refine AtCall.now ?_); simp (config := { maxSteps := 1000000 }) only [SS, forall_const, wx, tguard, acallee, top, tval, fput, tload, tload2, tload3, tstore, tstore2, tstore3, Go.AM.splice, one, tfa, tfa2, tlen2, tlen3, tap, tap2, tap3, tap4, tsrc, tsrc2, Int.reduceEq, Int.reduceNeg, Nat.reduceGT, Nat.reduceLT, Nat.reduceLeDiff, Nat.reduceEqDiff, ↓reduceIte, reduceCtorEq, Int.reduceToNat, Int.reduceLE, Int.reduceLT, Nat.reduceAdd, Nat.reduceMul, ff_19]) | (refine WK.condT ?_ ?_; focus (simp only [ev_tmp, ev_const, fset_apply, Nat.reduceEqDiff, ↓reduceIte, decide_true, decide_false, ff_19]; done)) | (refine WK.condF ?_ ?_; focus (simp only [ev_tmp, ev_const, fset_apply, Nat.reduceEqDiff, ↓reduceIte, decide_true, decide_false, ff_19]; done)))
  refine AtCall.byX (check_gives hab ha) ?_
  rintro v n1 H1 k1 ⟨rfl, h1⟩
  have hsz : (BA s).size = s.length := ba_size s
  have hbig : s.length ≤ bigN := by unfold bigN; omega
  have hbig2 : l.length + s.length ≤ bigN := by unfold bigN; omega
  have hs0 : (s.length = 0) = False := by simp only [eq_iff_iff, iff_false]; omega
  have hdat : ((BA s).data.toList.map fun b => Value.int .u8 (b.toNat : Int)) = s.map bv8 := rfl
  rcases hb with ⟨rfl, rfl⟩ | ⟨hl0, hyo, rfl, hy⟩
  · have hnb : (bigN < s.length) = False := by simp only [eq_iff_iff, iff_false]; omega
    have hq : ∀ (H' : Heap) ob, hset H' n1 ob o = H' o := fun H' ob => hset_ne _ _ _ (by omega)
    simp (config := { maxSteps := 1000000 }) only [SS, forall_const, wx, tguard, acallee, top, tval, fput, tload, tload2, tload3, tstore, tstore2, tstore3, Go.AM.splice, one, tfa, tfa2, tlen2, tlen3, tap, tap2, tap3, tap4, tsrc, tsrc2, Int.reduceEq, Int.reduceNeg, Nat.reduceGT, Nat.reduceLT, Nat.reduceLeDiff, Nat.reduceEqDiff, ↓reduceIte, reduceCtorEq, Int.reduceToNat, Int.reduceLE, Int.reduceLT, Nat.reduceAdd, Nat.reduceMul, h1, aop_nc, tnc, hsz, hbig, hs0, hdat, hnb, hq, ff_19]
    repeat (first | apply WK.seq | apply WK.block | apply WK.skipSeq | apply WK.skipBlock | apply WK.retSeq | apply WK.retBlock | apply WK.exitSeq | apply WK.exitHere | refine WK.exitOn rfl ?_ | ((first | (refine WK.rgn ?_ ?_; kernel_rfl) | refine AtCall.now ?_); simp (config := { maxSteps := 1000000 }) only [SS, forall_const, wx, tguard, acallee, top, tval, fput, tload, tload2, tload3, tstore, tstore2, tstore3, Go.AM.splice, one, tfa, tfa2, tlen2, tlen3, tap, tap2, tap3, tap4, tsrc, tsrc2, Int.reduceEq, Int.reduceNeg, Nat.reduceGT, Nat.reduceLT, Nat.reduceLeDiff, Nat.reduceEqDiff, ↓reduceIte, reduceCtorEq, Int.reduceToNat, Int.reduceLE, Int.reduceLT, Nat.reduceAdd, Nat.reduceMul, h1, aop_nc, tnc, hsz, hbig, hs0, hdat, hnb, hq, ff_19]) | (refine WK.condT ?_ ?_; focus (simp only [ev_tmp, ev_const, fset_apply, Nat.reduceEqDiff, ↓reduceIte, decide_true, decide_false, h1, aop_nc, tnc, hsz, hbig, hs0, hdat, hnb, hq, ff_19]; done)) | (refine WK.condF ?_ ?_; focus (simp only [ev_tmp, ev_const, fset_apply, Nat.reduceEqDiff, ↓reduceIte, decide_true, decide_false, h1, aop_nc, tnc, hsz, hbig, hs0, hdat, hnb, hq, ff_19]; done)))
    refine WK.retNil ⟨Or.inr rfl, _, rfl, fun z hz hX => ?_, ?_⟩
    · have h2 : z ≠ o := fun e => hX e
      show hset (hset H1 n1 _) o _ z = H z
      rw [hset_ne _ _ _ h2, hset_ne _ _ _ (by omega), k1.keep z hz h2]
    · refine ⟨n1, Nat.le_refl _, ⟨?_, by omega, .inl ?_, by simpa using hs, by simpa using hsl⟩, ?_⟩
      · simp only [packed, fset_apply, Nat.reduceEqDiff, ↓reduceIte, List.getD_cons_zero, List.getD_cons_succ, ff_19]
        exact hset_at _ _ _
      · show hset (hset H1 n1 _) o _ n1 = _
        rw [hset_ne _ _ _ (by omega), hset_at]
      · show hset (hset H1 n1 _) o _ n1 = _
        rw [hset_ne _ _ _ (by omega), hset_at]
  · have hy1 : H1 y = .cells (l.map bv8) 5 true := by
      rw [k1.keep y (live_lt0 hw (by rw [hy]; intro e; cases e)) hyo, hy]
    have hyl : y < n1 := live_lt0 hw (by rw [hy]; intro e; cases e)
    have hq : ∀ (H' : Heap) ob, hset H' n1 ob o = H' o := fun H' ob => hset_ne _ _ _ (by omega)
    have hq2 : ∀ (H' : Heap) ob, hset H' y ob o = H' o := fun H' ob => hset_ne _ _ _ (Ne.symm hyo)
    have hml : (l.map bv8).length = l.length := List.length_map _
    have htk : (l.map bv8).take l.length = l.map bv8 := List.take_of_length_le (by simp)
    simp (config := { maxSteps := 1000000 }) only [SS, forall_const, wx, tguard, acallee, top, tval, fput, tload, tload2, tload3, tstore, tstore2, tstore3, Go.AM.splice, one, tfa, tfa2, tlen2, tlen3, tap, tap2, tap3, tap4, tsrc, tsrc2, Int.reduceEq, Int.reduceNeg, Nat.reduceGT, Nat.reduceLT, Nat.reduceLeDiff, Nat.reduceEqDiff, ↓reduceIte, reduceCtorEq, Int.reduceToNat, Int.reduceLE, Int.reduceLT, Nat.reduceAdd, Nat.reduceMul, h1, aop_nc, tnc, hsz, hbig, hs0, hdat, hy1, hbig2, hq, hq2, hml, List.contains_nil, Nat.le_refl, ff_19]
    repeat (first | apply WK.seq | apply WK.block | apply WK.skipSeq | apply WK.skipBlock | apply WK.retSeq | apply WK.retBlock | apply WK.exitSeq | apply WK.exitHere | refine WK.exitOn rfl ?_ | ((first | (refine WK.rgn ?_ ?_; kernel_rfl) | refine AtCall.now ?_); simp (config := { maxSteps := 1000000 }) only [SS, forall_const, wx, tguard, acallee, top, tval, fput, tload, tload2, tload3, tstore, tstore2, tstore3, Go.AM.splice, one, tfa, tfa2, tlen2, tlen3, tap, tap2, tap3, tap4, tsrc, tsrc2, Int.reduceEq, Int.reduceNeg, Nat.reduceGT, Nat.reduceLT, Nat.reduceLeDiff, Nat.reduceEqDiff, ↓reduceIte, reduceCtorEq, Int.reduceToNat, Int.reduceLE, Int.reduceLT, Nat.reduceAdd, Nat.reduceMul, h1, aop_nc, tnc, hsz, hbig, hs0, hdat, hy1, hbig2, hq, hq2, hml, List.contains_nil, Nat.le_refl, ff_19]) | (refine WK.condT ?_ ?_; focus (simp only [ev_tmp, ev_const, fset_apply, Nat.reduceEqDiff, ↓reduceIte, decide_true, decide_false, h1, aop_nc, tnc, hsz, hbig, hs0, hdat, hy1, hbig2, hq, hq2, hml, List.contains_nil, Nat.le_refl, ff_19]; done)) | (refine WK.condF ?_ ?_; focus (simp only [ev_tmp, ev_const, fset_apply, Nat.reduceEqDiff, ↓reduceIte, decide_true, decide_false, h1, aop_nc, tnc, hsz, hbig, hs0, hdat, hy1, hbig2, hq, hq2, hml, List.contains_nil, Nat.le_refl, ff_19]; done)))
    refine WK.retNil ⟨Or.inr rfl, _, rfl, fun z hz hX => ?_, ?_⟩
    · have h2 : z ≠ o := fun e => hX (.inl e)
      have h3 : z ≠ y := fun e => hX (.inr ⟨hl0, e⟩)
      show hset (hset (hset H1 y _) n1 _) o _ z = H z
      rw [hset_ne _ _ _ h2, hset_ne _ _ _ (by omega), hset_ne _ _ _ h3, k1.keep z hz h2]
    · have hap : (l.map bv8 ++ s.map bv8) = (l ++ s).map bv8 := by simp
      refine ⟨n1, Nat.le_refl _, ⟨?_, by omega, .inl ?_, by simp; omega, by simpa using hsl⟩, ?_⟩
      · simp only [packed, fset_apply, Nat.reduceEqDiff, ↓reduceIte, List.getD_cons_zero, List.getD_cons_succ, List.length_append, ff_19]
        exact hset_at _ _ _
      · show hset (hset (hset H1 y _) n1 _) o _ n1 = _
        rw [hset_ne _ _ _ (by omega), hset_at, ← hap, List.drop_zero, htk]
      · show hset (hset (hset H1 y _) n1 _) o _ n1 = _
        rw [hset_ne _ _ _ (by omega), hset_at, ← hap, List.drop_zero, htk]
theorem string_gives {H : Heap} {o y n : Nat} {l : List UInt8} (hw : WF n H) (hb : Bs H o y l) :
    GivesX Tryd.prog (fun z => z = y) 21 [.pointer (some ⟨o, 0, none⟩)] n H fun v n' H' => v = .string (BA l) ∧ n' = n ∧ Bs H' o y l := by
  refine GivesX.of orders ok21 (Nat.le_of_ble_eq_true rfl) ?_
  have ho := hb.ho
  have hus := tusd_some (y := y) (k := 0) hb.pos
  have hau : aunstr Tryd.prog H #[57, 3] (.pointer (some ⟨y, 0, none⟩)) (.int .i64 (l.length : Int)) = some { v := .string (BA l), wr := some (y, .frz (l.map bI) 5), rd := [y] } := by
    have h0 : ((Tryd.prog.underlying 57) = some (.pointer 5)) := by kernel_rfl
    have h3 : ((Tryd.prog.info? 5).map fun j => j.size) = some 1 := by kernel_rfl
    obtain ⟨j, hj, hs⟩ := Option.map_eq_some_iff.1 h3
    have hlb : (l.length : Int) ≤ bigN := by have := hb.big; unfold bigN; omega
    have hp : (0 : Int) < (l.length : Int) := by have := hb.pos; omega
    have hbt : bytesOf (l.map bv8) = some (l.map bI) := bytes_list l
    have htk : ((l.map bI).drop 0).take (l.length : Int).toNat = l.map bI := by rw [List.drop_zero, List.take_of_length_le (by simp)]
    unfold aunstr
    simp only [List.getElem?_toArray, List.getElem?_cons_zero, Option.bind_some, h0]
    rcases hb.hy with h | h
    · simp only [h, hj]
      rw [if_pos ⟨trivial, hs, hp, hlb, by simp⟩, hbt]
      simp only [Option.map_some, htk, nums_list]
    · simp only [h, hj]
      rw [if_pos ⟨trivial, hs, hp, hlb, by simp⟩]
      simp only [htk, nums_list]
  repeat (first | apply WK.seq | apply WK.block | apply WK.skipSeq | apply WK.skipBlock | apply WK.retSeq | apply WK.retBlock | apply WK.exitSeq | apply WK.exitHere | refine WK.exitOn rfl ?_ | ((first | (refine WK.rgn ?_ ?_; kernel_rfl) | refine AtCall.now ?_); simp (config := { maxSteps := 1000000 }) only [SS, forall_const, wx, tguard, acallee, top, tval, fput, tload, tload2, tload3, tfa, tfa2, tlen2, tlen3, Int.reduceEq, Int.reduceNeg, Nat.reduceGT, Nat.reduceLT, Nat.reduceLeDiff, Nat.reduceEqDiff, ↓reduceIte, reduceCtorEq, Int.reduceToNat, Int.reduceLE, Int.reduceLT, Nat.reduceAdd, Nat.reduceMul, ho, aop_nc, tnc, aop_usd, hus, aop_ust, hau, ff_21]) | (refine WK.condT ?_ ?_; focus (simp only [ev_tmp, ev_const, fset_apply, Nat.reduceEqDiff, ↓reduceIte, decide_true, decide_false, ho, aop_nc, tnc, aop_usd, hus, aop_ust, hau, ff_21]; done)) | (refine WK.condF ?_ ?_; focus (simp only [ev_tmp, ev_const, fset_apply, Nat.reduceEqDiff, ↓reduceIte, decide_true, decide_false, ho, aop_nc, tnc, aop_usd, hus, aop_ust, hau, ff_21]; done)))
  refine WK.retNil ⟨Or.inr rfl, _, rfl, fun z hz hX => hset_ne _ _ _ hX, ?_⟩
  simp only [packed, fset_apply, Nat.reduceEqDiff, ↓reduceIte, List.getD_cons_zero, List.getD_cons_succ, ff_21]
  exact ⟨trivial, trivial, by rw [hset_ne _ _ _ (Ne.symm hb.ne)]; exact ho, hb.ne, .inr (hset_at _ _ _), hb.pos, hb.big⟩
end Go.Proofs.YtgnmaekfiifepaaDoor
