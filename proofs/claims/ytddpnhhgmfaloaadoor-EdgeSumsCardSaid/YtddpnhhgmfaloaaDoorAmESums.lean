/- A part of a proof. Its conditions: none. -/
import Derived.Test.YtddpnhhgmfaloaaDoorAmEKey
set_option linter.all false
namespace Go.Proofs.YtddpnhhgmfaloaaDoor
open Go.AM
set_option maxRecDepth 100000

/-- A float, or one that is no number, whichever. -/
def fv : Option Nat → Value
  | some b => .float .f64 b
  | none => nanV
def plus (a : Option Nat) (b : Nat) : Option Nat := match a with
  | some a => FloatKind.f64.format.add a b
  | none => none
def sumF : List Nat → Option Nat
  | [] => some 0
  | x :: xs => xs.foldl plus (some x)

def abin (P : Program) (ρ : Operand → Value) (o : Oper) (op : BinOp) (t : TypeId) (x y : Value) : Option Res := match aeqNil P t x y with
  | some b => match op with
    | .eql => some { v := .bool b }
    | .neq => some { v := .bool (!b) }
    | _ => none
  | none => match anan P op t x y with
    | some v => some { v := v }
    | none => aflat P ρ o
theorem aop_bin {P : Program} {ρ : Operand → Value} {n : Nat} {H : Heap} {d : Option Nat} {op : BinOp} {t u : TypeId} {x y : Operand} {ty : TypeId} {p : String} {af : Array Edge} {gd : Option (Nat × Bool)} :
    aop P ρ n H ⟨d, .binOp op t x y u, ty, p, af, gd⟩ = abin P ρ ⟨d, .binOp op t x y u, ty, p, af, gd⟩ op t (ρ x) (ρ y) := rfl
theorem und_float : Tryd.prog.underlying 24 = some (.float .f64) := by kernel_rfl
theorem abin_plus {a : Option Nat} {b : Nat} (h : plus a b = none) (ρ : Operand → Value) (o : Oper) : abin Tryd.prog ρ o .add 24 (fv a) (.float .f64 b) = some { v := nanV } := by
  unfold abin
  have h0 : aeqNil Tryd.prog 24 (fv a) (.float .f64 b) = none := by
    unfold aeqNil; rw [und_float]
  rw [h0]
  simp only
  have h1 : anan Tryd.prog .add 24 (fv a) (.float .f64 b) = some nanV := by
    unfold anan
    rw [und_float]
    cases a with
    | none => rfl
    | some a =>
      simp only [fv, fop]
      have : Ieee.Format.add Ieee.double a b = none := h
      rw [this]
  rw [h1]
theorem vbin_plus {a : Option Nat} {b : Nat} (h : plus a b = none) : vbin Tryd.prog .add 24 (fv a) (.float .f64 b) = none := by
  cases a with
  | none => rfl
  | some a =>
    have : FloatKind.f64.format.add a b = none := h
    simp [fv, vbin, this]

theorem same_fv (r : Option Nat) (hr : ∀ b, r = some b → b < 18446744073709551616) (n : Nat) (H : Heap) : Gives Tryd.prog 12 [fv r, fv r] n H fun v n' H' => v = .bool true ∧ n' = n ∧ H' = H := by
  have hs : ∀ x y : Nat, x < 18446744073709551616 → y < 18446744073709551616 → keyZ x = keyZ y → sameB x y = true := by
    intro x y hx hy e
    unfold sameB
    rw [less_key hx hy, less_key hy hx, e]
    simp
  cases r with
  | some b =>
    have := sameB_gives b b n H
    rw [hs b b (hr b rfl) (hr b rfl) rfl] at this
    exact this
  | none =>
    refine ⟨.bool true, n, H, .nans fun l hl => ?_, Kp.refl n H, rfl, rfl, rfl⟩
    have nk : ∀ b, isNaNw b → b < 18446744073709551616 ∧ keyZ b = 18446744073709551615 := by
      intro b hb
      refine ⟨hb.1, ?_⟩
      have hnan : nanB b = true := by
        rw [nanB_eq hb.1]
        have h2 := hb.2
        rw [read_word] at h2
        simp only [decide_eq_true_eq]
        apply Classical.byContradiction
        intro hc
        split at h2
        · cases h2
        · split at h2
          · cases h2
          · split at h2
            · cases h2
            · omega
      unfold keyZ
      rw [realB_eq hb.1, hnan]
      rfl
    have go : ∀ b1 b2, isNaNw b1 → isNaNw b2 → BS Tryd.prog (.call 12 [.float .f64 b1, .float .f64 b2] n H) (.ret (.bool true) n H) := by
      intro b1 b2 h1 h2
      obtain ⟨v, n', H', hb, _, rfl, rfl, rfl⟩ := sameB_gives b1 b2 n H
      rw [hs b1 b2 (nk b1 h1).1 (nk b2 h2).1 (by rw [(nk b1 h1).2, (nk b2 h2).2])] at hb
      exact hb
    simp only [fv] at hl
    cases hl with
    | same _ hne _ => exact absurd rfl hne
    | nan b1 h1 hl =>
      cases hl with
      | same _ hne _ => exact absurd rfl hne
      | nan b2 h2 hl =>
        cases hl
        exact go b1 b2 h1 h2

abbrev fl (b : Nat) : Value := .float .f64 b
theorem fl_get {l : List Nat} {i : Nat} {b : Nat} (h : l[i]? = some b) : (l.map fl)[i]? = some (.float .f64 b) := by simp [h]

theorem sum_gives {x : Nat} {l : List Nat} {n : Nat} {H : Heap} (hx : H x = .cells (l.map fl) 24 true) (hlen : l.length ≤ maxL) :
    Gives Tryd.prog 15 [.slice (some ⟨x, 0, none⟩) l.length l.length] n H fun v n' H' => v = fv (sumF l) ∧ n' = n ∧ H' = H := by
  refine Gives.of orders ok15 (Nat.le_of_ble_eq_true rfl) ?_
-- function 15
  cases l with
  | nil =>
    repeat (first | apply WK.seq | apply WK.block | apply WK.skipSeq | apply WK.skipBlock | apply WK.retSeq | apply WK.retBlock | apply WK.exitSeq | apply WK.exitHere | refine WK.exitOn rfl ?_ | ((first | (refine WK.rgn ?_ ?_; kernel_rfl) | refine AtCall.now ?_); simp (config := { maxSteps := 1000000 }) only [SS, forall_const, wx, tguard, acallee, top, tval, fput, tor, vsh, vbin, tload, tload2, tload3, tidx, tidx2, tlen2, tsl, tsl2, tsl3, Go.AM.bound, Int.reduceEq, Int.reduceNeg, Nat.reduceGT, Nat.reduceLT, Nat.reduceLeDiff, Nat.reduceEqDiff, ↓reduceIte, reduceCtorEq, Int.reduceToNat, Int.reduceLE, Int.reduceLT, Nat.reduceAdd, Nat.reduceMul, List.length_nil, Int.natCast_zero, decide_true, ff_15]) | (refine WK.condT ?_ ?_; focus (simp only [ev_tmp, ev_const, fset_apply, Nat.reduceEqDiff, ↓reduceIte, decide_true, decide_false, List.length_nil, Int.natCast_zero, decide_true, ff_15]; done)) | (refine WK.condF ?_ ?_; focus (simp only [ev_tmp, ev_const, fset_apply, Nat.reduceEqDiff, ↓reduceIte, decide_true, decide_false, List.length_nil, Int.natCast_zero, decide_true, ff_15]; done)))
    (first | refine WK.retNil ⟨Or.inr rfl, _, rfl, ?_, ?_⟩ | refine WK.skipNil ⟨Or.inl rfl, _, rfl, ?_, ?_⟩)
    · exact fun _ _ => rfl
    · simp only [packed, fset_apply, Nat.reduceEqDiff, ↓reduceIte, List.getD_cons_zero, List.getD_cons_succ, sumF, fv, ff_15]
      simp
  | cons x0 xs =>
    have hne' : ((((x0 :: xs).length : Nat) : Int) = 0) = False := by simp only [List.length_cons, eq_iff_iff, iff_false]; omega
    have h00 : ((x0 :: xs).map fl)[0]? = some (Value.float .f64 x0) := rfl
    have hp0 : (0 : Int) < (((x0 :: xs).length : Nat) : Int) := by simp only [List.length_cons]; omega
    have hle : 1 ≤ (x0 :: xs).length := by simp
    have hget : ∀ i b, xs[i]? = some b → ((x0 :: xs).map fl)[1 + i]? = some (.float .f64 b) := fun i b h => by rw [Nat.add_comm]; simp [h]
    have hxl : (x0 :: xs).length - 1 = xs.length := by simp
    have hres : fv (sumF (x0 :: xs)) = fv (xs.foldl plus (some x0)) := rfl
    have h1 : isz Tryd.prog 24 = some 1 := by kernel_rfl
    rw [hres]
    simp only [List.length_cons] at hlen
    generalize (x0 :: xs).map fl = cs at *
    generalize (x0 :: xs).length = L at *
    repeat (first | apply WK.seq | apply WK.block | apply WK.skipSeq | apply WK.skipBlock | apply WK.retSeq | apply WK.retBlock | apply WK.exitSeq | apply WK.exitHere | refine WK.exitOn rfl ?_ | ((first | (refine WK.rgn ?_ ?_; kernel_rfl) | refine AtCall.now ?_); simp (config := { maxSteps := 1000000 }) only [SS, forall_const, wx, tguard, acallee, top, tval, fput, tor, vsh, vbin, tload, tload2, tload3, tidx, tidx2, tlen2, tsl, tsl2, tsl3, Go.AM.bound, Int.reduceEq, Int.reduceNeg, Nat.reduceGT, Nat.reduceLT, Nat.reduceLeDiff, Nat.reduceEqDiff, ↓reduceIte, reduceCtorEq, Int.reduceToNat, Int.reduceLE, Int.reduceLT, Nat.reduceAdd, Nat.reduceMul, hne', hx, h00, hp0, hle, hxl, h1, implies_true, ff_15]) | (refine WK.condT ?_ ?_; focus (simp only [ev_tmp, ev_const, fset_apply, Nat.reduceEqDiff, ↓reduceIte, decide_true, decide_false, hne', hx, h00, hp0, hle, hxl, h1, implies_true, ff_15]; done)) | (refine WK.condF ?_ ?_; focus (simp only [ev_tmp, ev_const, fset_apply, Nat.reduceEqDiff, ↓reduceIte, decide_true, decide_false, hne', hx, h00, hp0, hle, hxl, h1, implies_true, ff_15]; done)))
    refine WK.loop (fun k s => ∃ i, s.n = n ∧ s.H = H ∧ s.f 3 = fv ((xs.take i).foldl plus (some x0)) ∧ s.f 13 = .slice (some ⟨x, 1, none⟩) xs.length xs.length ∧ s.f 14 = .int .i64 (xs.length : Nat) ∧ s.f 15 = .int .i64 (i : Nat) ∧ i ≤ xs.length ∧ k = xs.length - i) xs.length ?_ ?_
    · exact ⟨0, rfl, rfl, rfl, rfl, rfl, rfl, Nat.zero_le _, rfl⟩
    rintro k ⟨f, n', H'⟩ ⟨i, rfl, rfl, h3, h13, h14, h15, hi, rfl⟩ ih
    simp only at h3 h13 h14 h15 ih hx
    by_cases hil : i < xs.length
    · have hb := hget i xs[i] (List.getElem?_eq_getElem hil)
      have hil' : ((i : Nat) : Int) < ((xs.length : Nat) : Int) := by omega
      have htk : (xs.take (i + 1)).foldl plus (some x0) = plus ((xs.take i).foldl plus (some x0)) xs[i] := by
        rw [List.take_succ_eq_append_getElem hil, List.foldl_append]; rfl
      generalize xs[i] = b at hb htk
      generalize hacc : (xs.take i).foldl plus (some x0) = acc at h3 htk
      cases hp : plus acc b with
      | none =>
        cases acc with
        | none =>
          have e2 : ∀ ρ o, abin Tryd.prog ρ o .add 24 (.complex .f64 0 0) (.float .f64 b) = some { v := nanV } := abin_plus hp
          have h3' : f 3 = .complex .f64 0 0 := h3
          repeat (first | apply WK.seq | apply WK.block | apply WK.skipSeq | apply WK.skipBlock | apply WK.retSeq | apply WK.retBlock | apply WK.exitSeq | apply WK.exitHere | refine WK.exitOn rfl ?_ | ((first | (refine WK.rgn ?_ ?_; kernel_rfl) | refine AtCall.now ?_); simp (config := { maxSteps := 1000000 }) only [SS, forall_const, wx, tguard, acallee, top, tval, fput, tor, vsh, vbin, tload, tload2, tload3, tidx, tidx2, tlen2, tsl, tsl2, tsl3, Go.AM.bound, Int.reduceEq, Int.reduceNeg, Nat.reduceGT, Nat.reduceLT, Nat.reduceLeDiff, Nat.reduceEqDiff, ↓reduceIte, reduceCtorEq, Int.reduceToNat, Int.reduceLE, Int.reduceLT, Nat.reduceAdd, Nat.reduceMul, h3', h13, h14, h15, hil, hil', hx, hb, e2, aop_bin, ff_15]) | (refine WK.condT ?_ ?_; focus (simp only [ev_tmp, ev_const, fset_apply, Nat.reduceEqDiff, ↓reduceIte, decide_true, decide_false, h3', h13, h14, h15, hil, hil', hx, hb, e2, aop_bin, ff_15]; done)) | (refine WK.condF ?_ ?_; focus (simp only [ev_tmp, ev_const, fset_apply, Nat.reduceEqDiff, ↓reduceIte, decide_true, decide_false, h3', h13, h14, h15, hil, hil', hx, hb, e2, aop_bin, ff_15]; done)))
          refine ih (xs.length - (i + 1)) (by omega) _ ⟨i + 1, rfl, rfl, ?_, h13, h14, ?_, hil, rfl⟩
          · rw [htk, hp]; rfl
          · simp only [packed, fset_apply, Nat.reduceEqDiff, ↓reduceIte, List.getD_cons_zero, List.getD_cons_succ, ff_15]
            unfold maxL at hlen; rw [wrap_in (by omega) (by omega)]; rfl
        | some a =>
          have hadd : FloatKind.f64.format.add a b = none := hp
          have e2 : ∀ ρ o, abin Tryd.prog ρ o .add 24 (.float .f64 a) (.float .f64 b) = some { v := nanV } := abin_plus hp
          have h3' : f 3 = .float .f64 a := h3
          repeat (first | apply WK.seq | apply WK.block | apply WK.skipSeq | apply WK.skipBlock | apply WK.retSeq | apply WK.retBlock | apply WK.exitSeq | apply WK.exitHere | refine WK.exitOn rfl ?_ | ((first | (refine WK.rgn ?_ ?_; kernel_rfl) | refine AtCall.now ?_); simp (config := { maxSteps := 1000000 }) only [SS, forall_const, wx, tguard, acallee, top, tval, fput, tor, vsh, vbin, tload, tload2, tload3, tidx, tidx2, tlen2, tsl, tsl2, tsl3, Go.AM.bound, Int.reduceEq, Int.reduceNeg, Nat.reduceGT, Nat.reduceLT, Nat.reduceLeDiff, Nat.reduceEqDiff, ↓reduceIte, reduceCtorEq, Int.reduceToNat, Int.reduceLE, Int.reduceLT, Nat.reduceAdd, Nat.reduceMul, h3', h13, h14, h15, hil, hil', hx, hb, hadd, Option.map_none, e2, aop_bin, ff_15]) | (refine WK.condT ?_ ?_; focus (simp only [ev_tmp, ev_const, fset_apply, Nat.reduceEqDiff, ↓reduceIte, decide_true, decide_false, h3', h13, h14, h15, hil, hil', hx, hb, hadd, Option.map_none, e2, aop_bin, ff_15]; done)) | (refine WK.condF ?_ ?_; focus (simp only [ev_tmp, ev_const, fset_apply, Nat.reduceEqDiff, ↓reduceIte, decide_true, decide_false, h3', h13, h14, h15, hil, hil', hx, hb, hadd, Option.map_none, e2, aop_bin, ff_15]; done)))
          refine ih (xs.length - (i + 1)) (by omega) _ ⟨i + 1, rfl, rfl, ?_, h13, h14, ?_, hil, rfl⟩
          · rw [htk, hp]; rfl
          · simp only [packed, fset_apply, Nat.reduceEqDiff, ↓reduceIte, List.getD_cons_zero, List.getD_cons_succ, ff_15]
            unfold maxL at hlen; rw [wrap_in (by omega) (by omega)]; rfl
      | some r =>
        cases acc with
        | none => cases hp
        | some a =>
          have hadd : FloatKind.f64.format.add a b = some r := hp
          have h3' : f 3 = .float .f64 a := h3
          repeat (first | apply WK.seq | apply WK.block | apply WK.skipSeq | apply WK.skipBlock | apply WK.retSeq | apply WK.retBlock | apply WK.exitSeq | apply WK.exitHere | refine WK.exitOn rfl ?_ | ((first | (refine WK.rgn ?_ ?_; kernel_rfl) | refine AtCall.now ?_); simp (config := { maxSteps := 1000000 }) only [SS, forall_const, wx, tguard, acallee, top, tval, fput, tor, vsh, vbin, tload, tload2, tload3, tidx, tidx2, tlen2, tsl, tsl2, tsl3, Go.AM.bound, Int.reduceEq, Int.reduceNeg, Nat.reduceGT, Nat.reduceLT, Nat.reduceLeDiff, Nat.reduceEqDiff, ↓reduceIte, reduceCtorEq, Int.reduceToNat, Int.reduceLE, Int.reduceLT, Nat.reduceAdd, Nat.reduceMul, h3', h13, h14, h15, hil, hil', hx, hb, hadd, Option.map_some, ff_15]) | (refine WK.condT ?_ ?_; focus (simp only [ev_tmp, ev_const, fset_apply, Nat.reduceEqDiff, ↓reduceIte, decide_true, decide_false, h3', h13, h14, h15, hil, hil', hx, hb, hadd, Option.map_some, ff_15]; done)) | (refine WK.condF ?_ ?_; focus (simp only [ev_tmp, ev_const, fset_apply, Nat.reduceEqDiff, ↓reduceIte, decide_true, decide_false, h3', h13, h14, h15, hil, hil', hx, hb, hadd, Option.map_some, ff_15]; done)))
          refine ih (xs.length - (i + 1)) (by omega) _ ⟨i + 1, rfl, rfl, ?_, h13, h14, ?_, hil, rfl⟩
          · rw [htk, hp]; rfl
          · simp only [packed, fset_apply, Nat.reduceEqDiff, ↓reduceIte, List.getD_cons_zero, List.getD_cons_succ, ff_15]
            unfold maxL at hlen; rw [wrap_in (by omega) (by omega)]; rfl
    · have hil' : ¬ (((i : Nat) : Int) < ((xs.length : Nat) : Int)) := by omega
      repeat (first | apply WK.seq | apply WK.block | apply WK.skipSeq | apply WK.skipBlock | apply WK.retSeq | apply WK.retBlock | apply WK.exitSeq | apply WK.exitHere | refine WK.exitOn rfl ?_ | ((first | (refine WK.rgn ?_ ?_; kernel_rfl) | refine AtCall.now ?_); simp (config := { maxSteps := 1000000 }) only [SS, forall_const, wx, tguard, acallee, top, tval, fput, tor, vsh, vbin, tload, tload2, tload3, tidx, tidx2, tlen2, tsl, tsl2, tsl3, Go.AM.bound, Int.reduceEq, Int.reduceNeg, Nat.reduceGT, Nat.reduceLT, Nat.reduceLeDiff, Nat.reduceEqDiff, ↓reduceIte, reduceCtorEq, Int.reduceToNat, Int.reduceLE, Int.reduceLT, Nat.reduceAdd, Nat.reduceMul, h3, h14, h15, hil', hil, ff_15]) | (refine WK.condT ?_ ?_; focus (simp only [ev_tmp, ev_const, fset_apply, Nat.reduceEqDiff, ↓reduceIte, decide_true, decide_false, h3, h14, h15, hil', hil, ff_15]; done)) | (refine WK.condF ?_ ?_; focus (simp only [ev_tmp, ev_const, fset_apply, Nat.reduceEqDiff, ↓reduceIte, decide_true, decide_false, h3, h14, h15, hil', hil, ff_15]; done)))
      (first | refine WK.retNil ⟨Or.inr rfl, _, rfl, ?_, ?_⟩ | refine WK.skipNil ⟨Or.inl rfl, _, rfl, ?_, ?_⟩)
      · exact fun _ _ => rfl
      · simp only [packed, fset_apply, Nat.reduceEqDiff, ↓reduceIte, List.getD_cons_zero, List.getD_cons_succ, ff_15]
        rw [List.take_of_length_le (by omega)]
        simp

theorem sumF_snoc (l : List Nat) (b : Nat) (h : l ≠ []) : sumF (l ++ [b]) = plus (sumF l) b := by
  cases l with
  | nil => exact absurd rfl h
  | cons x xs => show (xs ++ [b]).foldl plus (some x) = plus (xs.foldl plus (some x)) b; rw [List.foldl_append]; rfl

theorem rsum_gives {x : Nat} {l : List Nat} {n : Nat} {H : Heap} (hx : H x = .cells (l.map fl) 24 true) (hlen : l.length ≤ maxL) :
    Gives Tryd.prog 16 [.slice (some ⟨x, 0, none⟩) l.length l.length] n H fun v n' H' => v = fv (sumF l) ∧ n' = n ∧ H' = H := by
  refine Gives.of orders ok16 (Nat.le_of_ble_eq_true rfl) ?_
-- function 16
  repeat (first | apply WK.seq | apply WK.block | apply WK.skipSeq | apply WK.skipBlock | apply WK.retSeq | apply WK.retBlock | apply WK.exitSeq | apply WK.exitHere | refine WK.exitOn rfl ?_ | ((first | (refine WK.rgn ?_ ?_; kernel_rfl) | refine AtCall.now ?_); simp (config := { maxSteps := 1000000 }) only [SS, forall_const, wx, tguard, acallee, top, tval, fput, tor, vsh, vbin, tload, tload2, tload3, tidx, tidx2, tlen2, Int.reduceEq, Int.reduceNeg, Nat.reduceGT, Nat.reduceLT, Nat.reduceLeDiff, Nat.reduceEqDiff, ↓reduceIte, reduceCtorEq, Int.reduceToNat, Int.reduceLE, Int.reduceLT, Nat.reduceAdd, Nat.reduceMul, ff_16]) | (refine WK.condT ?_ ?_; focus (simp only [ev_tmp, ev_const, fset_apply, Nat.reduceEqDiff, ↓reduceIte, decide_true, decide_false, ff_16]; done)) | (refine WK.condF ?_ ?_; focus (simp only [ev_tmp, ev_const, fset_apply, Nat.reduceEqDiff, ↓reduceIte, decide_true, decide_false, ff_16]; done)))
  refine WK.loop (fun k s => ∃ i, s.n = n ∧ s.H = H ∧ s.f 3 = fv (sumF (l.take i)) ∧ s.f 0 = .slice (some ⟨x, 0, none⟩) l.length l.length ∧ s.f 4 = .int .i64 (i : Nat) ∧ i ≤ l.length ∧ k = l.length - i) l.length ?_ ?_
  · exact ⟨0, rfl, rfl, rfl, rfl, rfl, Nat.zero_le _, rfl⟩
  rintro k ⟨f, n', H'⟩ ⟨i, rfl, rfl, h3, h0, h4, hi, rfl⟩ ih
  simp only at h3 h0 h4 ih hx
  by_cases hil : i < l.length
  · have hil' : ((i : Nat) : Int) < ((l.length : Nat) : Int) := by omega
    have hb : (l.map fl)[i]? = some (.float .f64 l[i]) := fl_get (List.getElem?_eq_getElem hil)
    by_cases hi0 : i = 0
    · subst hi0
      have hz : (((0 : Nat) : Int) = 0) = True := by simp
      have hp0 : (0 : Int) < ((l.length : Nat) : Int) := by omega
      have htk : sumF (l.take (0 + 1)) = some l[0] := by
        rw [List.take_succ_eq_append_getElem hil]; rfl
      generalize l[0] = b at hb htk
      repeat (first | apply WK.seq | apply WK.block | apply WK.skipSeq | apply WK.skipBlock | apply WK.retSeq | apply WK.retBlock | apply WK.exitSeq | apply WK.exitHere | refine WK.exitOn rfl ?_ | ((first | (refine WK.rgn ?_ ?_; kernel_rfl) | refine AtCall.now ?_); simp (config := { maxSteps := 1000000 }) only [SS, forall_const, wx, tguard, acallee, top, tval, fput, tor, vsh, vbin, tload, tload2, tload3, tidx, tidx2, tlen2, Int.reduceEq, Int.reduceNeg, Nat.reduceGT, Nat.reduceLT, Nat.reduceLeDiff, Nat.reduceEqDiff, ↓reduceIte, reduceCtorEq, Int.reduceToNat, Int.reduceLE, Int.reduceLT, Nat.reduceAdd, Nat.reduceMul, h3, h0, h4, hil, hil', hx, hb, hz, hp0, ff_16]) | (refine WK.condT ?_ ?_; focus (simp only [ev_tmp, ev_const, fset_apply, Nat.reduceEqDiff, ↓reduceIte, decide_true, decide_false, h3, h0, h4, hil, hil', hx, hb, hz, hp0, ff_16]; done)) | (refine WK.condF ?_ ?_; focus (simp only [ev_tmp, ev_const, fset_apply, Nat.reduceEqDiff, ↓reduceIte, decide_true, decide_false, h3, h0, h4, hil, hil', hx, hb, hz, hp0, ff_16]; done)))
      refine ih (l.length - (0 + 1)) (by omega) _ ⟨0 + 1, rfl, rfl, ?_, h0, ?_, hil, rfl⟩
      · rw [htk]; rfl
      · simp only [packed, fset_apply, Nat.reduceEqDiff, ↓reduceIte, List.getD_cons_zero, List.getD_cons_succ, h4, ff_16]
        unfold maxL at hlen; rw [wrap_in (by omega) (by omega)]; rfl
    · have hz : (((i : Nat) : Int) = 0) = False := by simp; omega
      have htk : sumF (l.take (i + 1)) = plus (sumF (l.take i)) l[i] := by
        rw [List.take_succ_eq_append_getElem hil, sumF_snoc _ _ (by
          intro e
          have := congrArg List.length e
          rw [List.length_take, List.length_nil] at this; omega)]
      generalize l[i] = b at hb htk
      generalize hacc : sumF (l.take i) = acc at h3 htk
      cases hp : plus acc b with
      | none =>
        cases acc with
        | none =>
          have e2 : ∀ ρ o, abin Tryd.prog ρ o .add 24 (.complex .f64 0 0) (.float .f64 b) = some { v := nanV } := abin_plus hp
          have h3' : f 3 = .complex .f64 0 0 := h3
          repeat (first | apply WK.seq | apply WK.block | apply WK.skipSeq | apply WK.skipBlock | apply WK.retSeq | apply WK.retBlock | apply WK.exitSeq | apply WK.exitHere | refine WK.exitOn rfl ?_ | ((first | (refine WK.rgn ?_ ?_; kernel_rfl) | refine AtCall.now ?_); simp (config := { maxSteps := 1000000 }) only [SS, forall_const, wx, tguard, acallee, top, tval, fput, tor, vsh, vbin, tload, tload2, tload3, tidx, tidx2, tlen2, Int.reduceEq, Int.reduceNeg, Nat.reduceGT, Nat.reduceLT, Nat.reduceLeDiff, Nat.reduceEqDiff, ↓reduceIte, reduceCtorEq, Int.reduceToNat, Int.reduceLE, Int.reduceLT, Nat.reduceAdd, Nat.reduceMul, h3', h0, h4, hil, hil', hx, hb, hz, e2, aop_bin, ff_16]) | (refine WK.condT ?_ ?_; focus (simp only [ev_tmp, ev_const, fset_apply, Nat.reduceEqDiff, ↓reduceIte, decide_true, decide_false, h3', h0, h4, hil, hil', hx, hb, hz, e2, aop_bin, ff_16]; done)) | (refine WK.condF ?_ ?_; focus (simp only [ev_tmp, ev_const, fset_apply, Nat.reduceEqDiff, ↓reduceIte, decide_true, decide_false, h3', h0, h4, hil, hil', hx, hb, hz, e2, aop_bin, ff_16]; done)))
          refine ih (l.length - (i + 1)) (by omega) _ ⟨i + 1, rfl, rfl, ?_, h0, ?_, hil, rfl⟩
          · rw [htk, hp]; rfl
          · simp only [packed, fset_apply, Nat.reduceEqDiff, ↓reduceIte, List.getD_cons_zero, List.getD_cons_succ, h4, ff_16]
            unfold maxL at hlen; rw [wrap_in (by omega) (by omega)]; rfl
        | some a =>
          have hadd : FloatKind.f64.format.add a b = none := hp
          have e2 : ∀ ρ o, abin Tryd.prog ρ o .add 24 (.float .f64 a) (.float .f64 b) = some { v := nanV } := abin_plus hp
          have h3' : f 3 = .float .f64 a := h3
          repeat (first | apply WK.seq | apply WK.block | apply WK.skipSeq | apply WK.skipBlock | apply WK.retSeq | apply WK.retBlock | apply WK.exitSeq | apply WK.exitHere | refine WK.exitOn rfl ?_ | ((first | (refine WK.rgn ?_ ?_; kernel_rfl) | refine AtCall.now ?_); simp (config := { maxSteps := 1000000 }) only [SS, forall_const, wx, tguard, acallee, top, tval, fput, tor, vsh, vbin, tload, tload2, tload3, tidx, tidx2, tlen2, Int.reduceEq, Int.reduceNeg, Nat.reduceGT, Nat.reduceLT, Nat.reduceLeDiff, Nat.reduceEqDiff, ↓reduceIte, reduceCtorEq, Int.reduceToNat, Int.reduceLE, Int.reduceLT, Nat.reduceAdd, Nat.reduceMul, h3', h0, h4, hil, hil', hx, hb, hz, hadd, Option.map_none, e2, aop_bin, ff_16]) | (refine WK.condT ?_ ?_; focus (simp only [ev_tmp, ev_const, fset_apply, Nat.reduceEqDiff, ↓reduceIte, decide_true, decide_false, h3', h0, h4, hil, hil', hx, hb, hz, hadd, Option.map_none, e2, aop_bin, ff_16]; done)) | (refine WK.condF ?_ ?_; focus (simp only [ev_tmp, ev_const, fset_apply, Nat.reduceEqDiff, ↓reduceIte, decide_true, decide_false, h3', h0, h4, hil, hil', hx, hb, hz, hadd, Option.map_none, e2, aop_bin, ff_16]; done)))
          refine ih (l.length - (i + 1)) (by omega) _ ⟨i + 1, rfl, rfl, ?_, h0, ?_, hil, rfl⟩
          · rw [htk, hp]; rfl
          · simp only [packed, fset_apply, Nat.reduceEqDiff, ↓reduceIte, List.getD_cons_zero, List.getD_cons_succ, h4, ff_16]
            unfold maxL at hlen; rw [wrap_in (by omega) (by omega)]; rfl
      | some r =>
        cases acc with
        | none => cases hp
        | some a =>
          have hadd : FloatKind.f64.format.add a b = some r := hp
          have h3' : f 3 = .float .f64 a := h3
          repeat (first | apply WK.seq | apply WK.block | apply WK.skipSeq | apply WK.skipBlock | apply WK.retSeq | apply WK.retBlock | apply WK.exitSeq | apply WK.exitHere | refine WK.exitOn rfl ?_ | ((first | (refine WK.rgn ?_ ?_; kernel_rfl) | refine AtCall.now ?_); simp (config := { maxSteps := 1000000 }) only [SS, forall_const, wx, tguard, acallee, top, tval, fput, tor, vsh, vbin, tload, tload2, tload3, tidx, tidx2, tlen2, Int.reduceEq, Int.reduceNeg, Nat.reduceGT, Nat.reduceLT, Nat.reduceLeDiff, Nat.reduceEqDiff, ↓reduceIte, reduceCtorEq, Int.reduceToNat, Int.reduceLE, Int.reduceLT, Nat.reduceAdd, Nat.reduceMul, h3', h0, h4, hil, hil', hx, hb, hz, hadd, Option.map_some, ff_16]) | (refine WK.condT ?_ ?_; focus (simp only [ev_tmp, ev_const, fset_apply, Nat.reduceEqDiff, ↓reduceIte, decide_true, decide_false, h3', h0, h4, hil, hil', hx, hb, hz, hadd, Option.map_some, ff_16]; done)) | (refine WK.condF ?_ ?_; focus (simp only [ev_tmp, ev_const, fset_apply, Nat.reduceEqDiff, ↓reduceIte, decide_true, decide_false, h3', h0, h4, hil, hil', hx, hb, hz, hadd, Option.map_some, ff_16]; done)))
          refine ih (l.length - (i + 1)) (by omega) _ ⟨i + 1, rfl, rfl, ?_, h0, ?_, hil, rfl⟩
          · rw [htk, hp]; rfl
          · simp only [packed, fset_apply, Nat.reduceEqDiff, ↓reduceIte, List.getD_cons_zero, List.getD_cons_succ, h4, ff_16]
            unfold maxL at hlen; rw [wrap_in (by omega) (by omega)]; rfl
  · have hil' : ¬ (((i : Nat) : Int) < ((l.length : Nat) : Int)) := by omega
    repeat (first | apply WK.seq | apply WK.block | apply WK.skipSeq | apply WK.skipBlock | apply WK.retSeq | apply WK.retBlock | apply WK.exitSeq | apply WK.exitHere | refine WK.exitOn rfl ?_ | ((first | (refine WK.rgn ?_ ?_; kernel_rfl) | refine AtCall.now ?_); simp (config := { maxSteps := 1000000 }) only [SS, forall_const, wx, tguard, acallee, top, tval, fput, tor, vsh, vbin, tload, tload2, tload3, tidx, tidx2, tlen2, Int.reduceEq, Int.reduceNeg, Nat.reduceGT, Nat.reduceLT, Nat.reduceLeDiff, Nat.reduceEqDiff, ↓reduceIte, reduceCtorEq, Int.reduceToNat, Int.reduceLE, Int.reduceLT, Nat.reduceAdd, Nat.reduceMul, h3, h0, h4, hil', hil, ff_16]) | (refine WK.condT ?_ ?_; focus (simp only [ev_tmp, ev_const, fset_apply, Nat.reduceEqDiff, ↓reduceIte, decide_true, decide_false, h3, h0, h4, hil', hil, ff_16]; done)) | (refine WK.condF ?_ ?_; focus (simp only [ev_tmp, ev_const, fset_apply, Nat.reduceEqDiff, ↓reduceIte, decide_true, decide_false, h3, h0, h4, hil', hil, ff_16]; done)))
    (first | refine WK.retNil ⟨Or.inr rfl, _, rfl, ?_, ?_⟩ | refine WK.skipNil ⟨Or.inl rfl, _, rfl, ?_, ?_⟩)
    · exact fun _ _ => rfl
    · simp only [packed, fset_apply, Nat.reduceEqDiff, ↓reduceIte, List.getD_cons_zero, List.getD_cons_succ, ff_16]
      rw [List.take_of_length_le (by omega)]
      simp
end Go.Proofs.YtddpnhhgmfaloaaDoor
