/- A part of a proof. Its conditions: none. -/
import Derived.Test.YtpdlmpbhohinpaaAmCChRest
set_option linter.all false
namespace Go.Proofs.Ytpdlmpbhohinpaa
open Go.AM Go.RowKit
set_option maxRecDepth 100000
theorem keyOf_13 {P : Program} {kt kx ti : TypeId} {fs gs : Array Field} (hu : P.underlying kt = some (.struct fs)) (hg : P.underlying kx = some (.struct gs)) (hk : P.keyType kt = true) (hn : fs.all (·.name != "_") = true) (hm : gs.all (·.name != "_") = true) (hs : 1 < P.types.size) (hti : P.underlying ti = some (.int .i64)) (hc : P.cellsOf ti = 1) (h3 : P.cellsOf kx = 3) (h4 : P.cellsOf kt = 4)
    (hf : fs.toList.map (fun f => (f.type, f.offset)) = [(ti, 0), (kx, 1)]) (hf2 : gs.toList.map (fun f => (f.type, f.offset)) = [(ti, 0), (ti, 1), (ti, 2)]) {a b c e : Int} (ha : (Lit.int .i64 a).wf = true) (hb : (Lit.int .i64 b).wf = true) (hcc : (Lit.int .i64 c).wf = true) (he : (Lit.int .i64 e).wf = true) : (keyOf P kt (.agg #[.int .i64 e, .int .i64 a, .int .i64 b, .int .i64 c])).isSome = true := by
  have hint : ∀ (d : Nat) (n : Int), (Lit.int .i64 n).wf = true → P.keyLits (d + 1) ti [.int .i64 n] = some [.int .i64 n] := by
    intro d n hw
    unfold Program.keyLits
    simp only [hti]
    rw [if_pos ⟨trivial, hw⟩]
  obtain ⟨d, hd⟩ : ∃ d, P.types.size = d + 2 := ⟨P.types.size - 2, by omega⟩
  have hx : P.keyLits (d + 2) kx [.int .i64 a, .int .i64 b, .int .i64 c] = some [.int .i64 a, .int .i64 b, .int .i64 c] := by
    have hm2 : (gs.toList.mapM fun f => P.keyLits (d + 1) f.type ((([.int .i64 a, .int .i64 b, .int .i64 c] : List Value).drop f.offset).take (P.cellsOf f.type))) = some [[.int .i64 a], [.int .i64 b], [.int .i64 c]] := by
      have e : (fun f : Field => P.keyLits (d + 1) f.type ((([.int .i64 a, .int .i64 b, .int .i64 c] : List Value).drop f.offset).take (P.cellsOf f.type))) = (fun p : TypeId × Nat => P.keyLits (d + 1) p.1 ((([.int .i64 a, .int .i64 b, .int .i64 c] : List Value).drop p.2).take (P.cellsOf p.1))) ∘ (fun f : Field => (f.type, f.offset)) := rfl
      rw [e, ← List.mapM_map, hf2]
      simp [hc, hint _ _ ha, hint _ _ hb, hint _ _ hcc]
    rw [show d + 2 = (d + 1) + 1 from rfl]
    unfold Program.keyLits
    simp only [hg]
    rw [if_pos ⟨by rw [h3]; rfl, hm⟩, hm2]
    rfl
  unfold keyOf
  rw [hu]
  simp only
  have hfm : Value.formed P kt (.agg #[.int .i64 e, .int .i64 a, .int .i64 b, .int .i64 c]) = true := by
    unfold Value.formed
    simp [hu, h4]
  rw [hk, hfm]
  have hl : P.keyLits (P.types.size + 1) kt [.int .i64 e, .int .i64 a, .int .i64 b, .int .i64 c] = some [.int .i64 e, .int .i64 a, .int .i64 b, .int .i64 c] := by
    have hm2 : (fs.toList.mapM fun f => P.keyLits (d + 2) f.type ((([.int .i64 e, .int .i64 a, .int .i64 b, .int .i64 c] : List Value).drop f.offset).take (P.cellsOf f.type))) = some [[.int .i64 e], [.int .i64 a, .int .i64 b, .int .i64 c]] := by
      have e : (fun f : Field => P.keyLits (d + 2) f.type ((([.int .i64 e, .int .i64 a, .int .i64 b, .int .i64 c] : List Value).drop f.offset).take (P.cellsOf f.type))) = (fun p : TypeId × Nat => P.keyLits (d + 2) p.1 ((([.int .i64 e, .int .i64 a, .int .i64 b, .int .i64 c] : List Value).drop p.2).take (P.cellsOf p.1))) ∘ (fun f : Field => (f.type, f.offset)) := rfl
      rw [e, ← List.mapM_map, hf]
      simp [hc, h3, hint _ _ he, hx]
    rw [hd]
    unfold Program.keyLits
    simp only [hu]
    rw [if_pos ⟨by rw [h4]; rfl, hn⟩, hm2]
    rfl
  show (Option.map _ (P.keyLits (P.types.size + 1) kt [.int .i64 e, .int .i64 a, .int .i64 b, .int .i64 c])).isSome = true
  rw [hl]
  rfl
def spC (s : Sp) : List Value := .int .i64 (s.1 : Nat) :: itC s.2
def spV (s : Sp) : Value := .agg (spC s).toArray
theorem spC_inj {x y : Sp} (h : spC x = spC y) : x = y := by
  unfold spC at h
  simp only [List.cons.injEq, Value.int.injEq, true_and] at h
  obtain ⟨a, b⟩ := x
  obtain ⟨a', b'⟩ := y
  have := itC_inj h.2
  simp only at this h
  subst this
  have : a = a' := by omega
  rw [this]
def entsN (M : List (Sp × Nat)) : List MapEntry := M.zipIdx.map fun p => ⟨spV p.1.1, .int .i64 (p.1.2 : Nat), p.2⟩
def MN (M : List (Sp × Nat)) : AObj := .map (entsN M) M.length 81
theorem entsN_snoc (M : List (Sp × Nat)) (e : Sp × Nat) : entsN (M ++ [e]) = entsN M ++ [⟨spV e.1, .int .i64 (e.2 : Nat), M.length⟩] := by
  unfold entsN
  rw [List.zipIdx_append, List.map_append]
  simp
theorem veq_sp (x y : Sp) : veq (spV x) (spV y) = decide (x = y) := by
  by_cases h : x = y
  · subst h
    have : veqs (spC x) (spC x) = true := by simp [spC, itC, veqs, veq1]
    simp only [decide_true]
    exact this
  · simp only [h, decide_false]
    cases hv : veq (spV x) (spV y) with
    | false => rfl
    | true =>
      have := veqs_eq (show veqs (spC x) (spC y) = true from hv)
      exact absurd (spC_inj this) h
theorem wide_sp : wideK Try.prog 81 = true := by kernel_rfl
def smS (s : Sp) : Prop := s.1 ≤ 1000000 ∧ smI s.2
noncomputable def fsS : Array Field := match Try.prog.underlying 81 with
  | some (.struct fs) => fs
  | _ => #[]
theorem key_sp {x : Sp} (h : smS x) : (keyOf Try.prog 81 (spV x)).isSome = true :=
  keyOf_13 (fs := fsS) (gs := fsI) (kx := 74) (ti := 3) (by kernel_rfl) (by kernel_rfl) (by kernel_rfl) (by kernel_rfl) (by kernel_rfl) (Nat.le_of_ble_eq_true (by kernel_rfl)) (by kernel_rfl) (by kernel_rfl) (by kernel_rfl) (by kernel_rfl) (by kernel_rfl) (by kernel_rfl) (wf_nat h.2.1) (wf_nat h.2.2.1) (wf_nat h.2.2.2) (wf_nat h.1)
theorem und_mapN : Try.prog.underlying 78 = some (.map 81 3) := by kernel_rfl
theorem zero_int : ((Try.prog.info? 3).bind (·.zero)) = some (.int .i64 (Int.ofNat 0)) := by kernel_rfl
theorem find_sp {x : Sp} (hs : smS x) (M : List (Sp × Nat)) : afind Try.prog 81 (spV x) (entsN M) = some ((entsN M).findIdx? fun e => veq e.key (spV x)) := by
  unfold afind
  rw [if_pos ⟨wide_sp, rfl, key_sp hs⟩]
def entsF (M : List (Sp × Nat)) (k : Nat) : List MapEntry := (M.zipIdx k).map fun p => ⟨spV p.1.1, .int .i64 (p.1.2 : Nat), p.2⟩
theorem find_gets (x : Sp) : ∀ (M : List (Sp × Nat)) (k : Nat), ((entsF M k).findIdx? fun e => veq e.key (spV x)) = (M.findIdx? fun e => decide (e.1 = x)) := by
  intro M
  induction M with
  | nil => intro k; rfl
  | cons e M ih =>
    intro k
    unfold entsF
    rw [List.zipIdx_cons, List.map_cons, List.findIdx?_cons, List.findIdx?_cons, veq_sp]
    show _ = _
    rw [show List.map (fun p => (⟨spV p.1.1, .int .i64 (p.1.2 : Nat), p.2⟩ : MapEntry)) (M.zipIdx (k + 1)) = entsF M (k + 1) from rfl, ih]
theorem get_none {x : Sp} : ∀ {M : List (Sp × Nat)}, (M.findIdx? fun e => decide (e.1 = x)) = none → getM M x = none ∧ ∀ n, setM M x n = M ++ [(x, n)] := by
  intro M
  induction M with
  | nil => intro _; exact ⟨rfl, fun n => rfl⟩
  | cons e M ih =>
    intro h
    rw [List.findIdx?_cons] at h
    by_cases he : e.1 = x
    · simp [he] at h
    · simp only [he, decide_false, Bool.false_eq_true, if_false, Option.map_eq_none_iff] at h
      obtain ⟨h1, h2⟩ := ih h
      simp only [getM, if_neg he, setM]
      exact ⟨h1, fun n => by rw [h2]; rfl⟩
theorem get_some {x : Sp} : ∀ {M : List (Sp × Nat)} {i : Nat}, (M.findIdx? fun e => decide (e.1 = x)) = some i → ∃ m, M[i]? = some (x, m) ∧ getM M x = some m ∧ ∀ n, setM M x n = M.set i (x, n) := by
  intro M
  induction M with
  | nil => intro i h; cases h
  | cons e M ih =>
    intro i h
    rw [List.findIdx?_cons] at h
    by_cases he : e.1 = x
    · simp [he] at h
      subst h
      subst he
      exact ⟨e.2, rfl, by simp [getM], fun n => by simp [setM]⟩
    · simp only [he, decide_false, Bool.false_eq_true, if_false, Option.map_eq_some_iff] at h
      obtain ⟨j, hj, rfl⟩ := h
      obtain ⟨m, h1, h2, h3⟩ := ih hj
      refine ⟨m, by simpa using h1, ?_, fun n => ?_⟩
      · simp only [getM, if_neg he]; exact h2
      · simp only [setM, if_neg he, h3]; rfl
theorem entsN_set {M : List (Sp × Nat)} {i : Nat} {x : Sp} {m n : Nat} (h : M[i]? = some (x, m)) : (entsN M).modify i (fun e => { e with val := .int .i64 (n : Nat) }) = entsN (M.set i (x, n)) := by
  apply List.ext_getElem?
  intro j
  unfold entsN
  rw [List.getElem?_modify, List.getElem?_map, List.getElem?_map, List.getElem?_zipIdx, List.getElem?_zipIdx, List.getElem?_set]
  by_cases hij : i = j
  · subst hij
    obtain ⟨hi, he⟩ := List.getElem?_eq_some_iff.1 h
    simp [hi, he]
  · simp [hij]
theorem look_sp {H : Heap} {m : Nat} {M : List (Sp × Nat)} (h : H m = MN M) {x : Sp} (hs : smS x) : alookup Try.prog 78 H (.map (some m)) (spV x) true = some { v := .tuple #[.int .i64 ((getM M x).getD 0 : Nat), .bool (getM M x).isSome], rd := [m] } := by
  unfold MN at h
  unfold alookup
  rw [und_mapN]
  simp only [h, if_pos, find_sp hs]
  have hf := find_gets x M 0
  rw [show entsF M 0 = entsN M from rfl] at hf
  rw [hf]
  cases hx : M.findIdx? fun e => decide (e.1 = x) with
  | none =>
    obtain ⟨h1, _⟩ := get_none hx
    simp only [zero_int, h1]
    rfl
  | some i =>
    obtain ⟨m, h1, h2, _⟩ := get_some hx
    have h3 : (entsN M)[i]? = some ⟨spV x, .int .i64 (m : Nat), i⟩ := by
      unfold entsN
      rw [List.getElem?_map, List.getElem?_zipIdx, h1]
      simp
    simp only [h3, h2]
    rfl
theorem set_sp {H : Heap} {m : Nat} {M : List (Sp × Nat)} (h : H m = MN M) {x : Sp} (hs : smS x) (n : Nat) : amapset Try.prog 78 H (.map (some m)) (spV x) (.int .i64 (n : Nat)) = some { v := undef, wr := some (m, MN (setM M x n)) } := by
  unfold MN at h
  unfold amapset
  rw [und_mapN]
  simp only [h, if_pos, find_sp hs]
  have hf := find_gets x M 0
  rw [show entsF M 0 = entsN M from rfl] at hf
  rw [hf]
  cases hx : M.findIdx? fun e => decide (e.1 = x) with
  | none =>
    obtain ⟨_, h2⟩ := get_none hx
    simp only [h2]
    unfold MN
    rw [entsN_snoc, List.length_append]
    rfl
  | some i =>
    obtain ⟨k, h1, _, h3⟩ := get_some hx
    simp only [h3, entsN_set h1]
    unfold MN
    rw [List.length_set]
theorem make_sp (n : Nat) : amake Try.prog n 78 = some { v := .map (some n), news := [MN []] } := by
  unfold amake
  rw [und_mapN]
  rfl
end Go.Proofs.Ytpdlmpbhohinpaa
