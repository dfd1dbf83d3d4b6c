/- A part of a proof. Its conditions: none. -/
import Derived.Test.YtpdlmpbhohinpaaAmCFacts
import Derived.Test.YtpdlmpbhohinpaaAmC
import Derived.Test.YtpdlmpbhohinpaaAmD
set_option linter.all false
namespace Go.Proofs.Ytpdlmpbhohinpaa
open Go.AM Go.RowKit
set_option maxRecDepth 100000
def itC (x : It) : List Value := [.int .i64 (x.1 : Nat), .int .i64 (x.2.1 : Nat), .int .i64 (x.2.2 : Nat)]
def itV (x : It) : Value := .agg (itC x).toArray
theorem itC_len (x : It) : (itC x).length = 3 := rfl
theorem itcs_len (l : List It) : (l.flatMap itC).length = l.length * 3 := by
  induction l with
  | nil => rfl
  | cons x l ih => rw [List.flatMap_cons, List.length_append, ih, itC_len, List.length_cons]; omega
theorem itcs_at {l : List It} {i : Nat} {x : It} (h : l[i]? = some x) : ((l.flatMap itC).drop (i * 3)).take 3 = itC x := by
  induction l generalizing i with
  | nil => simp at h
  | cons y l ih =>
    rw [List.flatMap_cons]
    cases i with
    | zero => simp at h; subst h; rfl
    | succ i =>
      have e : (i + 1) * 3 = (itC y).length + i * 3 := by rw [itC_len]; omega
      rw [e, List.drop_append, List.drop_eq_nil_of_le (by omega), List.nil_append, Nat.add_sub_cancel_left]
      exact ih (by simpa using h)
theorem itC_inj {x y : It} (h : itC x = itC y) : x = y := by
  unfold itC at h
  simp only [List.cons.injEq, Value.int.injEq, true_and, and_true] at h
  obtain ⟨a, b, c⟩ := x
  obtain ⟨a', b', c'⟩ := y
  simp only at h
  simp only [Prod.mk.injEq]
  omega
def ents (l : List It) : List MapEntry := l.zipIdx.map fun p => ⟨itV p.1, .bool true, p.2⟩
def MO (l : List It) : AObj := .map (ents l) l.length 74
theorem ents_snoc (l : List It) (x : It) : ents (l ++ [x]) = ents l ++ [⟨itV x, .bool true, l.length⟩] := by
  unfold ents
  rw [List.zipIdx_append, List.map_append]
  simp
theorem mem_ents {l : List It} {e : MapEntry} (h : e ∈ ents l) : ∃ x ∈ l, e.key = itV x ∧ e.val = .bool true := by
  unfold ents at h
  obtain ⟨p, hp, rfl⟩ := List.mem_map.1 h
  obtain ⟨x, i⟩ := p
  exact ⟨x, (List.mem_zipIdx' hp).2 ▸ List.getElem_mem _, rfl, rfl⟩
theorem ents_mem {l : List It} {x : It} (h : x ∈ l) : ∃ e ∈ ents l, e.key = itV x := by
  obtain ⟨i, hi, rfl⟩ := List.getElem_of_mem h
  refine ⟨_, List.mem_map.2 ⟨(l[i], i), ?_, rfl⟩, rfl⟩
  rw [List.mem_zipIdx_iff_getElem?]
  exact List.getElem?_eq_getElem hi
theorem veq_it (x y : It) : veq (itV x) (itV y) = decide (x = y) := by
  by_cases h : x = y
  · subst h
    have : veqs (itC x) (itC x) = true := by simp [itC, veqs, veq1]
    simp only [decide_true]
    exact this
  · simp only [h, decide_false]
    cases hv : veq (itV x) (itV y) with
    | false => rfl
    | true =>
      have := veqs_eq (show veqs (itC x) (itC y) = true from hv)
      exact absurd (itC_inj this) h
theorem wide_it : wideK Try.prog 74 = true := by kernel_rfl
def smI (x : It) : Prop := x.1 ≤ 1000000 ∧ x.2.1 ≤ 1000000 ∧ x.2.2 ≤ 1000000
noncomputable def fsI : Array Field := match Try.prog.underlying 74 with
  | some (.struct fs) => fs
  | _ => #[]
theorem wf_nat {n : Nat} (h : n ≤ 1000000) : (Lit.int .i64 (n : Int)).wf = true := by
  have h1 : IntKind.min .i64 = -9223372036854775808 := rfl
  have h2 : IntKind.max .i64 = 9223372036854775807 := rfl
  unfold Lit.wf
  simp only [h1, h2, Bool.and_eq_true, decide_eq_true_eq]
  omega
theorem key_it {x : It} (h : smI x) : (keyOf Try.prog 74 (itV x)).isSome = true :=
  keyOf_3 (fs := fsI) (ti := 3) (by kernel_rfl) (by kernel_rfl) (by kernel_rfl) (Nat.lt_of_lt_of_le Nat.zero_lt_one (Nat.le_of_ble_eq_true (by kernel_rfl))) (by kernel_rfl) (by kernel_rfl) (by kernel_rfl) (by kernel_rfl) (wf_nat h.1) (wf_nat h.2.1) (wf_nat h.2.2)
theorem und_map : Try.prog.underlying 66 = some (.map 74 4) := by kernel_rfl
theorem zero_bool : ((Try.prog.info? 4).bind (·.zero)) = some (.bool false) := by kernel_rfl
theorem find_it {x : It} (hs : smI x) (l : List It) : afind Try.prog 74 (itV x) (ents l) = some ((ents l).findIdx? fun e => veq e.key (itV x)) := by
  unfold afind
  rw [if_pos ⟨wide_it, rfl, key_it hs⟩]
theorem find_no {x : It} {l : List It} (h : x ∉ l) : ((ents l).findIdx? fun e => veq e.key (itV x)) = none := by
  rw [List.findIdx?_eq_none_iff]
  intro e he
  obtain ⟨y, hy, hk, _⟩ := mem_ents he
  rw [hk, veq_it]
  simp only [decide_eq_false_iff_not]
  rintro rfl
  exact h hy
theorem find_yes {x : It} {l : List It} (h : x ∈ l) : ∃ i e, ((ents l).findIdx? fun e => veq e.key (itV x)) = some i ∧ (ents l)[i]? = some e ∧ e.val = .bool true := by
  cases hf : (ents l).findIdx? fun e => veq e.key (itV x) with
  | none =>
    rw [List.findIdx?_eq_none_iff] at hf
    obtain ⟨e, he, hk⟩ := ents_mem h
    have := hf e he
    rw [hk, veq_it] at this
    simp at this
  | some i =>
    rw [List.findIdx?_eq_some_iff_getElem] at hf
    obtain ⟨hi, _, _⟩ := hf
    obtain ⟨y, _, _, hv⟩ := mem_ents (List.getElem_mem hi)
    exact ⟨i, _, rfl, List.getElem?_eq_getElem hi, hv⟩
theorem look_it {H : Heap} {m : Nat} {l : List It} (h : H m = MO l) {x : It} (hs : smI x) : alookup Try.prog 66 H (.map (some m)) (itV x) false = some { v := .bool (decide (x ∈ l)), rd := [m] } := by
  unfold MO at h
  unfold alookup
  rw [und_map]
  simp only [h, if_pos, find_it hs]
  by_cases hx : x ∈ l
  · obtain ⟨i, e, h1, h2, h3⟩ := find_yes hx
    simp only [h1, h2, h3, hx, decide_true]
    rfl
  · simp only [find_no hx, zero_bool, hx, decide_false]
    rfl
theorem set_it {H : Heap} {m : Nat} {l : List It} (h : H m = MO l) {x : It} (hs : smI x) (hx : x ∉ l) : amapset Try.prog 66 H (.map (some m)) (itV x) (.bool true) = some { v := undef, wr := some (m, MO (l ++ [x])) } := by
  unfold MO at h
  unfold amapset
  rw [und_map]
  simp only [h, if_pos, find_it hs, find_no hx]
  unfold MO
  rw [ents_snoc, List.length_append]
  rfl
theorem make_it (n : Nat) : amake Try.prog n 66 = some { v := .map (some n), news := [MO []] } := by
  unfold amake
  rw [und_map]
  rfl
def LR (H : Heap) (v : Value) (l : List It) : Prop := (l = [] ∧ v = .slice none 0 0) ∨ (l ≠ [] ∧ ∃ z own, v = .slice (some ⟨z, 0, none⟩) l.length l.length ∧ H z = .rows (l.flatMap itC) 74 own)
def LV (H : Heap) (N : Nat) (v : Value) (l : List It) : Prop := (l = [] ∧ v = .slice none 0 0) ∨ (l ≠ [] ∧ ∃ z, v = .slice (some ⟨z, 0, none⟩) l.length l.length ∧ N ≤ z ∧ H z = .rows (l.flatMap itC) 74 true)
theorem LV.lr {H : Heap} {N : Nat} {v : Value} {l : List It} (h : LV H N v l) : LR H v l := by
  rcases h with h | ⟨h0, z, h1, _, h2⟩
  · exact .inl h
  · exact .inr ⟨h0, z, true, h1, h2⟩
theorem LR.rk {H H' : Heap} {v : Value} {l : List It} (h : LR H v l) (k : RK H H') : LR H' v l := by
  rcases h with h | ⟨h0, z, own, h1, h2⟩
  · exact .inl h
  · obtain ⟨own', h3⟩ := k _ _ _ _ h2
    exact .inr ⟨h0, z, own', h1, h3⟩
theorem LR.slice {H : Heap} {v : Value} {l : List It} (h : LR H v l) : ∃ p, v = .slice p l.length l.length := by
  rcases h with ⟨rfl, rfl⟩ | ⟨_, z, _, h1, _⟩
  · exact ⟨none, rfl⟩
  · exact ⟨_, h1⟩
theorem LR.at {H : Heap} {p : Option Addr} {l : List It} (h : LR H (.slice p l.length l.length) l) {i : Nat} (hi : i < l.length) : ∃ z own, p = some ⟨z, 0, none⟩ ∧ H z = .rows (l.flatMap itC) 74 own ∧ ((l.flatMap itC).drop (i * 3)).take 3 = itC l[i] ∧ i * 3 + 3 ≤ (l.flatMap itC).length := by
  rcases h with ⟨rfl, _⟩ | ⟨_, z, own, h1, h2⟩
  · exact absurd hi (Nat.not_lt_zero _)
  · cases h1
    exact ⟨z, own, rfl, h2, itcs_at (List.getElem?_eq_getElem hi), by rw [itcs_len]; omega⟩
def RC (P : Nat → Prop) (H H' : Heap) : Prop := RK H H' ∧ ∀ z cs ty own, ¬ P z → H z = .cells cs ty own → H' z = .cells cs ty own
theorem RC.refl (P : Nat → Prop) (H : Heap) : RC P H H := ⟨.refl H, fun _ _ _ _ _ h => h⟩
theorem RC.trans {P : Nat → Prop} {H H1 H2 : Heap} (a : RC P H H1) (b : RC P H1 H2) : RC P H H2 := ⟨a.1.trans b.1, fun z cs ty own hp h => b.2 z cs ty own hp (a.2 z cs ty own hp h)⟩
theorem RC.mono {P Q : Nat → Prop} {H H1 : Heap} (a : RC P H H1) (h : ∀ z cs ty own, H z = .cells cs ty own → P z → Q z) : RC Q H H1 := ⟨a.1, fun z cs ty own hp e => a.2 z cs ty own (fun hP => hp (h z cs ty own e hP)) e⟩
theorem RC.setM {P : Nat → Prop} {H : Heap} {x : Nat} {o : AObj} {l : List It} (h : H x = MO l) : RC P H (hset H x o) := ⟨.set fun c t o e => (by rw [h] at e; unfold MO at e; cases e), fun z cs ty own _ e => (hset_ne' _ _ _ (by rintro rfl; rw [h] at e; unfold MO at e; cases e)).trans e⟩
theorem RC.setY {P : Nat → Prop} {H : Heap} {x : Nat} {o : AObj} {cs : List Value} {ty : TypeId} {own : Bool} (h : H x = .cells cs ty own) (hp : P x) : RC P H (hset H x o) := ⟨.set fun c t o e => (by rw [h] at e; cases e), fun z cs ty own hn e => (hset_ne' _ _ _ (by rintro rfl; exact hn hp)).trans e⟩
theorem RC.own {P : Nat → Prop} {H : Heap} {x : Nat} {cs : List Value} {ty : TypeId} {own own' : Bool} (h : H x = .rows cs ty own) : RC P H (hset H x (.rows cs ty own')) := ⟨.own h, fun z cs ty own _ e => (hset_ne' _ _ _ (by rintro rfl; rw [h] at e; cases e)).trans e⟩
theorem rc_kp {P : Nat → Prop} {n n' : Nat} {H H' : Heap} (k : Kp n H n' H') (hw : WF n H) : RC P H H' := ⟨k.rk hw, fun z cs ty own _ h => (k.keep z (Classical.byContradiction fun hc => by rw [hw z (by omega)] at h; cases h)).trans h⟩
def SC (H : Heap) (N : Nat) (cs : List Value) (k : Nat) (l : List It) : Prop := ∃ v m, cs[k]? = some v ∧ cs[k + 1]? = some (.map (some m)) ∧ N ≤ m ∧ H m = MO l ∧ LV H N v l
end Go.Proofs.Ytpdlmpbhohinpaa
