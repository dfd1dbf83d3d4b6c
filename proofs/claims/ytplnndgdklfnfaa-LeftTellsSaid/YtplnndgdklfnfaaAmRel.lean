/- How a heap of the abstract machine stands for a world: the relation on values, on heaps, and its laws. -/
import Derived.Test.YtplnndgdklfnfaaAmDefs
set_option linter.all false
namespace Go.AM
open Go.RowKit

/-- Where an object lies. -/
structure Tgt where
  block : Nat
  off : Nat
  own : Bool
  esz : Nat
  bsize : Nat

abbrev Inj := Nat → Option Tgt
def Inj.le (ι κ : Inj) : Prop := ∀ x t, ι x = some t → κ x = some t
theorem Inj.le_refl (ι : Inj) : Inj.le ι ι := fun _ _ h => h
theorem Inj.le_trans {a b c : Inj} (h : Inj.le a b) (k : Inj.le b c) : Inj.le a c := fun x t e => k x t (h x t e)

inductive VR (ι : Inj) : Value → Value → Prop where
  | bool (b : Bool) : VR ι (.bool b) (.bool b)
  | int (k : IntKind) (n : Int) : VR ι (.int k n) (.int k n)
  | float (k : FloatKind) (b : Nat) : VR ι (.float k b) (.float k b)
  | string (s : ByteArray) : VR ι (.string s) (.string s)
  | nilFunc : VR ι .nilFunc .nilFunc
  | nilIface : VR ι .nilIface .nilIface
  | ptrNil : VR ι (.pointer none) (.pointer none)
  | ptr (x k : Nat) (t : Tgt) (h : ι x = some t) : VR ι (.pointer (some ⟨x, k, none⟩)) (.pointer (some ⟨t.block, t.off + k, none⟩))
  | sliceNil (a : Option Addr) : VR ι (.slice none 0 0) (.slice a 0 0)
  | slice (x k m o c : Nat) (t : Tgt) (h : ι x = some t) (ho : m ≠ 0 → o = t.off + k) (hc : m ≤ c) (hm : c ≤ maxLen) (hown : t.own = true → o + c * t.esz ≤ t.bsize) :
      VR ι (.slice (some ⟨x, k, none⟩) m m) (.slice (some ⟨t.block, o, none⟩) m c)
  | mapNil : VR ι (.map none) (.map none)
  | map (x : Nat) (t : Tgt) (h : ι x = some t) : VR ι (.map (some x)) (.map (some t.block))
  | func (g : FuncId) (a b a' b' : Array Value) (ha : a.size = a'.size) (hb : b.size = b'.size)
      (hra : ∀ (i : Nat) (v v' : Value), a[i]? = some v → a'[i]? = some v' → VR ι v v') (hrb : ∀ (i : Nat) (v v' : Value), b[i]? = some v → b'[i]? = some v' → VR ι v v') :
      VR ι (.func (.func g) a b) (.func (.func g) a' b')
  | agg (a a' : Array Value) (ha : a.size = a'.size) (hra : ∀ (i : Nat) (v v' : Value), a[i]? = some v → a'[i]? = some v' → VR ι v v') : VR ι (.agg a) (.agg a')
  | tuple (a a' : Array Value) (ha : a.size = a'.size) (hra : ∀ (i : Nat) (v v' : Value), a[i]? = some v → a'[i]? = some v' → VR ι v v') : VR ι (.tuple a) (.tuple a')

/-- Lists of values, one by one. -/
def VRs (ι : Inj) (l l' : List Value) : Prop := l.length = l'.length ∧ ∀ (i : Nat) (v v' : Value), l[i]? = some v → l'[i]? = some v' → VR ι v v'

theorem VR.mono {ι κ : Inj} (h : Inj.le ι κ) {v v' : Value} (r : VR ι v v') : VR κ v v' := by
  induction r with
  | bool b => exact .bool b
  | int k n => exact .int k n
  | float k b => exact .float k b
  | string s => exact .string s
  | nilFunc => exact .nilFunc
  | nilIface => exact .nilIface
  | ptrNil => exact .ptrNil
  | ptr x k t e => exact .ptr x k t (h x t e)
  | sliceNil a => exact .sliceNil a
  | slice x k m o c t e ho hc hm hown => exact .slice x k m o c t (h x t e) ho hc hm hown
  | mapNil => exact .mapNil
  | map x t e => exact .map x t (h x t e)
  | func g a b a' b' ha hb _ _ iha ihb => exact .func g a b a' b' ha hb iha ihb
  | agg a a' ha _ iha => exact .agg a a' ha iha
  | tuple a a' ha _ iha => exact .tuple a a' ha iha

theorem VRs.mono {ι κ : Inj} (h : Inj.le ι κ) {l l' : List Value} (r : VRs ι l l') : VRs κ l l' := ⟨r.1, fun i v v' e e' => (r.2 i v v' e e').mono h⟩

theorem VRs.nil (ι : Inj) : VRs ι [] [] := ⟨rfl, fun i v v' e => by simp at e⟩
theorem VRs.cons {ι : Inj} {v v' : Value} {l l' : List Value} (r : VR ι v v') (h : VRs ι l l') : VRs ι (v :: l) (v' :: l') := by
  refine ⟨by simp [h.1], fun i u u' e e' => ?_⟩
  cases i with
  | zero => simp at e e'; subst e; subst e'; exact r
  | succ i => simp at e e'; exact h.2 i u u' e e'
theorem VRs.cons_inv {ι : Inj} {v : Value} {l l' : List Value} (h : VRs ι (v :: l) l') : ∃ v' k, l' = v' :: k ∧ VR ι v v' ∧ VRs ι l k := by
  cases l' with
  | nil => simp [VRs] at h
  | cons v' k =>
    refine ⟨v', k, rfl, h.2 0 v v' (by simp) (by simp), by have := h.1; simp at this; exact this, fun i u u' e e' => h.2 (i + 1) u u' (by simpa using e) (by simpa using e')⟩
theorem VRs.nil_inv {ι : Inj} {l' : List Value} (h : VRs ι [] l') : l' = [] := by
  cases l' with
  | nil => rfl
  | cons => simp [VRs] at h
theorem VRs.append {ι : Inj} {a a' b b' : List Value} (h : VRs ι a a') (k : VRs ι b b') : VRs ι (a ++ b) (a' ++ b') := by
  induction a generalizing a' with
  | nil => rw [h.nil_inv]; exact k
  | cons v a ih =>
    obtain ⟨v', c, rfl, r, t⟩ := h.cons_inv
    exact .cons r (ih t)
theorem VRs.get {ι : Inj} {l l' : List Value} (h : VRs ι l l') {i : Nat} {v : Value} (e : l[i]? = some v) : ∃ v', l'[i]? = some v' ∧ VR ι v v' := by
  have hi : i < l.length := by
    rcases Nat.lt_or_ge i l.length with g | g
    · exact g
    · rw [List.getElem?_eq_none g] at e; cases e
  have hi' : i < l'.length := h.1 ▸ hi
  exact ⟨l'[i], List.getElem?_eq_getElem hi', h.2 i v _ e (List.getElem?_eq_getElem hi')⟩
theorem VRs.take {ι : Inj} {l l' : List Value} (h : VRs ι l l') (n : Nat) : VRs ι (l.take n) (l'.take n) := by
  refine ⟨by simp [h.1], fun i v v' e e' => ?_⟩
  rw [List.getElem?_take] at e e'
  split at e
  · rename_i hi; simp only [hi, if_true] at e'; exact h.2 i v v' e e'
  · cases e
theorem VRs.drop {ι : Inj} {l l' : List Value} (h : VRs ι l l') (n : Nat) : VRs ι (l.drop n) (l'.drop n) := by
  refine ⟨by simp [h.1], fun i v v' e e' => ?_⟩
  rw [List.getElem?_drop] at e e'
  exact h.2 _ v v' e e'
theorem VRs.set {ι : Inj} {l l' : List Value} (h : VRs ι l l') (n : Nat) {u u' : Value} (r : VR ι u u') : VRs ι (l.set n u) (l'.set n u') := by
  refine ⟨by simp [h.1], fun i v v' e e' => ?_⟩
  rw [List.getElem?_set] at e e'
  by_cases hn : n = i
  · subst hn
    simp only [if_true] at e e'
    by_cases hl : n < l.length
    · have hl' : n < l'.length := h.1 ▸ hl
      simp only [hl, hl', if_true, Option.some.injEq] at e e'
      subst e; subst e'; exact r
    · simp only [hl, if_false] at e; cases e
  · simp only [hn, if_false] at e e'; exact h.2 i v v' e e'
theorem VRs.splice {ι : Inj} {vs vs' : List Value} : ∀ {l l' : List Value} (k : Nat), VRs ι l l' → VRs ι vs vs' → VRs ι (splice l k vs) (AM.splice l' k vs') := by
  induction vs generalizing vs' with
  | nil => intro l l' k h hv; rw [hv.nil_inv]; exact h
  | cons v vs ih =>
    intro l l' k h hv
    obtain ⟨v', c, rfl, r, t⟩ := hv.cons_inv
    exact ih (k + 1) (h.set k r) t

theorem VRs.of_arrays {ι : Inj} {a a' : Array Value} (ha : a.size = a'.size) (hra : ∀ (i : Nat) (v v' : Value), a[i]? = some v → a'[i]? = some v' → VR ι v v') : VRs ι a.toList a'.toList :=
  ⟨by simpa using ha, fun i v v' e e' => hra i v v' (by simpa using e) (by simpa using e')⟩
theorem VRs.agg {ι : Inj} {l l' : List Value} (h : VRs ι l l') : VR ι (.agg l.toArray) (.agg l'.toArray) :=
  .agg _ _ (by simpa using h.1) fun i v v' e e' => h.2 i v v' (by simpa using e) (by simpa using e')
theorem VRs.tuple {ι : Inj} {l l' : List Value} (h : VRs ι l l') : VR ι (.tuple l.toArray) (.tuple l'.toArray) :=
  .tuple _ _ (by simpa using h.1) fun i v v' e e' => h.2 i v v' (by simpa using e) (by simpa using e')

theorem VR.cells {ι : Inj} {v v' : Value} (r : VR ι v v') : VRs ι (vcells v) v'.cells.toList := by
  cases r with
  | agg a a' ha hra => exact VRs.of_arrays ha hra
  | ptr x k t e => exact .cons (.ptr x k t e) (.nil ι)
  | slice x k m o c t e ho hc hm hown => exact .cons (.slice x k m o c t e ho hc hm hown) (.nil ι)
  | map x t e => exact .cons (.map x t e) (.nil ι)
  | func g a b a' b' ha hb hra hrb => exact .cons (.func g a b a' b' ha hb hra hrb) (.nil ι)
  | tuple a a' ha hra => exact .cons (.tuple a a' ha hra) (.nil ι)
  | bool b => exact .cons (.bool b) (.nil ι)
  | int k n => exact .cons (.int k n) (.nil ι)
  | float k b => exact .cons (.float k b) (.nil ι)
  | string s => exact .cons (.string s) (.nil ι)
  | nilFunc => exact .cons .nilFunc (.nil ι)
  | nilIface => exact .cons .nilIface (.nil ι)
  | ptrNil => exact .cons .ptrNil (.nil ι)
  | sliceNil a => exact .cons (.sliceNil a) (.nil ι)
  | mapNil => exact .cons .mapNil (.nil ι)

theorem VR.one {ι : Inj} {v v' : Value} (r : VR ι v v') : v'.oneCell' = AM.one v := by cases r <;> rfl
theorem VRs.all_one {ι : Inj} {l l' : List Value} (h : VRs ι l l') (h1 : l.all AM.one = true) : ∀ u ∈ l', u.oneCell' = true := by
  intro u hu
  obtain ⟨i, hi, rfl⟩ := List.getElem_of_mem hu
  have hi' : i < l.length := h.1 ▸ hi
  have r := h.2 i l[i] l'[i] (List.getElem?_eq_getElem hi') (List.getElem?_eq_getElem hi)
  rw [r.one]
  exact List.all_eq_true.1 h1 _ (List.getElem_mem hi')

theorem flat1_eq {ι : Inj} {v v' : Value} (h : flat1 v = true) (r : VR ι v v') : v' = v := by
  cases r <;> first | rfl | (simp [flat1] at h)
theorem flat1_refl (ι : Inj) {v : Value} (h : flat1 v = true) : VR ι v v := by
  cases v with
  | bool b => exact .bool b
  | int k n => exact .int k n
  | float k b => exact .float k b
  | string s => exact .string s
  | nilFunc => exact .nilFunc
  | nilIface => exact .nilIface
  | pointer a => cases a with | none => exact .ptrNil | some a => simp [flat1] at h
  | map a => cases a with | none => exact .mapNil | some a => simp [flat1] at h
  | _ => simp [flat1] at h
theorem all_flat1_eq {ι : Inj} {l l' : List Value} (h : l.all flat1 = true) (r : VRs ι l l') : l' = l := by
  induction l generalizing l' with
  | nil => exact r.nil_inv
  | cons v l ih =>
    obtain ⟨v', k, rfl, r1, r2⟩ := r.cons_inv
    simp only [List.all_cons, Bool.and_eq_true] at h
    rw [flat1_eq h.1 r1, ih h.2 r2]
theorem all_flat1_refl (ι : Inj) {l : List Value} (h : l.all flat1 = true) : VRs ι l l := by
  induction l with
  | nil => exact .nil ι
  | cons v l ih => simp only [List.all_cons, Bool.and_eq_true] at h; exact .cons (flat1_refl ι h.1) (ih h.2)
theorem flat_eq {ι : Inj} {v v' : Value} (h : flat v = true) (r : VR ι v v') : v' = v := by
  cases r with
  | agg a a' ha hra =>
    have := all_flat1_eq (ι := ι) (l := a.toList) (l' := a'.toList) h (VRs.of_arrays ha hra)
    rw [Array.toList_inj.1 this]
  | tuple a a' ha hra =>
    have := all_flat1_eq (ι := ι) (l := a.toList) (l' := a'.toList) h (VRs.of_arrays ha hra)
    rw [Array.toList_inj.1 this]
  | _ => first | rfl | (simp [flat, flat1] at h)
theorem flat_refl (ι : Inj) {v : Value} (h : flat v = true) : VR ι v v := by
  cases v with
  | agg a => have := (all_flat1_refl ι (l := a.toList) h).agg; simpa using this
  | tuple a => have := (all_flat1_refl ι (l := a.toList) h).tuple; simpa using this
  | bool b => exact .bool b
  | int k n => exact .int k n
  | float k b => exact .float k b
  | string s => exact .string s
  | nilFunc => exact .nilFunc
  | nilIface => exact .nilIface
  | pointer a => cases a with | none => exact .ptrNil | some a => simp [flat, flat1] at h
  | map a => cases a with | none => exact .mapNil | some a => simp [flat, flat1] at h
  | _ => simp [flat, flat1] at h
theorem still1_refl (ι : Inj) {v : Value} (h : still1 v = true) : VR ι v v := by
  unfold still1 at h
  split at h
  · exact .sliceNil none
  · exact flat1_refl ι h
theorem all_still1_refl (ι : Inj) {l : List Value} (h : l.all still1 = true) : VRs ι l l := by
  induction l with
  | nil => exact .nil ι
  | cons v l ih => simp only [List.all_cons, Bool.and_eq_true] at h; exact .cons (still1_refl ι h.1) (ih h.2)
theorem still_refl (ι : Inj) {v : Value} (h : still v = true) : VR ι v v := by
  cases v with
  | agg a => have := (all_still1_refl ι (l := a.toList) h).agg; simpa using this
  | tuple a => have := (all_still1_refl ι (l := a.toList) h).tuple; simpa using this
  | _ => exact still1_refl ι h
theorem undef_refl (ι : Inj) : VR ι undef undef := flat_refl ι rfl
theorem undef_eq {ι : Inj} {v : Value} (r : VR ι v undef) : v = undef := by
  generalize hu : undef = u at r
  cases r with
  | tuple a a' ha hra =>
    unfold undef at hu
    cases hu
    have : a = #[] := by simpa using ha
    subst this; rfl
  | _ => unfold undef at hu; cases hu

/-! ### Heaps -/

/-- An object as the world holds it. -/
def ObjOK (P : Program) (ι : Inj) (w : World) (x : Nat) : AObj → Prop
  | .dead => True
  | .cells cs ty own => ∃ t, ι x = some t ∧ t.own = own ∧
      (∀ (i : Nat) (v : Value), cs[i]? = some v → ∃ v', w.cell? ⟨t.block, t.off + i, none⟩ = some v' ∧ VR ι v v' ∧ one v = true) ∧
      (own = true → t.esz = P.cellsOf ty ∧ t.off + cs.length ≤ t.bsize ∧ ∃ cur, w.heap[t.block]? = some (.cells cur ty (0, 0)) ∧ cur.size = t.bsize)
  | .map es clock => ∃ t es', ι x = some t ∧ t.own = true ∧ w.heap[t.block]? = some (.map es' clock) ∧
      VRs ι (es.map (·.key)) (es'.toList.map (·.key)) ∧ VRs ι (es.map (·.val)) (es'.toList.map (·.val)) ∧ es.map (·.born) = es'.toList.map (·.born) ∧ es.all (fun e => one e.val && flat e.key) = true

/-- THE OBJECTS THAT ARE THERE, as the world holds them. -/
structure HR (P : Program) (base : Nat) (ι : Inj) (C : Heap) (w : World) : Prop where
  obj : ∀ x, ObjOK P ι w x (C x)
  inj : ∀ x y t u, C x ≠ .dead → C y ≠ .dead → ι x = some t → ι y = some u → t.own = true → t.block = u.block → x = y
  rng : ∀ x t, ι x = some t → t.block < w.heap.size ∧ (t.own = true → base ≤ t.block) ∧ (t.own = false → t.block < base)
  size : base ≤ w.heap.size

theorem ObjOK.tgt {P : Program} {ι : Inj} {w : World} {x : Nat} {o : AObj} (h : ObjOK P ι w x o) (hd : o ≠ .dead) : ∃ t, ι x = some t := by
  cases o with
  | dead => exact absurd rfl hd
  | cells cs ty own => obtain ⟨t, h, _⟩ := h; exact ⟨t, h⟩
  | map es clock => obtain ⟨t, _, h, _⟩ := h; exact ⟨t, h⟩

theorem ObjOK.carry {P : Program} {ι κ : Inj} {w w' : World} {x : Nat} {o : AObj} (h : ObjOK P ι w x o) (hle : Inj.le ι κ)
    (hb : ∀ t, ι x = some t → w'.heap[t.block]? = w.heap[t.block]?) : ObjOK P κ w' x o := by
  cases o with
  | dead => trivial
  | cells cs ty own =>
    obtain ⟨t, ht, ho, hc, hw⟩ := h
    have hb' := hb t ht
    refine ⟨t, hle x t ht, ho, fun i v e => ?_, fun e => ?_⟩
    · obtain ⟨v', h1, h2, h3⟩ := hc i v e
      exact ⟨v', by rw [World.cell?_of_block (w := w) hb']; exact h1, h2.mono hle, h3⟩
    · obtain ⟨a, b, cur, c, d⟩ := hw e
      exact ⟨a, b, cur, by rw [hb']; exact c, d⟩
  | map es clock =>
    obtain ⟨t, es', ht, ho, hw, hk, hv, r⟩ := h
    exact ⟨t, es', hle x t ht, ho, by rw [hb t ht]; exact hw, hk.mono hle, hv.mono hle, r⟩

/-- The objects that a step turns, laid over what is there. -/
noncomputable def patch (C H H' : Heap) : Heap := fun x => open Classical in if H' x = H x then C x else H' x
theorem patch_eq {C H H' : Heap} {x : Nat} (h : H' x = H x) : patch C H H' x = C x := by unfold patch; rw [if_pos h]
theorem patch_ne {C H H' : Heap} {x : Nat} (h : H' x ≠ H x) : patch C H H' x = H' x := by unfold patch; rw [if_neg h]
theorem patch_self (H H' : Heap) : patch H H H' = H' := by
  funext x
  by_cases h : H' x = H x
  · rw [patch_eq h, h]
  · exact patch_ne h
theorem patch_same (C H : Heap) : patch C H H = C := by funext x; exact patch_eq rfl

/-- The world has a new place for object n; all else is as it was. -/
def iset (ι : Inj) (n : Nat) (t : Tgt) : Inj := fun x => if x = n then some t else ι x
theorem iset_le {ι : Inj} {n : Nat} (t : Tgt) (h : ι n = none) : Inj.le ι (iset ι n t) := fun x u e => by
  unfold iset; split
  · rename_i hx; subst hx; rw [h] at e; cases e
  · exact e
theorem iset_same (ι : Inj) (n : Nat) (t : Tgt) : iset ι n t n = some t := by simp [iset]
theorem iset_other (ι : Inj) {n x : Nat} (t : Tgt) (h : x ≠ n) : iset ι n t x = ι x := by simp [iset, h]

theorem hset_same (H : Heap) (x : Nat) (o : AObj) : hset H x o x = o := by rw [hset_apply, if_pos rfl]
theorem hset_other (H : Heap) {x y : Nat} (o : AObj) (h : y ≠ x) : hset H x o y = H y := by rw [hset_apply, if_neg h]
theorem patch_set {C H : Heap} {x : Nat} {o : AObj} (h : C x = H x ∨ o ≠ H x) : patch C H (hset H x o) = hset C x o := by
  funext y
  by_cases hy : y = x
  · subst hy
    rw [hset_same]
    by_cases e : o = H y
    · rw [patch_eq (by rw [hset_same]; exact e), e]
      rcases h with h | h
      · exact h
      · exact absurd e h
    · rw [patch_ne (by rw [hset_same]; exact e), hset_same]
  · rw [hset_other _ _ hy, patch_eq (hset_other _ _ hy)]
theorem patch_set2 {C H : Heap} {x n : Nat} {o u : AObj} (hxn : x ≠ n) (h : C x = H x ∨ o ≠ H x) (k : u ≠ H n) : patch C H (hset (hset H x o) n u) = hset (hset C x o) n u := by
  funext y
  by_cases hn : y = n
  · subst hn
    rw [hset_same, patch_ne (by rw [hset_same]; exact k), hset_same]
  · rw [hset_other _ _ hn]
    by_cases hy : y = x
    · subst hy
      rw [hset_same]
      by_cases e : o = H y
      · rw [patch_eq (by rw [hset_other _ _ hn, hset_same]; exact e), e]
        rcases h with h | h
        · exact h
        · exact absurd e h
      · rw [patch_ne (by rw [hset_other _ _ hn, hset_same]; exact e), hset_other _ _ hn, hset_same]
    · rw [hset_other _ _ hy, patch_eq (by rw [hset_other _ _ hn, hset_other _ _ hy])]

section
variable {P : Program} {base : Nat} {ι : Inj} {C : Heap} {w : World}

/-- Draws, and the like: no block turns. -/
theorem HR.same (h : HR P base ι C w) {w' : World} (hb : w'.heap = w.heap) : HR P base ι C w' :=
  ⟨fun x => (h.obj x).carry (Inj.le_refl ι) fun t _ => by rw [hb], h.inj, fun x t e => by rw [hb]; exact h.rng x t e, by rw [hb]; exact h.size⟩

theorem HR.kill (h : HR P base ι C w) (x : Nat) : HR P base ι (hset C x .dead) w := by
  refine ⟨fun y => ?_, fun y z t u hy hz => ?_, h.rng, h.size⟩
  · rw [hset_apply]; split
    · trivial
    · exact h.obj y
  · rw [hset_apply] at hy hz
    split at hy
    · exact absurd rfl hy
    · split at hz
      · exact absurd rfl hz
      · exact h.inj y z t u hy hz

/-- ONE OBJECT NEW OR TURNED: its block is written or new, no other block is. -/
theorem HR.update (h : HR P base ι C w) {κ : Inj} {w' : World} {n : Nat} {o : AObj} {t : Tgt} (hle : Inj.le ι κ) (hκ : κ n = some t) (hother : ∀ x, x ≠ n → κ x = ι x)
    (hsz : w.heap.size ≤ w'.heap.size) (hblk : ∀ k, k < w.heap.size → k ≠ t.block → w'.heap[k]? = w.heap[k]?)
    (hfree : ∀ y u, y ≠ n → C y ≠ .dead → ι y = some u → u.block ≠ t.block)
    (hown : t.own = true) (hb : base ≤ t.block) (hlt : t.block < w'.heap.size) (ho : ObjOK P κ w' n o) : HR P base κ (hset C n o) w' := by
  refine ⟨fun y => ?_, fun y z u v hy hz eu ev hou hbl => ?_, fun y u e => ?_, Nat.le_trans h.size hsz⟩
  · rw [hset_apply]; split
    · rename_i e; subst e; exact ho
    · rename_i hne
      by_cases hd : C y = .dead
      · rw [hd]; trivial
      · exact (h.obj y).carry hle fun u e => hblk _ (h.rng y u e).1 (hfree y u hne hd e)
  · rw [hset_apply] at hy hz
    by_cases e1 : y = n
    · by_cases e2 : z = n
      · rw [e1, e2]
      · simp only [e2, if_false] at hz
        rw [e1, hκ] at eu
        cases eu
        rw [hother z e2] at ev
        exact absurd hbl.symm (hfree z v e2 hz ev)
    · simp only [e1, if_false] at hy
      rw [hother y e1] at eu
      by_cases e2 : z = n
      · rw [e2, hκ] at ev
        cases ev
        exact absurd hbl (hfree y u e1 hy eu)
      · simp only [e2, if_false] at hz
        rw [hother z e2] at ev
        exact h.inj y z u v hy hz eu ev hou hbl
  · by_cases e1 : y = n
    · rw [e1, hκ] at e
      cases e
      exact ⟨hlt, fun _ => hb, fun k => by rw [hown] at k; cases k⟩
    · rw [hother y e1] at e
      obtain ⟨a, b⟩ := h.rng y u e
      exact ⟨Nat.lt_of_lt_of_le a hsz, b⟩

/-- A NEW OBJECT in a new block. -/
theorem HR.alloc (h : HR P base ι C w) {n : Nat} (hn : ι n = none) {cs : List Value} {cur : Array Value} {ty : TypeId}
    (hc : ∀ (i : Nat) (v : Value), cs[i]? = some v → ∃ v', cur[i]? = some v' ∧ VR ι v v' ∧ one v = true) (hl : cs.length ≤ cur.size) :
    HR P base (iset ι n ⟨w.heap.size, 0, true, P.cellsOf ty, cur.size⟩) (hset C n (.cells cs ty true)) (w.alloc (.cells cur ty)) := by
  refine h.update (t := ⟨w.heap.size, 0, true, P.cellsOf ty, cur.size⟩) (iset_le _ hn) (iset_same _ _ _) (fun x hx => iset_other _ _ hx) (by simp) (fun k hk _ => Go.heap_alloc_old w _ hk) ?_ rfl h.size (by simp) ?_
  · intro y u hy hd e
    have := (h.rng y u e).1
    exact Nat.ne_of_lt this
  · refine ⟨_, iset_same _ _ _, rfl, fun i v e => ?_, fun _ => ⟨rfl, by simpa using hl, cur, heap_alloc_new w _, rfl⟩⟩
    obtain ⟨v', h1, h2, h3⟩ := hc i v e
    refine ⟨v', ?_, h2.mono (iset_le _ hn), h3⟩
    rw [cell_of_row _ _ _ _ _ _ (heap_alloc_new w _)]
    simpa using h1

theorem cells_of_list {l l' : List Value} (hv : VRs ι l l') (h1 : l.all one = true) : ∀ (i : Nat) (v : Value), l[i]? = some v → ∃ v', l'.toArray[i]? = some v' ∧ VR ι v v' ∧ one v = true := by
  intro i v e
  obtain ⟨v', h2, h3⟩ := hv.get e
  exact ⟨v', by simpa using h2, h3, List.all_eq_true.1 h1 v (List.mem_of_getElem? e)⟩

end

end Go.AM
