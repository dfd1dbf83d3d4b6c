/- The abstract machine: a region that draws its order comes, in whatever order, to what it comes to in the text's. -/
import Derived.Test.YtplnndgdklfnfaaAmSteps
set_option linter.all false
namespace Go.AM
open Go.RowKit

/-! ### The static order -/

theorem foldl_bits (es : List Edge) (acc : List Nat) (i : Nat) : ∀ m : Nat,
    (es.foldl (fun m e => if Region.binds .any e then Nat.lor m (Nat.lor (2 ^ e.on) (acc.getD e.on 0)) else m) m).testBit i = true →
    m.testBit i = true ∨ ∃ e ∈ es, Region.binds .any e = true ∧ (e.on = i ∨ (acc.getD e.on 0).testBit i = true) := by
  induction es with
  | nil => intro m h; exact .inl h
  | cons e es ih =>
    intro m h
    simp only [List.foldl_cons] at h
    rcases ih _ h with h | ⟨e', h1, h2⟩
    · split at h
      · rename_i hb
        have h' : (m ||| (2 ^ e.on ||| acc.getD e.on 0)).testBit i = true := h
        rw [Nat.testBit_or, Nat.testBit_or, Bool.or_eq_true, Bool.or_eq_true, Nat.testBit_two_pow] at h'
        rcases h' with h' | h' | h'
        · exact .inl h'
        · exact .inr ⟨e, by simp, hb, .inl (by simpa using h')⟩
        · exact .inr ⟨e, by simp, hb, .inr h'⟩
      · exact .inl h
    · exact .inr ⟨e', by simp [h1], h2⟩

theorem masksGo_old (rest : List Oper) : ∀ (acc : List Nat) (j : Nat), j < acc.length → (masksGo acc rest).getD j 0 = acc.getD j 0 := by
  induction rest with
  | nil => intro acc j _; rfl
  | cons o rest ih =>
    intro acc j h
    simp only [masksGo]
    rw [ih _ j (by simp; omega)]
    simp [List.getD, List.getElem?_append_left h]
theorem masksGo_new (rest : List Oper) : ∀ (acc : List Nat) (j : Nat) (o : Oper) (i : Nat), rest[j]? = some o → ((masksGo acc rest).getD (acc.length + j) 0).testBit i = true →
    ∃ e ∈ o.after.toList, Region.binds .any e = true ∧ (e.on = i ∨ ((masksGo acc rest).getD e.on 0).testBit i = true) := by
  induction rest with
  | nil => intro acc j o i h; simp at h
  | cons o' rest ih =>
    intro acc j o i h hb
    cases j with
    | zero =>
      simp at h
      subst h
      simp only [masksGo, Nat.add_zero] at hb ⊢
      rw [masksGo_old _ _ _ (by simp)] at hb
      have : (acc ++ [o'.after.toList.foldl (fun m e => if Region.binds .any e then Nat.lor m (Nat.lor (2 ^ e.on) (acc.getD e.on 0)) else m) 0]).getD acc.length 0 =
          o'.after.toList.foldl (fun m e => if Region.binds .any e then Nat.lor m (Nat.lor (2 ^ e.on) (acc.getD e.on 0)) else m) 0 := by
        simp [List.getD]
      rw [this] at hb
      rcases foldl_bits _ _ _ _ hb with hb | ⟨e, h1, h2, h3⟩
      · simp at hb
      · refine ⟨e, h1, h2, h3.imp id fun h3 => ?_⟩
        by_cases hl : e.on < acc.length
        · rw [masksGo_old _ _ _ (by simp; omega)]
          simp only [List.getD, List.getElem?_append_left hl]
          exact h3
        · have : acc.getD e.on 0 = 0 := by simp [List.getD, List.getElem?_eq_none (Nat.le_of_not_lt hl)]
          rw [this] at h3; simp at h3
    | succ j =>
      simp only [masksGo]
      have := ih (acc ++ [o'.after.toList.foldl (fun m e => if Region.binds .any e then Nat.lor m (Nat.lor (2 ^ e.on) (acc.getD e.on 0)) else m) 0]) j o i (by simpa using h)
      simp only [List.length_append, List.length_cons, List.length_nil] at this
      refine this ?_
      simp only [masksGo] at hb
      rwa [show acc.length + (0 + 1) + j = acc.length + (j + 1) by omega]

theorem forced_edge {ops : Array Oper} {i j : Nat} {o : Oper} (ho : ops[j]? = some o) (h : forced (masks ops) i j = true) :
    ∃ e ∈ o.after.toList, Region.binds .any e = true ∧ (e.on = i ∨ forced (masks ops) i e.on = true) := by
  have := masksGo_new ops.toList [] j o i (by simpa using ho) (by simpa [forced, masks] using h)
  simpa [forced, masks] using this

/-- Every edge leads back. -/
def Back (ops : Array Oper) : Prop := ∀ j o, ops[j]? = some o → ∀ e ∈ o.after.toList, Region.binds .any e = true → e.on < j

theorem forced_in {ops : Array Oper} (hb : Back ops) {S : Nat → Prop} (hS : ∀ j o, ops[j]? = some o → S j → ∀ e ∈ o.after.toList, Region.binds .any e = true → S e.on) :
    ∀ (j : Nat), j < ops.size → ∀ i, (∀ o, ops[j]? = some o → ∀ e ∈ o.after.toList, Region.binds .any e = true → S e.on) → forced (masks ops) i j = true → S i := by
  intro j
  induction j using Nat.strongRecOn with
  | _ j ih =>
    intro hj i hpre h
    have ho : ops[j]? = some ops[j] := Array.getElem?_eq_getElem hj
    obtain ⟨e, h1, h2, h3⟩ := forced_edge ho h
    have hlt := hb j _ ho e h1 h2
    have hSe := hpre _ ho e h1 h2
    rcases h3 with h3 | h3
    · subst h3; exact hSe
    · exact ih e.on hlt (by omega) i (fun o ho' => hS e.on o ho' hSe) h3

structure Static (ops : Array Oper) : Prop where
  back : Back ops
  pair : ∀ i j x y, i < j → ops[i]? = some x → ops[j]? = some y → forced (masks ops) i j = true ∨
    (x.apart ops y = true ∧ ¬ (isCall x = true ∧ mayWrite y = true) ∧ ¬ (isCall y = true ∧ mayWrite x = true))

theorem static_of {ops : Array Oper} (h : drawStatic ops = true) : Static ops := by
  unfold drawStatic at h
  simp only [Bool.and_eq_true, List.all_eq_true, List.mem_range, allPairs] at h
  obtain ⟨h1, h2⟩ := h
  refine ⟨fun j o ho e he hb => ?_, fun i j x y hij hx hy => ?_⟩
  · have hj : j < ops.size := by
      rcases Nat.lt_or_ge j ops.size with g | g
      · exact g
      · rw [Array.getElem?_eq_none g] at ho; cases ho
    have := h1 j hj
    rw [ho] at this
    simp only [List.all_eq_true] at this
    have := this e he
    simpa [hb] using this
  · have hj : j < ops.size := by
      rcases Nat.lt_or_ge j ops.size with g | g
      · exact g
      · rw [Array.getElem?_eq_none g] at hy; cases hy
    have := h2 j hj i hij
    rw [hx, hy] at this
    simp only [Bool.or_eq_true, Bool.and_eq_true, Bool.not_eq_true', Bool.and_eq_false_iff] at this
    rcases this with h | ⟨⟨h3, h4⟩, h5⟩
    · exact .inl h
    · refine .inr ⟨h3, ?_, ?_⟩
      · rintro ⟨a, b⟩; rcases h4 with h | h <;> simp_all
      · rintro ⟨a, b⟩; rcases h5 with h | h <;> simp_all

theorem mem_sPairs {ops : Array Oper} {i j : Nat} {x y : Oper} (hij : i < j) (hx : ops[i]? = some x) (hy : ops[j]? = some y) (hf : forced (masks ops) i j ≠ true)
    (h : (mayWrite x = true ∧ mayTouch y = true) ∨ (mayWrite y = true ∧ mayTouch x = true)) : (i, j) ∈ sPairs ops := by
  have hj : j < ops.size := by
    rcases Nat.lt_or_ge j ops.size with g | g
    · exact g
    · rw [Array.getElem?_eq_none g] at hy; cases hy
  unfold sPairs
  simp only [List.mem_flatMap, List.mem_range, List.mem_filterMap]
  refine ⟨j, hj, i, hij, ?_⟩
  simp only [hx, hy]
  rw [if_pos]
  simp only [Bool.and_eq_true, Bool.not_eq_true', Bool.or_eq_true]
  exact ⟨by simpa using hf, h⟩

theorem mayTouch_of_mayWrite {o : Oper} (h : mayWrite o = true) : mayTouch o = true := by
  unfold mayWrite at h
  unfold mayTouch
  split at h <;> first | (simp_all; done) | (cases h)

/-! ### The run in the text's order, by numbers -/

/-- A chain by its numbers: the states, and what each operation did. -/
structure Tr (P : Program) (nt : Nat) (ops : Array Oper) (N : Nat) (st : Nat → St) (R : Nat → Rec) : Prop where
  step : ∀ (j : Nat) (o : Oper), j < N → ops[j]? = some o → StepOK P nt ops o (R j) ∧ (R j).pre = st j ∧ st (j + 1) = ⟨fput (st j).f o.dst (R j).v, (R j).n, (R j).H⟩

theorem chain_tr {P : Program} {nt : Nat} {ops : Array Oper} : ∀ {rest : List Oper} {s s1 : St} {l : List Rec}, Chain P nt ops rest s l s1 →
    ∃ (st : Nat → St) (R : Nat → Rec), st 0 = s ∧ st rest.length = s1 ∧ l.length = rest.length ∧ (∀ j, j < rest.length → l[j]? = some (R j)) ∧
      ∀ j o, rest[j]? = some o → StepOK P nt ops o (R j) ∧ (R j).pre = st j ∧ st (j + 1) = ⟨fput (st j).f o.dst (R j).v, (R j).n, (R j).H⟩ := by
  intro rest s s1 l h
  induction h with
  | nil s => exact ⟨fun _ => s, fun _ => ⟨s, undef, s.n, s.H, [], none, false⟩, rfl, rfl, rfl, fun j hj => by simp at hj, fun j o e => by simp at e⟩
  | @cons o rest r l s1 hs hc ih =>
    obtain ⟨st, R, h0, h1, h2, h3, h4⟩ := ih
    refine ⟨fun j => match j with | 0 => r.pre | j + 1 => st j, fun j => match j with | 0 => r | j + 1 => R j, rfl, h1, by simp [h2], fun j hj => ?_, fun j o' e => ?_⟩
    · cases j with
      | zero => rfl
      | succ j => simpa using h3 j (by simpa using hj)
    · cases j with
      | zero => simp at e; subst e; exact ⟨hs, rfl, h0⟩
      | succ j => exact h4 j o' (by simpa using e)

section
variable {P : Program} {nt : Nat} {ops : Array Oper} {st : Nat → St} {R : Nat → Rec}

noncomputable def foldC (st : Nat → St) (C0 : Heap) (S : Nat → Prop) : Nat → Heap
  | 0 => C0
  | j + 1 => fun x => open Classical in if S j ∧ (st (j + 1)).H x ≠ (st j).H x then (st (j + 1)).H x else foldC st C0 S j x
noncomputable def foldF (ops : Array Oper) (st : Nat → St) (R : Nat → Rec) (S : Nat → Prop) : Nat → Fr
  | 0 => (st 0).f
  | j + 1 => open Classical in if S j then fput (foldF ops st R S j) ((ops[j]?).bind (·.dst)) (R j).v else foldF ops st R S j

theorem foldC_yes {C0 : Heap} {S : Nat → Prop} {j x : Nat} (h : S j) (hx : (st (j + 1)).H x ≠ (st j).H x) : foldC st C0 S (j + 1) x = (st (j + 1)).H x := by
  simp only [foldC]; rw [if_pos ⟨h, hx⟩]
theorem foldC_no {C0 : Heap} {S : Nat → Prop} {j x : Nat} (h : ¬ (S j ∧ (st (j + 1)).H x ≠ (st j).H x)) : foldC st C0 S (j + 1) x = foldC st C0 S j x := by
  simp only [foldC]; rw [if_neg h]

/-- Nothing turns x from i on. -/
theorem foldC_late {C0 : Heap} {S : Nat → Prop} {x i : Nat} : ∀ N, i ≤ N → (∀ j, i ≤ j → j < N → S j → (st (j + 1)).H x = (st j).H x) → foldC st C0 S N x = foldC st C0 S i x := by
  intro N hN
  induction N with
  | zero => intro _; have : i = 0 := by omega
            subst this; rfl
  | succ N ih =>
    intro h
    by_cases e : i = N + 1
    · subst e; rfl
    · rw [foldC_no (fun ⟨a, b⟩ => b (h N (by omega) (by omega) a)), ih (by omega) fun j h1 h2 => h j h1 (by omega)]

/-- All that turns x ahead of i is among S. -/
theorem foldC_early {C0 : Heap} {S : Nat → Prop} {x : Nat} (h0 : C0 x = (st 0).H x) : ∀ i, (∀ j, j < i → (st (j + 1)).H x ≠ (st j).H x → S j) → foldC st C0 S i x = (st i).H x := by
  intro i
  induction i with
  | zero => intro _; exact h0
  | succ i ih =>
    intro h
    by_cases hx : (st (i + 1)).H x = (st i).H x
    · rw [foldC_no (fun ⟨_, b⟩ => b hx), ih fun j h1 => h j (by omega), hx]
    · exact foldC_yes (h i (by omega) hx) hx

theorem foldC_congr {C0 : Heap} {S S' : Nat → Prop} {x : Nat} : ∀ N, (∀ j, j < N → (st (j + 1)).H x ≠ (st j).H x → (S j ↔ S' j)) → foldC st C0 S N x = foldC st C0 S' N x := by
  intro N
  induction N with
  | zero => intro _; rfl
  | succ N ih =>
    intro h
    by_cases hx : (st (N + 1)).H x = (st N).H x
    · rw [foldC_no (fun ⟨_, b⟩ => b hx), foldC_no (fun ⟨_, b⟩ => b hx), ih fun j h1 => h j (by omega)]
    · by_cases hs : S N
      · rw [foldC_yes hs hx, foldC_yes ((h N (by omega) hx).1 hs) hx]
      · rw [foldC_no (fun ⟨a, _⟩ => hs a), foldC_no (fun ⟨a, _⟩ => hs ((h N (by omega) hx).2 a)), ih fun j h1 => h j (by omega)]

theorem fput_other (f : Fr) {d : Option Nat} {v : Value} {t : Nat} (h : d ≠ some t) : fput f d v t = f t := by
  cases d with
  | none => rfl
  | some d =>
    show fset f d v t = f t
    rw [fset_apply, if_neg (fun e => h (by rw [e]))]
theorem fput_same (f : Fr) (t : Nat) (v : Value) : fput f (some t) v t = v := by
  show fset f t v t = v
  rw [fset_apply, if_pos rfl]

theorem foldF_late {S : Nat → Prop} {t i : Nat} : ∀ N, i ≤ N → (∀ j, i ≤ j → j < N → S j → (ops[j]?).bind (·.dst) ≠ some t) → foldF ops st R S N t = foldF ops st R S i t := by
  intro N hN
  induction N with
  | zero => intro _; have : i = 0 := by omega
            subst this; rfl
  | succ N ih =>
    intro h
    by_cases e : i = N + 1
    · subst e; rfl
    · have ih' := ih (by omega) fun j h1 h2 => h j h1 (by omega)
      simp only [foldF]
      split
      · rename_i hs; rw [fput_other _ (h N (by omega) (by omega) hs), ih']
      · exact ih'

theorem foldF_early {S : Nat → Prop} {t N : Nat} (hT : Tr P nt ops N st R) : ∀ i, i ≤ N → i ≤ ops.size → (∀ j, j < i → (ops[j]?).bind (·.dst) = some t → S j) → foldF ops st R S i t = (st i).f t := by
  intro i
  induction i with
  | zero => intro _ _ _; rfl
  | succ i ih =>
    intro hN hsz h
    have ih' := ih (by omega) (by omega) fun j h1 => h j (by omega)
    have ho : ops[i]? = some ops[i] := Array.getElem?_eq_getElem (by omega)
    obtain ⟨_, _, h3⟩ := hT.step i _ (by omega) ho
    rw [h3]
    simp only [foldF]
    by_cases hd : (ops[i]?).bind (·.dst) = some t
    · rw [if_pos (h i (by omega) hd)]
      rw [ho] at hd ⊢
      simp only [Option.bind_some] at hd ⊢
      rw [hd, fput_same, fput_same]
    · have hd' : ops[i].dst ≠ some t := by rw [ho] at hd; simpa using hd
      rw [fput_other _ hd']
      split
      · rw [fput_other _ hd]; exact ih'
      · exact ih'

theorem foldF_congr {S S' : Nat → Prop} {t : Nat} : ∀ N, (∀ j, j < N → (ops[j]?).bind (·.dst) = some t → (S j ↔ S' j)) → foldF ops st R S N t = foldF ops st R S' N t := by
  intro N
  induction N with
  | zero => intro _; rfl
  | succ N ih =>
    intro h
    have ih' := ih fun j h1 => h j (by omega)
    simp only [foldF]
    by_cases hd : (ops[N]?).bind (·.dst) = some t
    · have hi := h N (by omega) hd
      by_cases hs : S N
      · rw [if_pos hs, if_pos (hi.1 hs), hd, fput_same, fput_same]
      · rw [if_neg hs, if_neg (fun e => hs (hi.2 e)), ih']
    · have e1 : ∀ (f : Fr), fput f ((ops[N]?).bind (·.dst)) (R N).v t = f t := fun f => fput_other f hd
      by_cases hs : S N <;> by_cases hs' : S' N <;> simp [hs, hs', e1, ih']

/-- What is known while a region's operations come in some order: S have come. -/
structure J (P : Program) (base : Nat) (nt : Nat) (ops : Array Oper) (st : Nat → St) (R : Nat → Rec) (ι0 : Inj) (C0 : Heap) (w0 : World) (S : Nat → Prop) (ι : Inj) (a : Act) (w : World) : Prop where
  fr : FR ι nt (foldF ops st R S ops.size) a.tmps
  hr : HR P base ι (foldC st C0 S ops.size) w
  le : Inj.le ι0 ι
  dom : ∀ x, (∀ j, j < ops.size → S j → ¬ ((st j).n ≤ x ∧ x < (st (j + 1)).n)) → ι x = ι0 x
  seen : ∀ j, j < ops.size → S j → ∀ x, (st (j + 1)).H x ≠ (st j).H x → ι x ≠ none
  below : Below base w0 w

/-- What stands of the region as a whole. -/
structure Region0 (P : Program) (nt : Nat) (ops : Array Oper) (st : Nat → St) (R : Nat → Rec) (base : Nat) (ι0 : Inj) (C0 : Heap) (w0 : World) : Prop where
  tr : Tr P nt ops ops.size st R
  static : Static ops
  ok : ∀ (j : Nat) (o : Oper), ops[j]? = some o → operOK nt ops o = true
  pairs : ∀ i j, (i, j) ∈ sPairs ops → ∀ x, ¬ ((R i).wr = some x ∧ (x ∈ (R j).rd ∨ (R j).wr = some x)) ∧ ¬ ((R j).wr = some x ∧ (x ∈ (R i).rd ∨ (R i).wr = some x))
  calls : ∀ j, j < ops.size → (R j).call = true → ∀ x, x < (st j).n → (st (j + 1)).H x = (st j).H x
  wf : WF (st 0).n (st 0).H
  hr : HR P base ι0 C0 w0
  pres : Pres ι0 C0 (st 0).H
  fresh : Fresh ι0 (st 0).n (st ops.size).n

section
variable {P : Program} {nt : Nat} {ops : Array Oper} {st : Nat → St} {R : Nat → Rec} {base : Nat} {ι0 : Inj} {C0 : Heap} {w0 : World}

namespace Region0

theorem get (Z : Region0 P nt ops st R base ι0 C0 w0) {j : Nat} (hj : j < ops.size) : ∃ o, ops[j]? = some o ∧ StepOK P nt ops o (R j) ∧ (R j).pre = st j ∧ st (j + 1) = ⟨fput (st j).f o.dst (R j).v, (R j).n, (R j).H⟩ := by
  have ho : ops[j]? = some ops[j] := Array.getElem?_eq_getElem hj
  exact ⟨_, ho, Z.tr.step j _ hj ho⟩

theorem mono1 (Z : Region0 P nt ops st R base ι0 C0 w0) {j : Nat} (hj : j < ops.size) : Mono (st j).n (st j).H (st (j + 1)).n (st (j + 1)).H := by
  obtain ⟨o, _, h1, h2, h3⟩ := Z.get hj
  have := h1.mono
  rw [h2] at this
  rw [h3]; exact this

theorem mono (Z : Region0 P nt ops st R base ι0 C0 w0) {i : Nat} : ∀ k, i ≤ k → k ≤ ops.size → Mono (st i).n (st i).H (st k).n (st k).H := by
  intro k
  induction k with
  | zero => intro h _; have : i = 0 := by omega
            subst this; exact Mono.refl _ _
  | succ k ih =>
    intro h hk
    by_cases e : i = k + 1
    · subst e; exact Mono.refl _ _
    · exact (ih (by omega) (by omega)).trans (Z.mono1 (by omega))

theorem wfAt (Z : Region0 P nt ops st R base ι0 C0 w0) {i : Nat} (hi : i ≤ ops.size) : WF (st i).n (st i).H := (Z.mono i (Nat.zero_le _) hi).wf Z.wf

/-- An object that operation j turns is a new one, or the one that it writes. -/
theorem turned (Z : Region0 P nt ops st R base ι0 C0 w0) {j x : Nat} (hj : j < ops.size) (h : (st (j + 1)).H x ≠ (st j).H x) : ((st j).n ≤ x ∧ x < (st (j + 1)).n) ∨ ((R j).wr = some x ∧ (R j).call = false ∧ (st j).H x ≠ .dead) := by
  obtain ⟨o, ho, h1, h2, h3⟩ := Z.get hj
  by_cases hc : (R j).call = true
  · left
    refine ⟨?_, ?_⟩
    · rcases Nat.lt_or_ge x (st j).n with g | g
      · exact absurd (Z.calls j hj hc x g) h
      · exact g
    · rcases Nat.lt_or_ge x (st (j + 1)).n with g | g
      · exact g
      · exfalso
        refine h ?_
        rw [Z.wfAt (by omega) x g, Z.wfAt (i := j) (by omega) x (Nat.le_trans (Z.mono1 hj).le g)]
  · have hc' : (R j).call = false := by simpa using hc
    have ht := h1.turned hc' (by rw [h2]; exact Z.wfAt (by omega)) x (by rw [h2]; rw [h3] at h; exact h)
    rcases ht with ht | ht
    · left; rw [h2] at ht; rw [h3]; exact ht
    · right
      refine ⟨ht, hc', ?_⟩
      have := h1.live x (.inr ht)
      rwa [h2] at this

/-- Two operations whose order is open do not get into each other's way. -/
theorem clash (Z : Region0 P nt ops st R base ι0 C0 w0) {i j x : Nat} (hij : i < j) (hj : j < ops.size) (hf : forced (masks ops) i j ≠ true) (hi : (R i).wr = some x) (hjx : x ∈ (R j).rd ∨ (R j).wr = some x) : False := by
  obtain ⟨o, ho, h1, _⟩ := Z.get (j := i) (by omega)
  obtain ⟨o', ho', h1', _⟩ := Z.get hj
  have hw : mayWrite o = true := h1.wr (by rw [hi]; simp)
  have ht : mayTouch o' = true := by
    rcases hjx with h | h
    · exact h1'.rd (fun e => by rw [e] at h; cases h)
    · exact mayTouch_of_mayWrite (h1'.wr (by rw [h]; simp))
  exact (Z.pairs i j (mem_sPairs hij ho ho' hf (.inl ⟨hw, ht⟩)) x).1 ⟨hi, hjx⟩
theorem clash' (Z : Region0 P nt ops st R base ι0 C0 w0) {i j x : Nat} (hij : i < j) (hj : j < ops.size) (hf : forced (masks ops) i j ≠ true) (hi : (R j).wr = some x) (hjx : x ∈ (R i).rd ∨ (R i).wr = some x) : False := by
  obtain ⟨o, ho, h1, _⟩ := Z.get (j := i) (by omega)
  obtain ⟨o', ho', h1', _⟩ := Z.get hj
  have hw : mayWrite o' = true := h1'.wr (by rw [hi]; simp)
  have ht : mayTouch o = true := by
    rcases hjx with h | h
    · exact h1.rd (fun e => by rw [e] at h; cases h)
    · exact mayTouch_of_mayWrite (h1.wr (by rw [h]; simp))
  exact (Z.pairs i j (mem_sPairs hij ho ho' hf (.inr ⟨hw, ht⟩)) x).2 ⟨hi, hjx⟩

end Region0

/-- S is closed under what must come ahead. -/
def Closed (ops : Array Oper) (S : Nat → Prop) : Prop := ∀ j o, ops[j]? = some o → S j → ∀ e ∈ o.after.toList, Region.binds .any e = true → S e.on
/-- i may come next. -/
def Ready (ops : Array Oper) (S : Nat → Prop) (i : Nat) : Prop := i < ops.size ∧ ¬ S i ∧ ∀ o, ops[i]? = some o → ∀ e ∈ o.after.toList, Region.binds .any e = true → S e.on

theorem forced_ready (Z : Region0 P nt ops st R base ι0 C0 w0) {S : Nat → Prop} (hS : Closed ops S) {i j : Nat} (hr : Ready ops S i) (h : forced (masks ops) j i = true) : S j :=
  forced_in Z.static.back hS i hr.1 j hr.2.2 h
theorem forced_closed (Z : Region0 P nt ops st R base ι0 C0 w0) {S : Nat → Prop} (hS : Closed ops S) {i j : Nat} (hj : j < ops.size) (hs : S j) (h : forced (masks ops) i j = true) : S i :=
  forced_in Z.static.back hS j hj i (fun o ho => hS j o ho hs) h

/-- WHAT OPERATION i FINDS: the slots that it looks at. -/
theorem slot_found (Z : Region0 P nt ops st R base ι0 C0 w0) {S : Nat → Prop} (hS : Closed ops S) {i : Nat} (hr : Ready ops S i) {o : Oper} (ho : ops[i]? = some o) {t : Nat} (ht : t ∈ o.looksAt ops) :
    foldF ops st R S ops.size t = (st i).f t := by
  have hi := hr.1
  rw [foldF_late (ops := ops) (R := R) (st := st) (S := S) (t := t) (i := i) ops.size (by omega)]
  · refine foldF_early Z.tr i (by omega) (by omega) fun j hj hd => ?_
    have hoj : ops[j]? = some ops[j] := Array.getElem?_eq_getElem (by omega)
    rcases Z.static.pair j i _ _ hj hoj ho with h | ⟨h, _⟩
    · exact forced_ready Z hS hr h
    · exfalso
      rw [hoj] at hd
      exact (Oper.apart_spec h).1 t (by simpa using hd) ht
  · intro j hij hj hs hd
    by_cases e : j = i
    · subst e; exact hr.2.1 hs
    · have hoj : ops[j]? = some ops[j] := Array.getElem?_eq_getElem hj
      rcases Z.static.pair i j _ _ (by omega) ho hoj with h | ⟨h, _⟩
      · exact hr.2.1 (forced_closed Z hS hj hs h)
      · rw [hoj] at hd
        exact (Oper.apart_spec h).2.2 t (by simpa using hd) ht

/-- .. the objects that it touches. -/
theorem obj_found (Z : Region0 P nt ops st R base ι0 C0 w0) {S : Nat → Prop} (hS : Closed ops S) {ι : Inj} {a : Act} {w : World} (hJ : J P base nt ops st R ι0 C0 w0 S ι a w)
    {i : Nat} (hr : Ready ops S i) {x : Nat} (hx : ((R i).call = true ∧ (st i).H x ≠ .dead) ∨ x ∈ (R i).rd ∨ (R i).wr = some x) (hι : ι x ≠ none) : foldC st C0 S ops.size x = (st i).H x := by
  have hi := hr.1
  obtain ⟨o, ho, h1, h2, h3⟩ := Z.get hi
  have hlive : (st i).H x ≠ .dead := by
    rcases hx with ⟨_, h⟩ | h
    · exact h
    · have := h1.live x h; rwa [h2] at this
  have hxn : x < (st i).n := by
    rcases Nat.lt_or_ge x (st i).n with g | g
    · exact g
    · exact absurd (Z.wfAt (by omega) x g) hlive
  rw [foldC_late (i := i) ops.size (by omega)]
  · refine foldC_early ?_ i fun j hj hc => ?_
    · -- at the beginning
      by_cases hx0 : x < (st 0).n
      · have hd : (st 0).H x ≠ .dead := fun e => hlive ((Z.mono i (Nat.zero_le _) (by omega)).dead x hx0 e)
        refine Z.pres x ?_ hd
        rw [← hJ.dom x]
        · exact hι
        · intro j hj _ h
          have := (Z.mono j (Nat.zero_le _) (by omega)).le
          omega
      · have hfr := Z.fresh x (by omega) (Nat.lt_of_lt_of_le hxn (Z.mono (i := i) ops.size (by omega) (Nat.le_refl _)).le)
        rw [Z.wf x (by omega)]
        by_cases hd : C0 x = .dead
        · exact hd
        · obtain ⟨t, ht⟩ := (Z.hr.obj x).tgt hd
          rw [hfr] at ht; cases ht
    · -- what turned it ahead of i has come
      rcases Z.turned (by omega) hc with hn | ⟨hw, hcf, _⟩
      · -- allocated by j: it is there
        apply Classical.byContradiction
        intro hns
        refine hι ?_
        rw [hJ.dom x, Z.fresh x (Nat.le_trans (Z.mono j (Nat.zero_le _) (by omega)).le hn.1) (Nat.lt_of_lt_of_le hn.2 (Z.mono (i := j + 1) ops.size (by omega) (Nat.le_refl _)).le)]
        intro k hk hs hkx
        by_cases hkj : k = j
        · subst hkj; exact hns hs
        · rcases Nat.lt_or_ge k j with g | g
          · have := (Z.mono (i := k + 1) j (by omega) (by omega)).le; omega
          · have := (Z.mono (i := j + 1) k (by omega) (by omega)).le; omega
      · by_cases hf : forced (masks ops) j i = true
        · exact forced_ready Z hS hr hf
        · exfalso
          obtain ⟨oj, hoj, h1j, _⟩ := Z.get (j := j) (by omega)
          rcases hx with ⟨hcall, _⟩ | hx
          · have hmw : mayWrite oj = true := h1j.wr (by rw [hw]; simp)
            rcases Z.static.pair j i _ _ hj hoj ho with h | ⟨_, _, h⟩
            · exact hf h
            · exact h ⟨h1.call hcall, hmw⟩
          · exact Z.clash hj hi hf hw hx
  · intro j hij hj hs
    apply Classical.byContradiction
    intro hc
    by_cases e : j = i
    · subst e; exact hr.2.1 hs
    · rcases Z.turned hj hc with hn | ⟨hw, _, _⟩
      · have := (Z.mono (i := i) j (by omega) (by omega)).le; omega
      · have hf : forced (masks ops) i j ≠ true := fun h => hr.2.1 (forced_closed Z hS hj hs h)
        obtain ⟨oj, hoj, h1j, _⟩ := Z.get hj
        rcases hx with ⟨hcall, _⟩ | hx
        · have hmw : mayWrite oj = true := h1j.wr (by rw [hw]; simp)
          rcases Z.static.pair i j _ _ (by omega) ho hoj with h | ⟨_, h, _⟩
          · exact hf h
          · exact h ⟨h1.call hcall, hmw⟩
        · exact Z.clash' (by omega) hj hf hw hx

def with_ (S : Nat → Prop) (i : Nat) : Nat → Prop := fun j => S j ∨ j = i

theorem foldC_with (Z : Region0 P nt ops st R base ι0 C0 w0) {S : Nat → Prop} (hS : Closed ops S) {ι : Inj} {a : Act} {w : World} (hJ : J P base nt ops st R ι0 C0 w0 S ι a w)
    {i : Nat} (hr : Ready ops S i) {C' : Heap} (hf : Fresh ι (st i).n (st (i + 1)).n) (hc : Ch (foldC st C0 S ops.size) (st i).H C' (st (i + 1)).H) : C' = foldC st C0 (with_ S i) ops.size := by
  have hi := hr.1
  funext x
  by_cases hx : (st (i + 1)).H x = (st i).H x
  · have h1 : C' x = foldC st C0 S ops.size x := by
      rcases hc x with ⟨_, h⟩ | ⟨h1, h2⟩
      · exact h
      · rw [h1, hx, h2]
    rw [h1]
    refine foldC_congr ops.size fun j hj hcj => ⟨fun h => .inl h, fun h => ?_⟩
    rcases h with h | h
    · exact h
    · subst h; exact absurd hx hcj
  · have h1 : C' x = (st (i + 1)).H x := by
      rcases hc x with ⟨h, _⟩ | ⟨h, _⟩
      · exact absurd h hx
      · exact h
    rw [h1, foldC_late (i := i + 1) ops.size (by omega), foldC_yes (.inr rfl) hx]
    intro j hij hj hs
    apply Classical.byContradiction
    intro hcj
    have hsj : S j := by
      rcases hs with h | h
      · exact h
      · omega
    obtain ⟨o, ho, h1', h2', h3'⟩ := Z.get hi
    rcases Z.turned hi hx with hn | ⟨hw, _, hl⟩
    · -- i makes it: j can't have met it
      exact absurd (hf x hn.1 hn.2) (hJ.seen j hj hsj x hcj)
    · rcases Z.turned hj hcj with hn | ⟨hw2, _, _⟩
      · have h4 := (Z.mono (i := i) j (by omega) (by omega)).le
        exact hl (Z.wfAt (by omega) x (by omega))
      · by_cases hfo : forced (masks ops) i j = true
        · exact hr.2.1 (forced_closed Z hS hj hsj hfo)
        · exact Z.clash (by omega) hj hfo hw (.inr hw2)

theorem foldF_with (Z : Region0 P nt ops st R base ι0 C0 w0) {S : Nat → Prop} (hS : Closed ops S) {i : Nat} (hr : Ready ops S i) {o : Oper} (ho : ops[i]? = some o) (t : Nat) :
    foldF ops st R (with_ S i) ops.size t = fput (foldF ops st R S ops.size) o.dst (R i).v t := by
  have hi := hr.1
  by_cases hd : o.dst = some t
  · rw [hd, fput_same, foldF_late (i := i + 1) ops.size (by omega)]
    · have hw : with_ S i i := .inr rfl
      simp only [foldF]
      rw [if_pos hw, ho, Option.bind_some, hd, fput_same]
    · intro j hij hj hs hdj
      have hsj : S j := by
        rcases hs with h | h
        · exact h
        · omega
      have hoj : ops[j]? = some ops[j] := Array.getElem?_eq_getElem hj
      rcases Z.static.pair i j _ _ (by omega) ho hoj with h | ⟨h, _⟩
      · exact hr.2.1 (forced_closed Z hS hj hsj h)
      · rw [hoj] at hdj
        exact (Oper.apart_spec h).2.1 t hd (by simpa using hdj)
  · rw [fput_other _ hd]
    refine foldF_congr ops.size fun j hj hdj => ⟨fun h => ?_, fun h => .inl h⟩
    rcases h with h | h
    · exact h
    · subst h; rw [ho] at hdj; exact absurd (by simpa using hdj) hd

theorem closed_with {S : Nat → Prop} (hS : Closed ops S) {i : Nat} (hr : Ready ops S i) : Closed ops (with_ S i) := by
  intro j o ho hs e he hb
  rcases hs with h | h
  · exact .inl (hS j o ho h e he hb)
  · subst h; exact .inl (hr.2.2 o ho e he hb)

/-- ONE OPERATION COMES. -/
theorem draw_step (Z : Region0 P nt ops st R base ι0 C0 w0) {S : Nat → Prop} (hS : Closed ops S) {ι : Inj} {a : Act} {w : World} (hJ : J P base nt ops st R ι0 C0 w0 S ι a w)
    {i : Nat} (hr : Ready ops S i) {K : Act → World → Prop} {Q : Exit → Act → World → Prop}
    (hK : ∀ a' w' κ, J P base nt ops st R ι0 C0 w0 (with_ S i) κ a' w' → a'.defers = a.defers → K a' w') : wpOp P ops Q i K a w := by
  have hi := hr.1
  obtain ⟨o, ho, h1, h2, h3⟩ := Z.get hi
  have hok := Z.ok i o ho
  have hn : (R i).n = (st (i + 1)).n := by rw [h3]
  have hH : (R i).H = (st (i + 1)).H := by rw [h3]
  have hfresh : Fresh ι (st i).n (st (i + 1)).n := by
    intro x hx1 hx2
    rw [hJ.dom x, Z.fresh x (Nat.le_trans (Z.mono i (Nat.zero_le _) (by omega)).le hx1) (Nat.lt_of_lt_of_le hx2 (Z.mono (i := i + 1) ops.size (by omega) (Nat.le_refl _)).le)]
    intro k hk hs hkx
    by_cases hki : k = i
    · subst hki; exact hr.2.1 hs
    · rcases Nat.lt_or_ge k i with g | g
      · have := (Z.mono (i := k + 1) i (by omega) (by omega)).le; omega
      · have := (Z.mono (i := i + 1) k (by omega) (by omega)).le; omega
  unfold wpOp
  simp only [ho]
  have hx := h1.exec (by rw [h2]; exact Z.wfAt (by omega)) base ι (foldC st C0 S ops.size) a w hJ.fr.1 (fun t ht => by
      rw [h2, ← slot_found Z hS hr ho ht]; exact hJ.fr.2 t (looks_lt hok t ht)) hJ.hr (fun x hx hι => by
      rw [h2] at hx ⊢; exact obj_found Z hS hJ hr hx hι) (by rw [h2, hn]; exact hfresh) K Q (fun v' w' κ C' hv ha => by
      rw [h2, hn, hH] at ha
      refine hK (a.put o.dst v') w' κ ⟨?_, ?_, Inj.le_trans hJ.le ha.le, fun x hx => ?_, fun j hj hs x hc => ?_, hJ.below.trans ha.below⟩ (by cases o.dst <;> rfl)
      · have hF := (hJ.fr.mono ha.le).put (dst_ok hok) hv
        refine ⟨hF.1, fun t ht => ?_⟩
        rw [foldF_with Z hS hr ho t]
        exact hF.2 t ht
      · rw [← foldC_with Z hS hJ hr hfresh ha.ch]; exact ha.hr
      · rw [ha.out x (hx i hi (.inr rfl)), hJ.dom x fun j hj hs => hx j hj (.inl hs)]
      · rcases hs with hs | hs
        · intro e
          cases hk : ι x with
          | none => exact hJ.seen j hj hs x hc hk
          | some t => rw [ha.le x t hk] at e; cases e
        · subst hs; exact ha.seen x hc)
  split
  · rename_i hw; simp only [hw, if_true] at hx; exact .inl hx
  · rename_i hw; simp only [hw] at hx; exact hx

/-- Where nothing may come any more, all have come. -/
theorem all_come (Z : Region0 P nt ops st R base ι0 C0 w0) {S : Nat → Prop} (h : ∀ i, ¬ Ready ops S i) : ∀ j, j < ops.size → S j := by
  intro j
  induction j using Nat.strongRecOn with
  | _ j ih =>
    intro hj
    apply Classical.byContradiction
    intro hs
    exact h j ⟨hj, hs, fun o ho e he hb => ih e.on (Z.static.back j o ho e he hb) (by have := Z.static.back j o ho e he hb; omega)⟩

theorem draw_end (Z : Region0 P nt ops st R base ι0 C0 w0) {S : Nat → Prop} {ι : Inj} {a : Act} {w : World} (hJ : J P base nt ops st R ι0 C0 w0 S ι a w) (hall : ∀ j, j < ops.size → S j) :
    FR ι nt (st ops.size).f a.tmps ∧ After P base ι0 C0 (st 0).H (st 0).n w0 ι (foldC st C0 S ops.size) (st ops.size).H (st ops.size).n w := by
  refine ⟨⟨hJ.fr.1, fun t ht => ?_⟩, hJ.le, fun x hx => ?_, fun x => ?_, fun x hx => ?_, hJ.hr, hJ.below⟩
  · have := foldF_early (S := S) (t := t) Z.tr ops.size (Nat.le_refl _) (Nat.le_refl _) fun j hj _ => hall j hj
    rw [← this]; exact hJ.fr.2 t ht
  · refine hJ.dom x fun j hj _ h => hx ⟨Nat.le_trans (Z.mono j (Nat.zero_le _) (by omega)).le h.1, Nat.lt_of_lt_of_le h.2 (Z.mono (i := j + 1) ops.size (by omega) (Nat.le_refl _)).le⟩
  · by_cases hch : ∃ j, j < ops.size ∧ (st (j + 1)).H x ≠ (st j).H x
    · right
      obtain ⟨j, hj, hc⟩ := hch
      have hι := hJ.seen j hj (hall j hj) x hc
      have h0 : C0 x = (st 0).H x := by
        by_cases hx0 : (st 0).n ≤ x
        · have hxN : x < (st ops.size).n := by
            rcases Nat.lt_or_ge x (st ops.size).n with g | g
            · exact g
            · exfalso
              refine hc ?_
              rw [Z.wfAt (i := j + 1) (by omega) x (Nat.le_trans (Z.mono (i := j + 1) ops.size (by omega) (Nat.le_refl _)).le g),
                Z.wfAt (i := j) (by omega) x (Nat.le_trans (Z.mono (i := j) ops.size (by omega) (Nat.le_refl _)).le g)]
          rw [Z.wf x hx0]
          by_cases hd : C0 x = .dead
          · exact hd
          · obtain ⟨t, ht⟩ := (Z.hr.obj x).tgt hd
            rw [Z.fresh x hx0 hxN] at ht; cases ht
        · have hd : (st 0).H x ≠ .dead := by
            intro e
            have e1 := (Z.mono j (Nat.zero_le _) (by omega)).dead x (by omega) e
            have e2 := (Z.mono (j + 1) (Nat.zero_le _) (by omega)).dead x (by omega) e
            exact hc (by rw [e1, e2])
          refine Z.pres x ?_ hd
          rw [← hJ.dom x]
          · exact hι
          · intro k hk _ h
            have := (Z.mono k (Nat.zero_le _) (by omega)).le
            omega
      exact ⟨foldC_early h0 ops.size fun k hk _ => hall k hk, h0⟩
    · left
      have hno : ∀ k, k < ops.size → (st (k + 1)).H x = (st k).H x := fun k hk => Classical.byContradiction fun h => hch ⟨k, hk, h⟩
      have hH : ∀ k, k ≤ ops.size → (st k).H x = (st 0).H x := by
        intro k
        induction k with
        | zero => intro _; rfl
        | succ k ih => intro hk; rw [hno k (by omega), ih (by omega)]
      exact ⟨hH _ (Nat.le_refl _), foldC_late (i := 0) ops.size (Nat.zero_le _) fun j _ hj _ => hno j hj⟩
  · have hch : ∃ j, j < ops.size ∧ (st (j + 1)).H x ≠ (st j).H x := by
      apply Classical.byContradiction
      intro hno
      refine hx ?_
      have hH : ∀ k, k ≤ ops.size → (st k).H x = (st 0).H x := by
        intro k
        induction k with
        | zero => intro _; rfl
        | succ k ih => intro hk; rw [Classical.byContradiction fun h => hno ⟨k, by omega, h⟩, ih (by omega)]
      exact hH _ (Nat.le_refl _)
    obtain ⟨j, hj, hc⟩ := hch
    exact hJ.seen j hj (hall j hj) x hc

/-- the operations that have come, as the model lists them -/
def come (listed : Array Bool) : Nat → Prop := fun j => listed.getD j false = true

theorem ready_iff {listed : Array Bool} (hl : listed.size = ops.size) (i : Nat) : i ∈ Region.ready .any ops listed ↔ Ready ops (come listed) i := by
  rw [mem_ready]
  constructor
  · rintro ⟨h1, o, ho, h2⟩
    have hi : i < ops.size := by
      rcases Nat.lt_or_ge i ops.size with g | g
      · exact g
      · rw [Array.getElem?_eq_none g] at ho; cases ho
    refine ⟨hi, ?_, fun o' ho' e he hb => ?_⟩
    · unfold come
      have : listed[i]? = some listed[i] := Array.getElem?_eq_getElem (by omega)
      rw [Array.getD_eq_getD_getElem?, this] at h1 ⊢
      simp at h1 ⊢; exact h1
    · rw [ho] at ho'; cases ho'
      exact h2 e (by simpa using he) hb
  · rintro ⟨hi, h1, h2⟩
    refine ⟨?_, ops[i], Array.getElem?_eq_getElem hi, fun e he hb => h2 _ (Array.getElem?_eq_getElem hi) e (by simpa using he) hb⟩
    unfold come at h1
    have : listed[i]? = some listed[i] := Array.getElem?_eq_getElem (by omega)
    rw [Array.getD_eq_getD_getElem?, this] at h1 ⊢
    simp at h1 ⊢; exact h1

theorem come_set {listed : Array Bool} (hl : listed.size = ops.size) {i : Nat} (hi : i < ops.size) : come (listed.setIfInBounds i true) = with_ (come listed) i := by
  funext j
  show ((listed.setIfInBounds i true).getD j false = true) = (listed.getD j false = true ∨ j = i)
  rw [Array.getD_eq_getD_getElem?, Array.getElem?_setIfInBounds, Array.getD_eq_getD_getElem?]
  by_cases h : i = j
  · subst h
    have : i < listed.size := by omega
    simp [this]
  · have : ¬ j = i := fun e => h e.symm
    simp [h, this]

theorem countP_le {p q : Nat → Bool} (h : ∀ x, q x = true → p x = true) : ∀ l : List Nat, l.countP q ≤ l.countP p := by
  intro l
  induction l with
  | nil => simp
  | cons x l ih =>
    simp only [List.countP_cons]
    by_cases hq : q x = true
    · simp [hq, h x hq, ih]
    · simp only [Bool.not_eq_true] at hq
      simp only [hq, Bool.false_eq_true, if_false]
      split <;> omega
theorem countP_lt {p q : Nat → Bool} (h : ∀ x, q x = true → p x = true) {i : Nat} (hp : p i = true) (hq : q i = false) : ∀ l : List Nat, i ∈ l → l.countP q + 1 ≤ l.countP p := by
  intro l
  induction l with
  | nil => intro hi; cases hi
  | cons x l ih =>
    intro hi
    simp only [List.countP_cons]
    rcases List.mem_cons.1 hi with e | e
    · subst e
      have := countP_le h l
      simp [hp, hq]; exact this
    · have := ih e
      by_cases hqx : q x = true
      · simp [hqx, h x hqx]; omega
      · simp only [Bool.not_eq_true] at hqx
        simp only [hqx, Bool.false_eq_true, if_false]
        split <;> omega

theorem draw_any (Z : Region0 P nt ops st R base ι0 C0 w0) {a0 : Act} {Q : Exit → Act → World → Prop}
    (hQ : ∀ a' w' κ C', FR κ nt (st ops.size).f a'.tmps → a'.defers = a0.defers → After P base ι0 C0 (st 0).H (st 0).n w0 κ C' (st ops.size).H (st ops.size).n w' → Q .normal a' w') :
    ∀ (fuel : Nat) (listed : Array Bool) (ι : Inj) (a : Act) (w : World), listed.size = ops.size → Closed ops (come listed) → J P base nt ops st R ι0 C0 w0 (come listed) ι a w → a.defers = a0.defers →
      (List.range ops.size).countP (fun j => !listed.getD j false) ≤ fuel → wpAny P .any ops Q fuel listed a w := by
  have fin : ∀ (listed : Array Bool) (ι : Inj) (a : Act) (w : World), listed.size = ops.size → J P base nt ops st R ι0 C0 w0 (come listed) ι a w → a.defers = a0.defers →
      (∀ i, ¬ Ready ops (come listed) i) → Q .normal a w := fun listed ι a w hl hJ hd hno => by
    obtain ⟨h1, h2⟩ := draw_end Z hJ (all_come Z hno)
    exact hQ a w ι _ h1 hd h2
  intro fuel
  induction fuel with
  | zero =>
    intro listed ι a w hl hS hJ hd hc
    have hno : ∀ i, ¬ Ready ops (come listed) i := by
      intro i hr
      have h0 := countP_lt (p := fun j => !listed.getD j false) (q := fun _ => false) (by simp) (i := i) (by simpa [come] using hr.2.1) rfl (List.range ops.size) (List.mem_range.2 hr.1)
      omega
    have hnil : Region.ready .any ops listed = [] := by
      cases hr : Region.ready .any ops listed with
      | nil => rfl
      | cons i l => exact absurd ((ready_iff hl i).1 (by rw [hr]; simp)) (hno i)
    exact ⟨hnil, fin listed ι a w hl hJ hd hno⟩
  | succ fuel ih =>
    intro listed ι a w hl hS hJ hd hc
    refine ⟨fun hnil => fin listed ι a w hl hJ hd fun i hr => ?_, fun i hi => ?_⟩
    · have := (ready_iff hl i).2 hr
      rw [hnil] at this; cases this
    · have hr := (ready_iff hl i).1 hi
      refine draw_step Z hS hJ hr fun a' w' κ hJ' hd' => ?_
      rw [← come_set hl hr.1] at hJ'
      refine ih _ κ a' w' (by simpa using hl) ?_ hJ' (hd'.trans hd) ?_
      · rw [come_set hl hr.1]; exact closed_with hS hr
      · have h0 := countP_lt (p := fun j => !listed.getD j false) (q := fun j => !(listed.setIfInBounds i true).getD j false) ?_ (i := i) (by simpa [come] using hr.2.1) ?_ (List.range ops.size) (List.mem_range.2 hr.1)
        · omega
        · intro x hx
          have := congrFun (come_set hl hr.1) x
          simp only [Bool.not_eq_true'] at hx ⊢
          apply Classical.byContradiction
          intro h
          have h1 : come listed x := by unfold come; simpa using h
          have h2 : come (listed.setIfInBounds i true) x := by rw [this]; exact .inl h1
          unfold come at h2
          rw [hx] at h2; cases h2
        · have := congrFun (come_set hl hr.1) i
          have h2 : come (listed.setIfInBounds i true) i := by rw [this]; exact .inr rfl
          unfold come at h2
          simp only [h2, Bool.not_true]

theorem foldC_none (C0 : Heap) (S : Nat → Prop) (h : ∀ j, ¬ S j) : ∀ N, foldC st C0 S N = C0 := by
  intro N
  induction N with
  | zero => rfl
  | succ N ih => funext x; rw [foldC_no (fun ⟨a, _⟩ => h N a), ih]
theorem foldF_none (S : Nat → Prop) (h : ∀ j, ¬ S j) : ∀ N, foldF ops st R S N = (st 0).f := by
  intro N
  induction N with
  | zero => rfl
  | succ N ih => simp only [foldF]; rw [if_neg (h N), ih]

/-- A REGION THAT DRAWS ITS ORDER. -/
theorem wp_draw (Z : Region0 P nt ops st R base ι0 C0 w0) (hm : P.follows .mixedOrders = true) {id : Nat} {a : Act} {Q : Exit → Act → World → Prop} (hF : FR ι0 nt (st 0).f a.tmps)
    (hQ : ∀ a' w' κ C', FR κ nt (st ops.size).f a'.tmps → a'.defers = a.defers → After P base ι0 C0 (st 0).H (st 0).n w0 κ C' (st ops.size).H (st ops.size).n w' → Q .normal a' w') :
    (Code.region id ops true).wp P Q a w0 := by
  refine wp_region_any hm ?_
  have hnone : ∀ j, ¬ come (Array.replicate ops.size false) j := by
    intro j h
    unfold come at h
    rw [Array.getD_eq_getD_getElem?, Array.getElem?_replicate] at h
    split at h <;> simp at h
  refine draw_any Z (a0 := a) hQ ops.size _ ι0 a _ (by simp) (fun j o _ h => absurd h (hnone j)) ?_ rfl ?_
  · refine ⟨?_, ?_, Inj.le_refl _, fun _ _ => rfl, fun j _ h => absurd h (hnone j), (Below.refl _ _).drew⟩
    · rw [foldF_none _ hnone]; exact hF
    · rw [foldC_none _ _ hnone]; exact Z.hr.same rfl
  · have := List.countP_le_length (p := fun j => !(Array.replicate ops.size false).getD j false) (l := List.range ops.size)
    simpa using this

end

end

end Go.AM
