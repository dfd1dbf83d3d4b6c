/- The abstract machine is sound: a run of it tells what the model does. -/
import Derived.Test.YtplnndgdklfnfaaAmBS
set_option linter.all false
namespace Go.AM
open Go.RowKit

def Ch (C H C' H' : Heap) : Prop := ∀ x, (H' x = H x ∧ C' x = C x) ∨ (C' x = H' x ∧ C x = H x)
def Pres (ι : Inj) (C H : Heap) : Prop := ∀ x, ι x ≠ none → H x ≠ .dead → C x = H x
def Fresh (ι : Inj) (n n' : Nat) : Prop := ∀ x, n ≤ x → x < n' → ι x = none
def WF (n : Nat) (H : Heap) : Prop := ∀ x, n ≤ x → H x = .dead
/-- What a step may do to the heap. -/
structure Mono (n : Nat) (H : Heap) (n' : Nat) (H' : Heap) : Prop where
  le : n ≤ n'
  wf : WF n H → WF n' H'
  dead : ∀ x, x < n → H x = .dead → H' x = .dead

theorem Mono.refl (n : Nat) (H : Heap) : Mono n H n H := ⟨Nat.le_refl _, id, fun _ _ h => h⟩
theorem Mono.trans {n n1 n2 : Nat} {H H1 H2 : Heap} (a : Mono n H n1 H1) (b : Mono n1 H1 n2 H2) : Mono n H n2 H2 :=
  ⟨Nat.le_trans a.le b.le, fun h => b.wf (a.wf h), fun x hx h => b.dead x (Nat.lt_of_lt_of_le hx a.le) (a.dead x hx h)⟩

structure After (P : Program) (base : Nat) (ι : Inj) (C H : Heap) (n : Nat) (w : World) (κ : Inj) (C' H' : Heap) (n' : Nat) (w' : World) : Prop where
  le : Inj.le ι κ
  out : ∀ x, ¬ (n ≤ x ∧ x < n') → κ x = ι x
  ch : Ch C H C' H'
  seen : ∀ x, H' x ≠ H x → κ x ≠ none
  hr : HR P base κ C' w'
  below : Below base w w'

section
variable {P : Program} {base : Nat} {ι κ μ : Inj} {C C1 C2 H H1 H2 : Heap} {n n1 n2 : Nat} {w w1 w2 : World}

theorem Ch.refl (C H : Heap) : Ch C H C H := fun _ => .inl ⟨rfl, rfl⟩
theorem Ch.trans (a : Ch C H C1 H1) (b : Ch C1 H1 C2 H2) : Ch C H C2 H2 := fun x => by
  rcases a x with ⟨a1, a2⟩ | ⟨a1, a2⟩ <;> rcases b x with ⟨b1, b2⟩ | ⟨b1, b2⟩
  · exact .inl ⟨b1.trans a1, b2.trans a2⟩
  · exact .inr ⟨b1, by rw [← a2, b2, a1]⟩
  · exact .inr ⟨by rw [b2, a1, b1], a2⟩
  · exact .inr ⟨b1, a2⟩

theorem After.refl (h : HR P base ι C w) (n : Nat) (H : Heap) : After P base ι C H n w ι C H n w :=
  ⟨Inj.le_refl ι, fun _ _ => rfl, Ch.refl C H, fun _ h => absurd rfl h, h, Below.refl _ _⟩
theorem After.trans (a : After P base ι C H n w κ C1 H1 n1 w1) (b : After P base κ C1 H1 n1 w1 μ C2 H2 n2 w2) (h1 : n ≤ n1) (h2 : n1 ≤ n2) : After P base ι C H n w μ C2 H2 n2 w2 := by
  refine ⟨Inj.le_trans a.le b.le, fun x hx => ?_, a.ch.trans b.ch, fun x hx => ?_, b.hr, a.below.trans b.below⟩
  · rw [b.out x (by omega), a.out x (by omega)]
  · by_cases h : H2 x = H1 x
    · have h1 : H1 x ≠ H x := fun e => hx (h.trans e)
      intro e
      cases hk : κ x with
      | none => exact a.seen x h1 hk
      | some t => rw [b.le x t hk] at e; cases e
    · exact b.seen x h
theorem After.pres (a : After P base ι C H n w κ C1 H1 n1 w1) (hp : Pres ι C H) (hw : WF n H) : Pres κ C1 H1 := by
  intro x hx hd
  rcases a.ch x with ⟨h1, h2⟩ | ⟨h1, _⟩
  · by_cases hi : ι x = none
    · by_cases hr : n ≤ x ∧ x < n1
      · rw [h1, hw x hr.1] at hd; exact absurd rfl hd
      · rw [a.out x hr] at hx; exact absurd hi hx
    · rw [h2, h1]; exact hp x hi (h1 ▸ hd)
  · exact h1
theorem After.fresh (a : After P base ι C H n w κ C1 H1 n1 w1) (hf : Fresh ι n n2) (h : n ≤ n1) : Fresh κ n1 n2 := by
  intro x h1 h2
  rw [a.out x (by omega)]
  exact hf x (by omega) h2

/-- The frame: slot by slot. -/
def FR (ι : Inj) (nt : Nat) (f : Fr) (tmps : Array Value) : Prop := tmps.size = nt ∧ ∀ t, t < nt → VR ι (f t) (tmps.getD t undef)
theorem FR.mono {nt : Nat} {f : Fr} {tmps : Array Value} (h : FR ι nt f tmps) (hle : Inj.le ι κ) : FR κ nt f tmps := ⟨h.1, fun t ht => (h.2 t ht).mono hle⟩

theorem put_getD (tmps : Array Value) (d : Nat) (v : Value) (t : Nat) (hd : d < tmps.size) : (tmps.setIfInBounds d v).getD t undef = if t = d then v else tmps.getD t undef := by
  simp only [Array.getD_eq_getD_getElem?, Array.getElem?_setIfInBounds]
  by_cases h : d = t
  · subst h; simp [hd]
  · simp [h, Ne.symm h]

theorem FR.put {nt : Nat} {f : Fr} {a : Act} (h : FR ι nt f a.tmps) {d : Option Nat} (hd : (match d with | some d => decide (d < nt) | none => true) = true) {v v' : Value} (hv : VR ι v v') :
    FR ι nt (fput f d v) (a.put d v').tmps := by
  cases d with
  | none => exact h
  | some d =>
    have hd' : d < nt := by simpa using hd
    refine ⟨by simp [Act.put, h.1], fun t ht => ?_⟩
    show VR ι (fset f d v t) ((a.tmps.setIfInBounds d v').getD t undef)
    rw [fset_apply, put_getD _ _ _ _ (by rw [h.1]; exact hd')]
    by_cases e : t = d
    · simp [e, hv]
    · simp only [e, if_false]; exact h.2 t ht

theorem eval_rel {nt : Nat} {f : Fr} {a : Act} {x : Operand} (hok : operandOK nt x = true) (h : ∀ t, x = .tmp t → VR ι (f t) (a.tmps.getD t undef)) : VR ι (evalA f x) (a.eval x) := by
  cases x with
  | tmp t => exact h t rfl
  | const v => exact still_refl ι hok
  | global g => simp [operandOK] at hok
  | func g => exact .func g _ _ _ _ rfl rfl (fun i v v' e => by simp at e) (fun i v v' e => by simp at e)

/-- What one operation of a region does. -/
structure StepOK (P : Program) (nt : Nat) (all : Array Oper) (o : Oper) (r : Rec) : Prop where
  mono : Mono r.pre.n r.pre.H r.n r.H
  turned : r.call = false → WF r.pre.n r.pre.H → ∀ x, r.H x ≠ r.pre.H x → (r.pre.n ≤ x ∧ x < r.n) ∨ r.wr = some x
  live : ∀ x, x ∈ r.rd ∨ r.wr = some x → r.pre.H x ≠ .dead
  wr : r.wr ≠ none → mayWrite o = true
  rd : r.rd ≠ [] → mayTouch o = true
  call : r.call = true → isCall o = true
  exec : WF r.pre.n r.pre.H → ∀ (base : Nat) (ι : Inj) (C : Heap) (a : Act) (w : World), a.tmps.size = nt → (∀ t ∈ o.looksAt all, VR ι (r.pre.f t) (a.tmps.getD t undef)) → HR P base ι C w →
    (∀ x, (r.call = true ∧ r.pre.H x ≠ .dead) ∨ x ∈ r.rd ∨ r.wr = some x → ι x ≠ none → C x = r.pre.H x) → Fresh ι r.pre.n r.n →
    ∀ (K : Act → World → Prop) (Q : Exit → Act → World → Prop),
      (∀ v' w' κ C', VR κ r.v v' → After P base ι C r.pre.H r.pre.n w κ C' r.H r.n w' → K (a.put o.dst v') w') →
      if Region.wanted o (yielded all a.tmps) then o.wp P a w K Q else K (a.put o.dst undef) w

theorem wanted_iff {nt : Nat} {all : Array Oper} {o : Oper} {f : Fr} {a : Act} (hok : operOK nt all o = true) (hsz : a.tmps.size = nt) (h : ∀ t ∈ o.looksAt all, VR ι (f t) (a.tmps.getD t undef)) :
    Region.wanted o (yielded all a.tmps) = wantedA all f o := by
  unfold Region.wanted wantedA
  cases hg : o.guard with
  | none => rfl
  | some p =>
    obtain ⟨j, want⟩ := p
    simp only [yielded]
    simp only [operOK, hg, Bool.and_eq_true] at hok
    cases hd : (all[j]?).bind (·.dst) with
    | none => simp
    | some d =>
      simp only [hd, decide_eq_true_eq] at hok
      have hdn : d < nt := hok.1.2
      have hin : d ∈ o.looksAt all := by
        unfold Oper.looksAt
        simp only [hg, hd, List.mem_append]
        exact .inr (by simp)
      have hr := h d hin
      have hlt : d < a.tmps.size := by rw [hsz]; exact hdn
      have hget : a.tmps[d]? = some (a.tmps.getD d undef) := by
        rw [Array.getD_eq_getD_getElem?, Array.getElem?_eq_getElem hlt]; rfl
      simp only [Option.bind_some, hget]
      generalize a.tmps.getD d undef = u at hr
      generalize f d = v at hr
      cases hr <;> simp

theorem operands_rel {nt : Nat} {all : Array Oper} {o : Oper} {f : Fr} {a : Act} (hok : operOK nt all o = true) (h : ∀ t ∈ o.looksAt all, VR ι (f t) (a.tmps.getD t undef)) :
    ∀ x ∈ o.op.operands, VR ι (evalA f x) (a.eval x) := by
  intro x hx
  simp only [operOK, Bool.and_eq_true, List.all_eq_true] at hok
  refine eval_rel (hok.1.1.2 x (by simpa using hx)) fun t e => h t ?_
  subst e
  unfold Oper.looksAt
  simp only [List.mem_append, List.mem_filterMap]
  exact .inl ⟨_, by simpa using hx, rfl⟩

theorem patch_ch (hp : ∀ x, H1 x ≠ H x → C x = H x) : Ch C H (patch C H H1) H1 := fun x => by
  by_cases h : H1 x = H x
  · exact .inl ⟨h, patch_eq h⟩
  · exact .inr ⟨patch_ne h, hp x h⟩

theorem res_heap {r : Res} {x : Nat} (h : r.heap n H x ≠ H x) : (r.news ≠ [] ∧ x = n) ∨ ∃ o, r.wr = some (x, o) := by
  unfold Res.heap at h
  cases hw : r.wr with
  | none =>
    simp only [hw] at h
    cases hn : r.news with
    | nil => simp [hn] at h
    | cons o l =>
      simp only [hn] at h
      by_cases e : x = n
      · exact .inl ⟨by simp, e⟩
      · rw [hset_other _ _ e] at h; exact absurd rfl h
  | some p =>
    obtain ⟨y, ob⟩ := p
    simp only [hw] at h
    cases hn : r.news with
    | nil =>
      simp only [hn] at h
      by_cases e : x = y
      · subst e; exact .inr ⟨ob, rfl⟩
      · rw [hset_other _ _ e] at h; exact absurd rfl h
    | cons o l =>
      simp only [hn] at h
      by_cases e : x = n
      · exact .inl ⟨by simp, e⟩
      · rw [hset_other _ _ e] at h
        by_cases e2 : x = y
        · subst e2; exact .inr ⟨ob, rfl⟩
        · rw [hset_other _ _ e2] at h; exact absurd rfl h

theorem heap_mono {r : Res} (hw : ∀ x ob, r.wr = some (x, ob) → H x ≠ .dead) : Mono n H (r.next n) (r.heap n H) := by
  have hle : n ≤ r.next n := by unfold Res.next; split <;> omega
  refine ⟨hle, fun hwf x hx => ?_, fun x hx hd => ?_⟩
  · by_cases h : r.heap n H x = H x
    · rw [h]; exact hwf x (Nat.le_trans hle hx)
    · rcases res_heap h with ⟨h1, h2⟩ | ⟨ob, h1⟩
      · subst h2
        exfalso
        unfold Res.next at hx
        cases hn : r.news with
        | nil => exact h1 hn
        | cons a l => rw [hn] at hx; simp at hx; omega
      · exact absurd (hwf x (Nat.le_trans hle hx)) (hw x ob h1)
  · by_cases h : r.heap n H x = H x
    · rw [h]; exact hd
    · rcases res_heap h with ⟨_, h2⟩ | ⟨ob, h1⟩
      · omega
      · exact absurd hd (hw x ob h1)

structure Facts (H : Heap) (o : Oper) (r : Res) : Prop where
  rd : ∀ x ∈ r.rd, H x ≠ .dead
  wr : ∀ x ob, r.wr = some (x, ob) → H x ≠ .dead
  mw : r.wr ≠ none → mayWrite o = true
  mt : r.rd ≠ [] → mayTouch o = true

theorem facts_plain (H : Heap) (o : Oper) {r : Res} (h1 : r.rd = []) (h2 : r.wr = none) : Facts H o r :=
  ⟨fun x h => by (rw [h1] at h; cases h), fun x ob h => by (rw [h2] at h; cases h), fun h => absurd h2 h, fun h => absurd h1 h⟩
theorem facts_ok (H : Heap) (o : Oper) {v : Option Value} {r : Res} (h : ok v = some r) : Facts H o r := by
  unfold ok at h
  obtain ⟨u, _, rfl⟩ := Option.map_eq_some_iff.1 h
  exact facts_plain H o rfl rfl
theorem facts_flat (H : Heap) {ρ : Operand → Value} {o : Oper} {r : Res} (h : aflat P ρ o = some r) : Facts H o r := by
  unfold aflat at h
  split at h
  case isFalse => cases h
  split at h
  case h_2 => cases h
  split at h
  case isFalse => cases h
  cases h
  exact facts_plain H o rfl rfl
theorem facts_box (o : Oper) {t : TypeId} {v : Value} {r : Res} (h : abox n t v = some r) : Facts H o r := by
  unfold abox at h
  split at h
  case isFalse => cases h
  cases h
  exact facts_plain H o rfl rfl
theorem src_live {size : Nat} {x : Value} {ys : List Value} {rd : List Nat} {m : Nat} (h : asrc H size x = some (ys, rd, m)) : ∀ y ∈ rd, H y ≠ .dead := by
  unfold asrc at h
  split at h
  · cases h; intro y hy; cases hy
  · rename_i y k m' c'
    split at h
    case h_2 => cases h
    rename_i cs ty own hy
    split at h
    case isFalse => cases h
    cases h
    intro z hz
    simp at hz
    subst hz
    rw [hy]; intro e; cases e
  · split at h
    case isFalse => cases h
    cases h; intro y hy; cases hy
  · cases h

theorem aop_facts {ρ : Operand → Value} {o : Oper} {r : Res} (h : aop P ρ n H o = some r) : Facts H o r := by
  obtain ⟨dst, op, type, pos, after, guard⟩ := o
  unfold aop at h
  simp only at h
  split at h
  · cases h; exact facts_plain _ _ rfl rfl
  · cases h; exact facts_plain _ _ rfl rfl
  · split at h
    case h_2 => cases h
    cases h; exact facts_plain _ _ rfl rfl
  · unfold aalloc at h
    split at h
    case h_2 => cases h
    split at h
    case isFalse => cases h
    exact facts_box _ h
  · exact facts_box _ h
  · exact facts_ok _ _ h
  · unfold abuildSlice at h
    split at h
    case h_2 => cases h
    split at h
    case h_2 => cases h
    split at h
    case isTrue => cases h
    obtain ⟨cs, _, rfl⟩ := Option.map_eq_some_iff.1 h
    exact facts_plain _ _ rfl rfl
  · unfold aload at h
    split at h
    case h_2 => cases h
    split at h
    case h_2 => cases h
    rename_i x k hk _ cs ty own hx
    have hd : H x ≠ .dead := by rw [hx]; intro e; cases e
    split at h
    · split at h
      case isFalse => cases h
      cases h
      exact ⟨fun y hy => (by simp at hy; subst hy; exact hd), fun _ _ e => (by cases e), fun e => absurd rfl e, fun _ => rfl⟩
    · split at h
      case h_2 => cases h
      cases h
      exact ⟨fun y hy => (by simp at hy; subst hy; exact hd), fun _ _ e => (by cases e), fun e => absurd rfl e, fun _ => rfl⟩
    · cases h
  · unfold astore at h
    split at h
    case h_2 => cases h
    split at h
    case h_2 => cases h
    rename_i x k hk _ cs ty hx
    have hd : H x ≠ .dead := by rw [hx]; intro e; cases e
    split at h
    case h_2 => cases h
    split at h
    case isFalse => cases h
    cases h
    exact ⟨fun y hy => (by cases hy), fun y ob e => (by cases e; exact hd), fun _ => rfl, fun e => absurd rfl e⟩
  · split at h
    · cases h; exact facts_plain _ _ rfl rfl
    · cases h; exact facts_plain _ _ rfl rfl
    · cases h
  · split at h
    · split at h
      · cases h; exact facts_plain _ _ rfl rfl
      · cases h; exact facts_plain _ _ rfl rfl
      · cases h
    · exact facts_flat H h
  · cases h; exact facts_plain _ _ rfl rfl
  · unfold amakeSlice at h
    split at h
    case h_2 => cases h
    split at h
    case h_2 => cases h
    split at h
    case isFalse => cases h
    cases h; exact facts_plain _ _ rfl rfl
  · split at h
    · unfold aslice at h
      split at h
      · split at h
        case h_2 => cases h
        rename_i y k len cc _ _ _ _ _ j l hh cs ty own _ _ _ hy
        split at h
        case isFalse => cases h
        cases h
        exact ⟨fun z hz => (by simp at hz; subst hz; rw [hy]; intro e; cases e), fun _ _ e => (by cases e), fun e => absurd rfl e, fun _ => rfl⟩
      · split at h
        case h_2 => cases h
        cases h; exact facts_plain _ _ rfl rfl
      · cases h
    · exact facts_flat H h
  · exact facts_ok _ _ h
  · exact facts_ok _ _ h
  · exact facts_ok _ _ h
  · split at h
    · exact facts_ok _ _ h
    · exact facts_flat H h
  · split at h
    case h_2 => cases h
    exact facts_ok _ _ h
  · split at h
    case h_2 => cases h
    unfold alen at h
    split at h
    · cases h; exact facts_plain _ _ rfl rfl
    · cases h; exact facts_plain _ _ rfl rfl
    · cases h; exact facts_plain _ _ rfl rfl
    · split at h
      case h_2 => cases h
      rename_i es clock hy
      cases h
      exact ⟨fun z hz => (by simp at hz; subst hz; rw [hy]; intro e; cases e), fun _ _ e => (by cases e), fun e => absurd rfl e, fun _ => rfl⟩
    · cases h
  · split at h
    case h_2 => cases h
    unfold aappend at h
    split at h
    case h_2 => cases h
    split at h
    case h_2 => cases h
    split at h
    case h_2 => cases h
    split at h
    case isTrue => cases h
    split at h
    case h_2 => cases h
    rename_i ys rd m hsrc
    have hl := src_live hsrc
    split at h
    · split at h
      case isTrue => cases h
      split at h
      · cases h
        exact ⟨hl, fun _ _ e => (by cases e), fun e => absurd rfl e, fun _ => rfl⟩
      · cases h
        exact ⟨hl, fun _ _ e => (by cases e), fun e => absurd rfl e, fun _ => rfl⟩
    · split at h
      case h_2 => cases h
      rename_i cs ty hy
      split at h
      case isFalse => cases h
      cases h
      exact ⟨hl, fun z ob e => (by cases e; rw [hy]; intro e; cases e), fun _ => rfl, fun _ => rfl⟩
    · cases h
  · split at h
    case h_2 => cases h
    split at h
    case isFalse => cases h
    exact facts_ok _ _ h
  · cases h
  · exact facts_flat H h
  · exact facts_flat H h
  · exact facts_flat H h
  · exact facts_flat H h
  · cases h

end
end Go.AM
