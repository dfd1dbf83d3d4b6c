/- What must hold ahead of a code, so that the machine comes to some end: for proofs by steps. -/
import Derived.Test.YtplnndgdklfnfaaAmEval
set_option linter.all false
namespace Go.AM
open Go.RowKit

def AW (P : Program) (c : Code) (s : St) (Q : AExit → St → Prop) : Prop := ∃ e s1, BS P (.code c s) (.at e s1) ∧ Q e s1

/-- A call that leaves alone what there was. -/
def Ret (P : Program) (g : FuncId) (args : List Value) (n : Nat) (H : Heap) (Q : Value → Nat → Heap → Prop) : Prop :=
  ∃ v n' H', BS P (.call g args n H) (.ret v n' H') ∧ n ≤ n' ∧ (∀ x, x < n → H' x = H x) ∧ Q v n' H'

/-- The operations of a region, one behind the other: no order matters. -/
def wpOps (P : Program) (all : Array Oper) : List Oper → St → (St → Prop) → Prop
  | [], s, Q => Q s
  | o :: rest, s, Q => match wantedA all s.f o with
    | false => wpOps P all rest ⟨fput s.f o.dst undef, s.n, s.H⟩ Q
    | true => match aop P (evalA s.f) s.n s.H o with
      | some r => wpOps P all rest ⟨fput s.f o.dst r.v, r.next s.n, r.heap s.n s.H⟩ Q
      | none => match acallee (evalA s.f) o with
        | some (g, args) => Ret P g args s.n s.H fun v n H => wpOps P all rest ⟨fput s.f o.dst v, n, H⟩ Q
        | none => False

def free (ops : Array Oper) (draw : Bool) : Bool := !draw || (sPairs ops).isEmpty

def wpRegion (P : Program) (id : Nat) (ops : Array Oper) (draw : Bool) (s : St) (Q : AExit → St → Prop) : Prop := AW P (.region id ops draw) s Q
def wpLoop (P : Program) (c : Code) (s : St) (Q : AExit → St → Prop) : Prop := AW P (.loop c) s Q

def after (e : AExit) (Q : AExit → Prop) (R : Prop) : Prop := match e with
  | .normal => R
  | e => Q e

def wp (P : Program) : Code → St → (AExit → St → Prop) → Prop
  | .skip, s, Q | .label _, s, Q => Q .normal s
  | .ret, s, Q => Q .ret s
  | .exit id, s, Q => Q (.exit id) s
  | .seq a b, s, Q => wp P a s fun e s1 => after e (fun e => Q e s1) (wp P b s1 Q)
  | .cond x a b, s, Q => match evalA s.f x with
    | .bool t => match t with
      | true => wp P a s Q
      | false => wp P b s Q
    | _ => False
  | .block id a, s, Q => wp P a s fun e s1 => Q (blockExit id e) s1
  | .loop c, s, Q => wpLoop P c s Q
  | .region id ops draw, s, Q => wpRegion P id ops draw s Q
  | _, _, _ => False

theorem AW.mono {P : Program} {c : Code} {s : St} {Q R : AExit → St → Prop} (h : AW P c s Q) (hqr : ∀ e s, Q e s → R e s) : AW P c s R := by
  obtain ⟨e, s1, a, b⟩ := h; exact ⟨e, s1, a, hqr e s1 b⟩

theorem wp_sound {P : Program} : ∀ (c : Code) (s : St) (Q : AExit → St → Prop), wp P c s Q → AW P c s Q := by
  intro c
  induction c with
  | skip => intro s Q h; exact ⟨_, _, .skip s, h⟩
  | label l => intro s Q h; exact ⟨_, _, .label l s, h⟩
  | ret => intro s Q h; exact ⟨_, _, .ret s, h⟩
  | exit id => intro s Q h; exact ⟨_, _, .exit id s, h⟩
  | seq a b iha ihb =>
    intro s Q h
    simp only [wp] at h
    obtain ⟨e, s1, h1, h2⟩ := iha _ _ h
    cases e with
    | normal => obtain ⟨e2, s2, h3, h4⟩ := ihb _ _ h2; exact ⟨e2, s2, .seq h1 h3, h4⟩
    | exit i => exact ⟨_, s1, .seqOut (by simp) h1, h2⟩
    | ret => exact ⟨_, s1, .seqOut (by simp) h1, h2⟩
  | cond x a b iha ihb =>
    intro s Q h
    simp only [wp] at h
    split at h
    case h_2 => cases h
    rename_i t ht
    cases t with
    | true => obtain ⟨e, s1, h1, h2⟩ := iha _ _ h; exact ⟨e, s1, .cond true ht h1, h2⟩
    | false => obtain ⟨e, s1, h1, h2⟩ := ihb _ _ h; exact ⟨e, s1, .cond false ht h1, h2⟩
  | block id a ih => intro s Q h; obtain ⟨e, s1, h1, h2⟩ := ih _ _ h; exact ⟨_, s1, .block h1, h2⟩
  | loop a => intro s Q h; exact h
  | region id ops draw => intro s Q h; exact h
  | _ => intro s Q h; simp [wp] at h

theorem wpOps_sound {P : Program} {all : Array Oper} : ∀ (rest : List Oper) (s : St) (Q : St → Prop), wpOps P all rest s Q → ∃ s1 l, BS P (.ops all rest s) (.log s1 l) ∧ (∀ r ∈ l, r.call = true → ∀ x, x < r.pre.n → r.H x = r.pre.H x) ∧ Q s1 := by
  intro rest
  induction rest with
  | nil => intro s Q h; exact ⟨s, [], .opsNil all s, (fun r hr => by cases hr), h⟩
  | cons o rest ih =>
    intro s Q h
    simp only [wpOps] at h
    split at h
    · rename_i hw
      obtain ⟨s1, l, h1, h2, h3⟩ := ih _ _ h
      refine ⟨s1, _, .opsSkip hw h1, fun r hr hc => ?_, h3⟩
      rcases List.mem_cons.1 hr with hr | hr
      · subst hr; cases hc
      · exact h2 r hr hc
    · rename_i hw
      split at h
      · rename_i r hr
        obtain ⟨s1, l, h1, h2, h3⟩ := ih _ _ h
        refine ⟨s1, _, .opsOp hw hr h1, fun r hr hc => ?_, h3⟩
        rcases List.mem_cons.1 hr with hr | hr
        · subst hr; cases hc
        · exact h2 r hr hc
      · split at h
        case h_2 => cases h
        rename_i g args hg
        obtain ⟨v, n, H, hb, _, hf, h⟩ := h
        obtain ⟨s1, l, h1, h2, h3⟩ := ih _ _ h
        refine ⟨s1, _, .opsCall hw hg hb h1, fun r hr hc => ?_, h3⟩
        rcases List.mem_cons.1 hr with hr | hr
        · subst hr; exact hf
        · exact h2 r hr hc

theorem region_intro {P : Program} {id : Nat} {ops : Array Oper} {draw : Bool} {s : St} {Q : AExit → St → Prop} (hf : free ops draw = true) (h : wpOps P ops ops.toList s (Q .normal)) : wpRegion P id ops draw s Q := by
  obtain ⟨s1, l, h1, h2, h3⟩ := wpOps_sound _ _ _ h
  cases draw with
  | false => exact ⟨_, s1, .region h1, h3⟩
  | true =>
    refine ⟨_, s1, .regionDraw h1 ⟨fun p hp => ?_, h2⟩, h3⟩
    simp only [free, Bool.not_true, Bool.false_or, List.isEmpty_iff] at hf
    rw [hf] at hp; cases hp

/-- A LOOP, by what holds at its head, and what falls. -/
theorem loop_intro {P : Program} {c : Code} {s : St} {Q : AExit → St → Prop} (I : Nat → St → Prop) (k : Nat) (h0 : I k s)
    (hs : ∀ k s, I k s → wp P c s fun e s1 => after e (fun e => Q e s1) (∃ j, j < k ∧ I j s1)) : wpLoop P c s Q := by
  induction k using Nat.strongRecOn generalizing s with
  | ind k ih =>
    obtain ⟨e, s1, h1, h2⟩ := wp_sound _ _ _ (hs k s h0)
    cases e with
    | normal =>
      obtain ⟨j, hj, h3⟩ := h2
      obtain ⟨e, s2, h4, h5⟩ := ih j hj h3
      exact ⟨e, s2, .loop h1 h4, h5⟩
    | exit i => exact ⟨_, s1, .loopOut (by simp) h1, h2⟩
    | ret => exact ⟨_, s1, .loopOut (by simp) h1, h2⟩

theorem call_intro {P : Program} {g : FuncId} {args : List Value} {n : Nat} {H : Heap} {Q : Value → Nat → Heap → Prop} (hm : P.follows .mixedOrders = true) {fn : Func} {c : Code} (hok : FnOK P g fn c) (hl : args.length ≤ fn.ntmps)
    (h : wp P c ⟨fun t => args.getD t undef, n, H⟩ fun e s => after e (fun e => e = .ret ∧ ∃ v, aresults P fn s = some v ∧ (∀ x, x < n → s.H x = H x) ∧ Q v s.n s.H) (∃ v, aresults P fn s = some v ∧ (∀ x, x < n → s.H x = H x) ∧ Q v s.n s.H)) : Ret P g args n H Q := by
  obtain ⟨e, s, h1, h2⟩ := wp_sound _ _ _ h
  have : (e = .normal ∨ e = .ret) ∧ ∃ v, aresults P fn s = some v ∧ (∀ x, x < n → s.H x = H x) ∧ Q v s.n s.H := by
    cases e with
    | normal => exact ⟨.inl rfl, h2⟩
    | ret => exact ⟨.inr rfl, h2.2⟩
    | exit i => cases h2.1
  obtain ⟨he, v, hv, hx, hq⟩ := this
  have hb := BS.call hok hl h1 he hv
  exact ⟨v, s.n, s.H, hb, (sound hm hb).1.le, hx, hq⟩

theorem Ret.mono {P : Program} {g : FuncId} {args : List Value} {n : Nat} {H : Heap} {Q R : Value → Nat → Heap → Prop} (h : Ret P g args n H Q) (hqr : ∀ v n' H', n ≤ n' → (∀ x, x < n → H' x = H x) → Q v n' H' → R v n' H') : Ret P g args n H R := by
  obtain ⟨v, n', H', a, b, c, d⟩ := h; exact ⟨v, n', H', a, b, c, hqr v n' H' b c d⟩

end Go.AM
