/- Proofs by steps: a code, what comes behind it, a state; what must hold so that the machine comes to an end as told. -/
import Derived.Test.YtplnndgdklfnfaaAmSop
set_option linter.all false
namespace Go.AM
open Go.RowKit

/-- What comes behind a code. -/
inductive Fk where
  | seq (b : Code)
  | block (id : Nat)

def wrap (c : Code) : List Fk → Code
  | [] => c
  | .seq b :: K => wrap (.seq c b) K
  | .block id :: K => wrap (.block id c) K

structure WK (P : Program) (c : Code) (K : List Fk) (s : St) (Q : AExit → St → Prop) : Prop where
  run : AW P (wrap c K) s Q

section
variable {P : Program} {K : List Fk} {s : St} {Q : AExit → St → Prop}

/-- Whatever ends of one code are ends of another one. -/
theorem wrap_imp : ∀ (K : List Fk) {c d : Code} {s t : St}, (∀ e s1, BS P (.code d t) (.at e s1) → BS P (.code c s) (.at e s1)) → ∀ e s1, BS P (.code (wrap d K) t) (.at e s1) → BS P (.code (wrap c K) s) (.at e s1) := by
  intro K
  induction K with
  | nil => intro c d s t h e s1 h1; exact h e s1 h1
  | cons k K ih =>
    intro c d s t h
    cases k with
    | seq b =>
      refine ih ?_
      intro e s1 h1
      cases h1 with
      | seq a b => exact .seq (h _ _ a) b
      | seqOut he a => exact .seqOut he (h _ _ a)
    | block id =>
      refine ih ?_
      intro e s1 h1
      cases h1 with
      | block a => exact .block (h _ _ a)

theorem WK.imp {c d : Code} {t : St} (h : ∀ e s1, BS P (.code d t) (.at e s1) → BS P (.code c s) (.at e s1)) (hd : WK P d K t Q) : WK P c K s Q := by
  obtain ⟨e, s1, a, b⟩ := hd.run
  exact ⟨e, s1, wrap_imp K h _ _ a, b⟩

theorem WK.seq {a b : Code} (h : WK P a (.seq b :: K) s Q) : WK P (.seq a b) K s Q := ⟨h.run⟩
theorem WK.block {id : Nat} {a : Code} (h : WK P a (.block id :: K) s Q) : WK P (.block id a) K s Q := ⟨h.run⟩
theorem WK.skipSeq {b : Code} (h : WK P b K s Q) : WK P .skip (.seq b :: K) s Q := ⟨(WK.imp (K := K) (c := .seq .skip b) (fun _ _ h => .seq (.skip s) h) h).run⟩
theorem WK.labelSeq {l : Nat} (h : WK P .skip K s Q) : WK P (.label l) K s Q := WK.imp (fun _ _ h => by cases h; exact .label l s) h
theorem WK.skipBlock {id : Nat} (h : WK P .skip K s Q) : WK P .skip (.block id :: K) s Q := ⟨(WK.imp (K := K) (c := .block id .skip) (fun _ _ h => by cases h; exact .block (e := .normal) (.skip s)) h).run⟩
theorem WK.retSeq {b : Code} (h : WK P .ret K s Q) : WK P .ret (.seq b :: K) s Q := ⟨(WK.imp (K := K) (c := .seq .ret b) (fun _ _ h => by cases h; exact .seqOut (by simp) (.ret s)) h).run⟩
theorem WK.retBlock {id : Nat} (h : WK P .ret K s Q) : WK P .ret (.block id :: K) s Q := ⟨(WK.imp (K := K) (c := .block id .ret) (fun _ _ h => by cases h; exact .block (e := .ret) (.ret s)) h).run⟩
theorem WK.exitSeq {i : Nat} {b : Code} (h : WK P (.exit i) K s Q) : WK P (.exit i) (.seq b :: K) s Q := ⟨(WK.imp (K := K) (c := .seq (.exit i) b) (fun _ _ h => by cases h; exact .seqOut (by simp) (.exit i s)) h).run⟩
theorem WK.exitBlock {i j : Nat} (h : WK P (if i = j then .skip else .exit i) K s Q) : WK P (.exit i) (.block j :: K) s Q :=
  ⟨(WK.imp (K := K) (c := .block j (.exit i)) (fun e s1 h => by
    have hb := BS.block (P := P) (id := j) (.exit i s)
    unfold blockExit at hb
    split at h
    · rename_i hij; cases h; simpa [hij] using hb
    · rename_i hij; cases h; simpa [hij] using hb) h).run⟩
theorem WK.skipNil (h : Q .normal s) : WK P .skip [] s Q := ⟨_, _, .skip s, h⟩
theorem WK.retNil (h : Q .ret s) : WK P .ret [] s Q := ⟨_, _, .ret s, h⟩
theorem WK.cond {x : Operand} {a b : Code} (t : Bool) (hx : evalA s.f x = .bool t) (h : WK P (Bool.rec b a t) K s Q) : WK P (.cond x a b) K s Q :=
  WK.imp (fun e s1 h => .cond t hx (by cases t <;> exact h)) h
theorem WK.condT {x : Operand} {a b : Code} (hx : evalA s.f x = .bool true) (h : WK P a K s Q) : WK P (.cond x a b) K s Q := WK.cond true hx h
theorem WK.condF {x : Operand} {a b : Code} (hx : evalA s.f x = .bool false) (h : WK P b K s Q) : WK P (.cond x a b) K s Q := WK.cond false hx h
theorem WK.exitHere {i : Nat} (h : WK P .skip K s Q) : WK P (.exit i) (.block i :: K) s Q := WK.exitBlock (by simpa using h)
theorem WK.exitOn {i j : Nat} (hij : Nat.beq i j = false) (h : WK P (.exit i) K s Q) : WK P (.exit i) (.block j :: K) s Q :=
  WK.exitBlock (by rw [if_neg (by intro e; subst e; simp at hij)]; exact h)
theorem WK.unloop {c : Code} (h : WK P c (.seq (.loop c) :: K) s Q) : WK P (.loop c) K s Q :=
  WK.imp (K := K) (d := .seq c (.loop c)) (fun e s1 h => by
    cases h with
    | seq a b => exact .loop a b
    | seqOut he a => exact .loopOut he a) ⟨h.run⟩

/-- A LOOP, by what holds at its head, and what falls. -/
theorem WK.loop {c : Code} (I : Nat → St → Prop) (k : Nat) (h0 : I k s) (hs : ∀ k s, I k s → (∀ j, j < k → ∀ s1, I j s1 → WK P (.loop c) K s1 Q) → WK P c (.seq (.loop c) :: K) s Q) : WK P (.loop c) K s Q := by
  induction k using Nat.strongRecOn generalizing s with
  | ind k ih => exact WK.unloop (hs k s h0 fun j hj s1 h1 => ih j hj h1)

/-- A call, as it is made: in a region that draws its order it leaves alone what there was. -/
def Call (P : Program) (pure : Bool) (g : FuncId) (args : List Value) (n : Nat) (H : Heap) (Q : Value → Nat → Heap → Prop) : Prop :=
  ∃ v n' H', BS P (.call g args n H) (.ret v n' H') ∧ (pure = true → ∀ x, x < n → H' x = H x) ∧ Q v n' H'

/-- What an operation reads and writes. -/
structure LR where
  rd : List Nat
  wr : Option Nat

def ltouch (r : LR) (x : Nat) : Prop := x ∈ r.rd ∨ r.wr = some x
/-- May two operations come in either order? -/
def lapart (r q : LR) : Prop := (∀ x, r.wr = some x → ¬ ltouch q x) ∧ (∀ x, q.wr = some x → ¬ ltouch r x)
def lightOK : List (Nat × Nat) → List LR → Prop
  | [], _ => True
  | p :: ps, l => (match l[p.1]?, l[p.2]? with
    | some r, some q => lapart r q
    | _, _ => True) ∧ lightOK ps l

/-- Operations of a region, one behind the other. -/
def wol (P : Program) (draw : Bool) (all : Array Oper) (K : List Fk) (Q : AExit → St → Prop) : List Oper → St → List LR → Prop
  | [], s, l => lightOK (cond draw (sPairs all) []) l ∧ WK P .skip K s Q
  | o :: rest, s, l => match wantedA all s.f o with
    | false => wol P draw all K Q rest ⟨fput s.f o.dst undef, s.n, s.H⟩ (l ++ [⟨[], none⟩])
    | true => match acallee (evalA s.f) o with
      | some (g, args) => (∃ r, aop P (evalA s.f) s.n s.H o = some r ∧ wol P draw all K Q rest ⟨fput s.f o.dst r.v, r.next s.n, r.heap s.n s.H⟩ (l ++ [⟨r.rd, r.wr.map (·.1)⟩])) ∨
          Call P draw g args s.n s.H fun v n H => wol P draw all K Q rest ⟨fput s.f o.dst v, n, H⟩ (l ++ [⟨[], none⟩])
      | none => match sop P (evalA s.f) s.n s.H o with
        | some r => wol P draw all K Q rest ⟨fput s.f o.dst r.v, r.next s.n, r.heap s.n s.H⟩ (l ++ [⟨r.rd, r.wr.map (·.1)⟩])
        | none => False

def lrOf (r : Rec) : LR := ⟨r.rd, r.wr⟩

theorem light_draw {ops : Array Oper} {l : List Rec} (h : lightOK (sPairs ops) (l.map lrOf)) (hc : ∀ r ∈ l, r.call = true → ∀ x, x < r.pre.n → r.H x = r.pre.H x) : drawOK ops l := by
  refine ⟨fun p hp x => ?_, hc⟩
  have key : ∀ (ps : List (Nat × Nat)), lightOK ps (l.map lrOf) → p ∈ ps → ∀ r q, l[p.1]? = some r → l[p.2]? = some q → lapart (lrOf r) (lrOf q) := by
    intro ps
    induction ps with
    | nil => intro _ hp; cases hp
    | cons p' ps ih =>
      intro h hp r q e1 e2
      rcases List.mem_cons.1 hp with e | hp
      · subst e
        have := h.1
        simpa [e1, e2] using this
      · exact ih h.2 hp r q e1 e2
  constructor
  · rintro ⟨⟨r, e1, e2⟩, q, e3, e4⟩
    exact (key _ h hp r q e1 e3).1 x e2 e4
  · rintro ⟨⟨q, e1, e2⟩, r, e3, e4⟩
    exact (key _ h hp r q e3 e1).2 x e2 e4

theorem wol_sound {draw : Bool} {all : Array Oper} : ∀ (rest : List Oper) (s : St) (l0 : List LR), wol P draw all K Q rest s l0 →
    ∃ s1 l, BS P (.ops all rest s) (.log s1 l) ∧ (draw = true → ∀ r ∈ l, r.call = true → ∀ x, x < r.pre.n → r.H x = r.pre.H x) ∧ lightOK (cond draw (sPairs all) []) (l0 ++ l.map lrOf) ∧ WK P .skip K s1 Q := by
  intro rest
  induction rest with
  | nil => intro s l0 h; exact ⟨s, [], .opsNil all s, (fun _ r hr => by cases hr), by simpa using h.1, h.2⟩
  | cons o rest ih =>
    intro s l0 h
    have op : ∀ r, wantedA all s.f o = true → aop P (evalA s.f) s.n s.H o = some r → wol P draw all K Q rest ⟨fput s.f o.dst r.v, r.next s.n, r.heap s.n s.H⟩ (l0 ++ [⟨r.rd, r.wr.map (·.1)⟩]) →
        ∃ s1 l, BS P (.ops all (o :: rest) s) (.log s1 l) ∧ (draw = true → ∀ r ∈ l, r.call = true → ∀ x, x < r.pre.n → r.H x = r.pre.H x) ∧ lightOK (cond draw (sPairs all) []) (l0 ++ l.map lrOf) ∧ WK P .skip K s1 Q := fun r hw hr h => by
      obtain ⟨s1, l, h1, h2, h3, h4⟩ := ih _ _ h
      refine ⟨s1, _, .opsOp hw hr h1, fun hd r hr hc => ?_, by simpa [lrOf] using h3, h4⟩
      rcases List.mem_cons.1 hr with hr | hr
      · subst hr; cases hc
      · exact h2 hd r hr hc
    simp only [wol] at h
    split at h
    · rename_i hw
      obtain ⟨s1, l, h1, h2, h3, h4⟩ := ih _ _ h
      refine ⟨s1, _, .opsSkip hw h1, fun hd r hr hc => ?_, by simpa [lrOf] using h3, h4⟩
      rcases List.mem_cons.1 hr with hr | hr
      · subst hr; cases hc
      · exact h2 hd r hr hc
    · rename_i hw
      split at h
      · rename_i g args hg
        rcases h with ⟨r, hr, h⟩ | ⟨v, n, H, hb, hf, h⟩
        · exact op r hw hr h
        · obtain ⟨s1, l, h1, h2, h3, h4⟩ := ih _ _ h
          refine ⟨s1, _, .opsCall hw hg hb h1, fun hd r hr hc => ?_, by simpa [lrOf] using h3, h4⟩
          rcases List.mem_cons.1 hr with hr | hr
          · subst hr; exact hf hd
          · exact h2 hd r hr hc
      · split at h
        case h_2 => cases h
        rename_i r hr
        exact op r hw (sop_sound hr) h

theorem WK.regionLog {id : Nat} {ops : Array Oper} {draw : Bool} (h : wol P draw ops K Q ops.toList s []) : WK P (.region id ops draw) K s Q := by
  obtain ⟨s1, l, h1, h2, h3, h4⟩ := wol_sound _ _ _ h
  refine WK.imp (d := .skip) (t := s1) (fun e s2 h => ?_) h4
  cases h
  cases draw with
  | false => exact .region h1
  | true => exact .regionDraw h1 (light_draw (by simpa using h3) (h2 rfl))

/-- Operations of a region, one behind the other, where their order does not matter. -/
def wo (P : Program) (draw : Bool) (all : Array Oper) (K : List Fk) (Q : AExit → St → Prop) : List Oper → St → Prop
  | [], s => WK P .skip K s Q
  | o :: rest, s => match wantedA all s.f o with
    | false => wo P draw all K Q rest ⟨fput s.f o.dst undef, s.n, s.H⟩
    | true => match acallee (evalA s.f) o with
      | some (g, args) => (∃ r, aop P (evalA s.f) s.n s.H o = some r ∧ wo P draw all K Q rest ⟨fput s.f o.dst r.v, r.next s.n, r.heap s.n s.H⟩) ∨
          Call P draw g args s.n s.H fun v n H => wo P draw all K Q rest ⟨fput s.f o.dst v, n, H⟩
      | none => match sop P (evalA s.f) s.n s.H o with
        | some r => wo P draw all K Q rest ⟨fput s.f o.dst r.v, r.next s.n, r.heap s.n s.H⟩
        | none => False

theorem Call.mono {draw : Bool} {g : FuncId} {args : List Value} {n : Nat} {H : Heap} {Q R : Value → Nat → Heap → Prop} (h : Call P draw g args n H Q) (hqr : ∀ v n' H', Q v n' H' → R v n' H') : Call P draw g args n H R := by
  obtain ⟨v, n', H', a, b, c⟩ := h; exact ⟨v, n', H', a, b, hqr v n' H' c⟩

theorem wo_wol {draw : Bool} {all : Array Oper} (hp : cond draw (sPairs all) [] = []) : ∀ (rest : List Oper) (s : St) (l : List LR), wo P draw all K Q rest s → wol P draw all K Q rest s l := by
  intro rest
  induction rest with
  | nil => intro s l h; exact ⟨by rw [hp]; trivial, h⟩
  | cons o rest ih =>
    intro s l h
    simp only [wo] at h
    simp only [wol]
    split at h
    · exact ih _ _ h
    · split at h
      · rcases h with ⟨r, hr, h⟩ | h
        · exact .inl ⟨r, hr, ih _ _ h⟩
        · exact .inr (h.mono fun v n H h => ih _ _ h)
      · split at h
        case h_2 => cases h
        exact ih _ _ h

theorem WK.region {id : Nat} {ops : Array Oper} {draw : Bool} (hp : _root_.cond draw (sPairs ops) [] = []) (h : wo P draw ops K Q ops.toList s) : WK P (.region id ops draw) K s Q :=
  WK.regionLog (wo_wol hp _ _ _ h)

end

/-- WHAT A FUNCTION LEAVES AS IT WAS. -/
structure Kp (n : Nat) (H : Heap) (n' : Nat) (H' : Heap) : Prop where
  le : n ≤ n'
  keep : ∀ x, x < n → H' x = H x
  wf : WF n H → WF n' H'

theorem Kp.refl (n : Nat) (H : Heap) : Kp n H n H := ⟨Nat.le_refl _, fun _ _ => rfl, id⟩
theorem Kp.trans {n n1 n2 : Nat} {H H1 H2 : Heap} (a : Kp n H n1 H1) (b : Kp n1 H1 n2 H2) : Kp n H n2 H2 :=
  ⟨Nat.le_trans a.le b.le, fun x hx => (b.keep x (Nat.lt_of_lt_of_le hx a.le)).trans (a.keep x hx), fun h => b.wf (a.wf h)⟩

/-- A CONTRACT: the call returns; what there was stays; what it returns is as said. -/
def Gives (P : Program) (g : FuncId) (args : List Value) (n : Nat) (H : Heap) (Q : Value → Nat → Heap → Prop) : Prop :=
  ∃ v n' H', BS P (.call g args n H) (.ret v n' H') ∧ Kp n H n' H' ∧ Q v n' H'

def packed : List Value → Value
  | [v] => v
  | l => .tuple l.toArray

def Fin (P : Program) (results : List ResultVar) (n : Nat) (H : Heap) (Q : Value → Nat → Heap → Prop) (e : AExit) (s : St) : Prop :=
  (e = .normal ∨ e = .ret) ∧ ∃ l, aresultsL P s results = some l ∧ (∀ x, x < n → s.H x = H x) ∧ Q (packed l) s.n s.H

theorem Gives.of {P : Program} (hm : P.follows .mixedOrders = true) {g : FuncId} {args : List Value} {n : Nat} {H : Heap} {Q : Value → Nat → Heap → Prop} {fn : Func} {c : Code} (hok : FnOK P g fn c) (hl : args.length ≤ fn.ntmps)
    (h : WK P c [] ⟨fun t => args.getD t undef, n, H⟩ (Fin P fn.results.toList n H Q)) : Gives P g args n H Q := by
  obtain ⟨e, s, h1, he, l, hv, hx, hq⟩ := h.run
  have hb := BS.call hok hl h1 he (v := packed l) (by
    unfold aresults
    rw [hv]
    match l with
    | [] => rfl
    | [v] => rfl
    | _ :: _ :: _ => rfl)
  obtain ⟨hmono, _⟩ := sound hm hb
  exact ⟨_, s.n, s.H, hb, ⟨hmono.le, hx, hmono.wf⟩, hq⟩

theorem Gives.mono {P : Program} {g : FuncId} {args : List Value} {n : Nat} {H : Heap} {Q R : Value → Nat → Heap → Prop} (h : Gives P g args n H Q) (hqr : ∀ v n' H', Kp n H n' H' → Q v n' H' → R v n' H') : Gives P g args n H R := by
  obtain ⟨v, n', H', a, b, c⟩ := h; exact ⟨v, n', H', a, b, hqr v n' H' b c⟩

theorem Gives.call {P : Program} {pure : Bool} {g : FuncId} {args : List Value} {n : Nat} {H : Heap} {Q R : Value → Nat → Heap → Prop} (h : Gives P g args n H Q) (hqr : ∀ v n' H', Kp n H n' H' → Q v n' H' → R v n' H') : Call P pure g args n H R := by
  obtain ⟨v, n', H', a, b, c⟩ := h; exact ⟨v, n', H', a, fun _ => b.keep, hqr v n' H' b c⟩

theorem wrap_in {n : Int} (h1 : -9223372036854775808 ≤ n) (h2 : n ≤ 9223372036854775807) : IntKind.wrap .i64 n = n := by
  simp only [IntKind.wrap, IntKind.signed, IntKind.bits]
  simp
  omega

end Go.AM
