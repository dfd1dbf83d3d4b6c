/- The abstract machine as a function, for closed examples: what it comes to is a run. -/
import Derived.Test.YtplnndgdklfnfaaAmMain
set_option linter.all false
namespace Go.AM
open Go.RowKit

/-- Is a pair of operations, whose order is open, apart? -/
def apartRec (r q : Rec) : Bool := match r.wr with
  | some x => !(q.rd.contains x) && (match q.wr with | some y => !(Nat.beq x y) | none => true)
  | none => true
def pairsOK (ps : List (Nat × Nat)) (l : List Rec) : Bool :=
  ps.all fun p => match l[p.1]?, l[p.2]? with
    | some r, some q => apartRec r q && apartRec q r
    | _, _ => true

section
variable (P : Program) (okF : FuncId → Bool)

def evOps (cf : Nat → FuncId → List Value → Nat → Heap → Option (Value × Nat × Heap)) (draw : Bool) (fl : Nat) (all : Array Oper) : List Oper → St → Option (St × List Rec)
  | [], s => some (s, [])
  | o :: rest, s =>
    match wantedA all s.f o with
    | false => match evOps cf draw fl all rest ⟨fput s.f o.dst undef, s.n, s.H⟩ with
      | some (s1, l) => some (s1, ⟨s, undef, s.n, s.H, [], none, false⟩ :: l)
      | none => none
    | true => match aop P (evalA s.f) s.n s.H o with
      | some r =>
        match (match r.wr with | some (x, _) => Nat.ble fl x | none => true) with
        | true => match evOps cf draw fl all rest ⟨fput s.f o.dst r.v, r.next s.n, r.heap s.n s.H⟩ with
          | some (s1, l) => some (s1, ⟨s, r.v, r.next s.n, r.heap s.n s.H, r.rd, r.wr.map (·.1), false⟩ :: l)
          | none => none
        | false => none
      | none => match acallee (evalA s.f) o with
        | some (g, args) => match cf (cond draw s.n fl) g args s.n s.H with
          | some (v, n, H) => match evOps cf draw fl all rest ⟨fput s.f o.dst v, n, H⟩ with
            | some (s1, l) => some (s1, ⟨s, v, n, H, [], none, true⟩ :: l)
            | none => none
          | none => none
        | none => none

def evCode (cf : Nat → FuncId → List Value → Nat → Heap → Option (Value × Nat × Heap)) : Nat → Nat → Code → St → Option (AExit × St)
  | 0, _, _, _ => none
  | k + 1, fl, c, s => match c with
    | .skip | .label _ => some (.normal, s)
    | .ret => some (.ret, s)
    | .exit id => some (.exit id, s)
    | .seq a b => match evCode cf k fl a s with
      | some (.normal, s1) => evCode cf k fl b s1
      | r => r
    | .cond x a b => match evalA s.f x with
      | .bool t => match t with
        | true => evCode cf k fl a s
        | false => evCode cf k fl b s
      | _ => none
    | .block id a => match evCode cf k fl a s with
      | some (e, s1) => some (blockExit id e, s1)
      | none => none
    | .loop a => match evCode cf k fl a s with
      | some (.normal, s1) => evCode cf k fl (.loop a) s1
      | r => r
    | .region _ ops draw => match evOps P cf draw fl ops ops.toList s with
      | some (s1, l) => match draw with
        | false => some (.normal, s1)
        | true => match pairsOK (sPairs ops) l with
          | true => some (.normal, s1)
          | false => none
      | none => none
    | _ => none

def evCall : Nat → Nat → FuncId → List Value → Nat → Heap → Option (Value × Nat × Heap)
  | 0, _, _, _, _, _ => none
  | k + 1, fl, g, args, n, H =>
    match okF g with
    | true => match P.funcs[g]? with
      | some fn => match fn.body with
        | some c => match Nat.ble args.length fn.ntmps with
          | true => match evCode P (evCall k) (k + 1) fl c ⟨fun t => args.getD t undef, n, H⟩ with
            | some (.normal, s) | some (.ret, s) => match aresults P fn s with
              | some v => some (v, s.n, s.H)
              | none => none
            | _ => none
          | false => none
        | none => none
      | none => none
    | false => none
end

/-- What a call by the function is. -/
def CfOK (P : Program) (cf : Nat → FuncId → List Value → Nat → Heap → Option (Value × Nat × Heap)) : Prop :=
  ∀ fl g args n H v n' H', cf fl g args n H = some (v, n', H') → BS P (.call g args n H) (.ret v n' H') ∧ ∀ x, x < fl → x < n → H' x = H x

section
variable {P : Program} {okF : FuncId → Bool}

theorem res_low {r : Res} {fl n x : Nat} {H : Heap} (h : (match r.wr with | some (x, _) => Nat.ble fl x | none => true) = true) (hx : x < fl) (hn : x < n) : r.heap n H x = H x := by
  apply Classical.byContradiction
  intro hc
  rcases res_heap hc with ⟨_, e⟩ | ⟨o, e⟩
  · omega
  · simp only [e] at h
    have := Nat.le_of_ble_eq_true h
    omega

theorem next_le (r : Res) (n : Nat) : n ≤ r.next n := by unfold Res.next; split <;> omega

theorem evOps_sound {cf : Nat → FuncId → List Value → Nat → Heap → Option (Value × Nat × Heap)} (hcf : CfOK P cf) (hmono : ∀ g args n H v n' H', BS P (.call g args n H) (.ret v n' H') → n ≤ n') {draw : Bool} {fl : Nat} {all : Array Oper} :
    ∀ (rest : List Oper) (s s1 : St) (l : List Rec), evOps P cf draw fl all rest s = some (s1, l) →
      BS P (.ops all rest s) (.log s1 l) ∧ s.n ≤ s1.n ∧ (∀ x, x < fl → x < s.n → s1.H x = s.H x) ∧ (draw = true → ∀ r ∈ l, r.call = true → ∀ x, x < r.pre.n → r.H x = r.pre.H x) := by
  intro rest
  induction rest with
  | nil => intro s s1 l h; simp only [evOps] at h; cases h; exact ⟨.opsNil all s, Nat.le_refl _, fun _ _ _ => rfl, fun _ r hr => by cases hr⟩
  | cons o rest ih =>
    intro s s1 l h
    simp only [evOps] at h
    split at h
    · rename_i hw
      split at h
      case h_2 => cases h
      rename_i s2 l2 h2
      cases h
      obtain ⟨b, c, d, e⟩ := ih _ _ _ h2
      refine ⟨.opsSkip hw b, c, d, fun hd r hr hc => ?_⟩
      rcases List.mem_cons.1 hr with hr | hr
      · subst hr; cases hc
      · exact e hd r hr hc
    · rename_i hw
      split at h
      · rename_i r hr
        split at h
        case h_2 => cases h
        rename_i hfl
        split at h
        case h_2 => cases h
        rename_i s2 l2 h2
        cases h
        obtain ⟨b, c, d, e⟩ := ih _ _ _ h2
        refine ⟨.opsOp hw hr b, Nat.le_trans (next_le r s.n) c, fun x h1 h3 => ?_, fun hd r hr hc => ?_⟩
        · rw [d x h1 (Nat.lt_of_lt_of_le h3 (next_le r s.n))]; exact res_low hfl h1 h3
        · rcases List.mem_cons.1 hr with hr | hr
          · subst hr; cases hc
          · exact e hd r hr hc
      · split at h
        case h_2 => cases h
        rename_i g args hg
        split at h
        case h_2 => cases h
        rename_i v n H hc
        split at h
        case h_2 => cases h
        rename_i s2 l2 h2
        cases h
        obtain ⟨b, c, d, e⟩ := ih _ _ _ h2
        obtain ⟨f1, f2⟩ := hcf _ _ _ _ _ _ _ _ hc
        have hle := hmono _ _ _ _ _ _ _ f1
        refine ⟨.opsCall hw hg f1 b, Nat.le_trans hle c, fun x h1 h3 => ?_, fun hd r hr hc => ?_⟩
        · rw [d x h1 (Nat.lt_of_lt_of_le h3 hle)]
          cases draw with
          | true => exact f2 x h3 h3
          | false => exact f2 x h1 h3
        · rcases List.mem_cons.1 hr with hr | hr
          · subst hr
            subst hd
            exact fun x hx => f2 x hx hx
          · exact e hd r hr hc

theorem pairs_sound {ops : Array Oper} {l : List Rec} (h : pairsOK (sPairs ops) l = true) (hc : ∀ r ∈ l, r.call = true → ∀ x, x < r.pre.n → r.H x = r.pre.H x) : drawOK ops l := by
  refine ⟨fun p hp x => ?_, hc⟩
  unfold pairsOK at h
  rw [List.all_eq_true] at h
  have h1 := h p hp
  have key : ∀ r q : Rec, apartRec r q = true → ¬ (r.wr = some x ∧ (x ∈ q.rd ∨ q.wr = some x)) := by
    rintro r q h ⟨e1, e2⟩
    unfold apartRec at h
    rw [e1] at h
    simp only [Bool.and_eq_true, Bool.not_eq_true'] at h
    rcases e2 with e2 | e2
    · have := h.1; simp at this; exact this e2
    · rw [e2] at h; simp at h
  constructor
  · rintro ⟨⟨r, e1, e2⟩, q, e3, e4⟩
    rw [e1, e3] at h1
    simp only [Bool.and_eq_true] at h1
    exact key r q h1.1 ⟨e2, e4⟩
  · rintro ⟨⟨r, e1, e2⟩, q, e3, e4⟩
    rw [e1, e3] at h1
    simp only [Bool.and_eq_true] at h1
    exact key r q h1.2 ⟨e2, e4⟩

theorem evCode_sound {cf : Nat → FuncId → List Value → Nat → Heap → Option (Value × Nat × Heap)} (hcf : CfOK P cf) (hmono : ∀ g args n H v n' H', BS P (.call g args n H) (.ret v n' H') → n ≤ n') :
    ∀ (k fl : Nat) (c : Code) (s s1 : St) (e : AExit), evCode P cf k fl c s = some (e, s1) → BS P (.code c s) (.at e s1) ∧ s.n ≤ s1.n ∧ ∀ x, x < fl → x < s.n → s1.H x = s.H x := by
  intro k
  induction k with
  | zero => intro fl c s s1 e h; simp [evCode] at h
  | succ k ih =>
    intro fl c s s1 e h
    cases c with
    | skip => simp only [evCode] at h; cases h; exact ⟨.skip s, Nat.le_refl _, fun _ _ _ => rfl⟩
    | label l => simp only [evCode] at h; cases h; exact ⟨.label l s, Nat.le_refl _, fun _ _ _ => rfl⟩
    | ret => simp only [evCode] at h; cases h; exact ⟨.ret s, Nat.le_refl _, fun _ _ _ => rfl⟩
    | exit id => simp only [evCode] at h; cases h; exact ⟨.exit id s, Nat.le_refl _, fun _ _ _ => rfl⟩
    | seq a b =>
      simp only [evCode] at h
      cases ha : evCode P cf k fl a s with
      | none => simp [ha] at h
      | some p =>
        obtain ⟨e1, s2⟩ := p
        obtain ⟨b1, b2, b3⟩ := ih _ _ _ _ _ ha
        by_cases he : e1 = .normal
        · subst he
          simp only [ha] at h
          obtain ⟨c1, c2, c3⟩ := ih _ _ _ _ _ h
          exact ⟨.seq b1 c1, Nat.le_trans b2 c2, fun x h1 h2 => (c3 x h1 (Nat.lt_of_lt_of_le h2 b2)).trans (b3 x h1 h2)⟩
        · have h' : some (e1, s2) = some (e, s1) := by
            rw [ha] at h
            cases e1 with
            | normal => exact absurd rfl he
            | exit id => exact h
            | ret => exact h
          cases h'
          exact ⟨.seqOut he b1, b2, b3⟩
    | cond x a b =>
      simp only [evCode] at h
      split at h
      case h_2 => cases h
      rename_i t ht
      cases t with
      | true => obtain ⟨b1, b2, b3⟩ := ih _ _ _ _ _ h; exact ⟨.cond true ht b1, b2, b3⟩
      | false => obtain ⟨b1, b2, b3⟩ := ih _ _ _ _ _ h; exact ⟨.cond false ht b1, b2, b3⟩
    | block id a =>
      simp only [evCode] at h
      split at h
      case h_2 => cases h
      rename_i e1 s2 ha
      cases h
      obtain ⟨b1, b2, b3⟩ := ih _ _ _ _ _ ha
      exact ⟨.block b1, b2, b3⟩
    | loop a =>
      simp only [evCode] at h
      cases ha : evCode P cf k fl a s with
      | none => simp [ha] at h
      | some p =>
        obtain ⟨e1, s2⟩ := p
        obtain ⟨b1, b2, b3⟩ := ih _ _ _ _ _ ha
        by_cases he : e1 = .normal
        · subst he
          simp only [ha] at h
          obtain ⟨c1, c2, c3⟩ := ih _ _ _ _ _ h
          exact ⟨.loop b1 c1, Nat.le_trans b2 c2, fun x h1 h2 => (c3 x h1 (Nat.lt_of_lt_of_le h2 b2)).trans (b3 x h1 h2)⟩
        · have h' : some (e1, s2) = some (e, s1) := by
            rw [ha] at h
            cases e1 with
            | normal => exact absurd rfl he
            | exit id => exact h
            | ret => exact h
          cases h'
          exact ⟨.loopOut he b1, b2, b3⟩
    | region id ops draw =>
      simp only [evCode] at h
      split at h
      case h_2 => cases h
      rename_i s2 l h2
      obtain ⟨b1, b2, b3, b4⟩ := evOps_sound hcf hmono _ _ _ _ h2
      cases draw with
      | false => cases h; exact ⟨.region b1, b2, b3⟩
      | true =>
        simp only at h
        split at h
        case h_2 => cases h
        rename_i hp
        cases h
        exact ⟨.regionDraw b1 (pairs_sound hp (b4 rfl)), b2, b3⟩
    | _ => simp [evCode] at h

theorem call_mono (hm : P.follows .mixedOrders = true) : ∀ g args n H v n' H', BS P (.call g args n H) (.ret v n' H') → n ≤ n' := fun _ _ _ _ _ _ _ h => (sound hm h).1.le

theorem evCall_sound (hm : P.follows .mixedOrders = true) (hok : ∀ g fn c, okF g = true → P.funcs[g]? = some fn → fn.body = some c → FnOK P g fn c) : ∀ k, CfOK P (evCall P okF k) := by
  intro k
  induction k with
  | zero => intro fl g args n H v n' H' h; simp [evCall] at h
  | succ k ih =>
    intro fl g args n H v n' H' h
    simp only [evCall] at h
    split at h
    case h_2 => cases h
    rename_i hg
    split at h
    case h_2 => cases h
    rename_i fn hfn
    split at h
    case h_2 => cases h
    rename_i c hc
    split at h
    case h_2 => cases h
    rename_i hl
    have hl' := Nat.le_of_ble_eq_true hl
    split at h
    · rename_i s hs
      split at h
      case h_2 => cases h
      rename_i v' hv
      cases h
      obtain ⟨b1, b2, b3⟩ := evCode_sound ih (call_mono hm) _ _ _ _ _ _ hs
      exact ⟨.call (hok g fn c hg hfn hc) hl' b1 (.inl rfl) hv, b3⟩
    · rename_i s hs
      split at h
      case h_2 => cases h
      rename_i v' hv
      cases h
      obtain ⟨b1, b2, b3⟩ := evCode_sound ih (call_mono hm) _ _ _ _ _ _ hs
      exact ⟨.call (hok g fn c hg hfn hc) hl' b1 (.inr rfl) hv, b3⟩
    · cases h

end

/-- Functions that may be entered, by a look. -/
def fnOKb (P : Program) (g : FuncId) : Bool := match P.funcs[g]? with
  | some fn => match fn.body with
    | some c => !(fn.name == "runtime.NumGoroutine") && codeOK fn.ntmps c && resultsOK fn
    | none => true
  | none => true
theorem fnOK_of {P : Program} {l : List FuncId} (h : l.all (fnOKb P) = true) : ∀ g fn c, l.contains g = true → P.funcs[g]? = some fn → fn.body = some c → FnOK P g fn c := by
  intro g fn c hg hfn hc
  rw [List.all_eq_true] at h
  have := h g (by simpa using hg)
  unfold fnOKb at this
  simp only [hfn, hc, Bool.and_eq_true, Bool.not_eq_true'] at this
  exact ⟨hfn, hc, this.1.1, this.1.2, this.2⟩

end Go.AM
