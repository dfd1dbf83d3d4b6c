/- Regions by rewriting, where operations that may come in either order must keep apart. -/
import Derived.Test.YtplnndgdklfnfaaAmRun
set_option linter.all false
namespace Go.AM
open Go.RowKit

def wl3 (k : Fr → Nat → Heap → List LR → Prop) (f : Fr) (d : Option Nat) (n : Nat) (H : Heap) (l : List LR) : Option Res → Prop
  | some r => k (fput f d r.v) (r.next n) (r.heap n H) (l ++ [⟨r.rd, r.wr.map (·.1)⟩])
  | none => False
def AtCallL (P : Program) (draw : Bool) (k : Fr → Nat → Heap → List LR → Prop) (f : Fr) (d : Option Nat) (n : Nat) (H : Heap) (l : List LR) (g : FuncId) (args : List Value) (ext : Option Res) : Prop :=
  wl3 k f d n H l ext ∨ Call P draw g args n H fun v n H => k (fput f d v) n H (l ++ [⟨[], none⟩])
def wl2 (P : Program) (draw : Bool) (k : Fr → Nat → Heap → List LR → Prop) (o : Oper) (f : Fr) (n : Nat) (H : Heap) (l : List LR) : Option (FuncId × List Value) → Prop
  | none => wl3 k f o.dst n H l (top P (evalA f) n H o)
  | some (g, args) => AtCallL P draw k f o.dst n H l g args (aop P (evalA f) n H o)
def wl1 (P : Program) (draw : Bool) (k : Fr → Nat → Heap → List LR → Prop) (o : Oper) (f : Fr) (n : Nat) (H : Heap) (l : List LR) : Bool → Prop
  | false => k (fput f o.dst undef) n H (l ++ [⟨[], none⟩])
  | true => wl2 P draw k o f n H l (acallee (evalA f) o)

/-- How it ends. -/
def WLEnd (P : Program) (ps : List (Nat × Nat)) (K : List Fk) (Q : AExit → St → Prop) (s : St) (l : List LR) : Prop := lightOK ps l ∧ WK P .skip K s Q

def wl (P : Program) (draw : Bool) (ps : List (Nat × Nat)) (all : Array Oper) (K : List Fk) (Q : AExit → St → Prop) : List Oper → Fr → Nat → Heap → List LR → Prop
  | [], f, n, H, l => WLEnd P ps K Q ⟨f, n, H⟩ l
  | o :: rest, f, n, H, l => wl1 P draw (wl P draw ps all K Q rest) o f n H l (wantedA all f o)

theorem wl_sound {P : Program} {draw : Bool} {ps : List (Nat × Nat)} {all : Array Oper} {K : List Fk} {Q : AExit → St → Prop} : ∀ (rest : List Oper) (f : Fr) (n : Nat) (H : Heap) (l0 : List LR), wl P draw ps all K Q rest f n H l0 →
    ∃ s1 l, BS P (.ops all rest ⟨f, n, H⟩) (.log s1 l) ∧ (draw = true → ∀ r ∈ l, r.call = true → ∀ x, x < r.pre.n → r.H x = r.pre.H x) ∧ lightOK ps (l0 ++ l.map lrOf) ∧ WK P .skip K s1 Q := by
  intro rest
  induction rest with
  | nil => intro f n H l0 h; exact ⟨⟨f, n, H⟩, [], .opsNil all _, (fun _ r hr => by cases hr), by simpa using h.1, h.2⟩
  | cons o rest ih =>
    intro f n H l0 h
    simp only [wl] at h
    have op : ∀ t, (∀ r, t = some r → aop P (evalA f) n H o = some r) → wantedA all f o = true → wl3 (wl P draw ps all K Q rest) f o.dst n H l0 t →
        ∃ s1 l, BS P (.ops all (o :: rest) ⟨f, n, H⟩) (.log s1 l) ∧ (draw = true → ∀ r ∈ l, r.call = true → ∀ x, x < r.pre.n → r.H x = r.pre.H x) ∧ lightOK ps (l0 ++ l.map lrOf) ∧ WK P .skip K s1 Q := fun t ht hw h => by
      cases t with
      | none => cases h
      | some r =>
        obtain ⟨s1, l, h1, h2, h3, h4⟩ := ih _ _ _ _ h
        refine ⟨s1, _, .opsOp hw (ht r rfl) h1, fun hd r hr hc => ?_, by simpa [lrOf] using h3, h4⟩
        rcases List.mem_cons.1 hr with hr | hr
        · subst hr; cases hc
        · exact h2 hd r hr hc
    cases hw : wantedA all f o with
    | false =>
      rw [hw] at h
      obtain ⟨s1, l, h1, h2, h3, h4⟩ := ih _ _ _ _ h
      refine ⟨s1, _, .opsSkip hw h1, fun hd r hr hc => ?_, by simpa [lrOf] using h3, h4⟩
      rcases List.mem_cons.1 hr with hr | hr
      · subst hr; cases hc
      · exact h2 hd r hr hc
    | true =>
      rw [hw] at h
      simp only [wl1] at h
      cases hg : acallee (evalA f) o with
      | none => rw [hg] at h; exact op _ (fun r hr => top_sound hr) hw h
      | some c =>
        obtain ⟨g, args⟩ := c
        rw [hg] at h
        rcases h with h | ⟨v, n1, H1, hb, hf, h⟩
        · exact op _ (fun r hr => hr) hw h
        · obtain ⟨s1, l, h1, h2, h3, h4⟩ := ih _ _ _ _ h
          refine ⟨s1, _, .opsCall hw hg hb h1, fun hd r hr hc => ?_, by simpa [lrOf] using h3, h4⟩
          rcases List.mem_cons.1 hr with hr | hr
          · subst hr; exact hf hd
          · exact h2 hd r hr hc

theorem WK.rgl {P : Program} {K : List Fk} {Q : AExit → St → Prop} {f : Fr} {n : Nat} {H : Heap} {id : Nat} {ops : Array Oper} {draw : Bool} (ps : List (Nat × Nat)) (hp : _root_.cond draw (sPairs ops) [] = ps) (h : wl P draw ps ops K Q ops.toList f n H []) :
    WK P (.region id ops draw) K ⟨f, n, H⟩ Q := by
  obtain ⟨s1, l, h1, h2, h3, h4⟩ := wl_sound _ _ _ _ _ h
  refine WK.imp (d := .skip) (t := s1) (fun e s2 h => ?_) h4
  cases h
  cases draw with
  | false => exact .region h1
  | true =>
    have hp : sPairs ops = ps := hp
    rw [← hp] at h3
    exact .regionDraw h1 (light_draw (by simpa using h3) (h2 rfl))

section
variable {P : Program} {draw : Bool} {k : Fr → Nat → Heap → List LR → Prop} {o : Oper} {f : Fr} {d : Option Nat} {n : Nat} {H : Heap} {l : List LR}
theorem wl1_false : wl1 P draw k o f n H l false = k (fput f o.dst undef) n H (l ++ [⟨[], none⟩]) := rfl
theorem wl1_true : wl1 P draw k o f n H l true = wl2 P draw k o f n H l (acallee (evalA f) o) := rfl
theorem wl2_none : wl2 P draw k o f n H l none = wl3 k f o.dst n H l (top P (evalA f) n H o) := rfl
theorem wl2_some (g : FuncId) (args : List Value) : wl2 P draw k o f n H l (some (g, args)) = AtCallL P draw k f o.dst n H l g args (aop P (evalA f) n H o) := rfl
theorem wl3_some (r : Res) : wl3 k f d n H l (some r) = k (fput f d r.v) (r.next n) (r.heap n H) (l ++ [⟨r.rd, r.wr.map (·.1)⟩]) := rfl
theorem wl3_none : wl3 k f d n H l none = False := rfl
end

theorem AtCallL.by {P : Program} {draw : Bool} {k : Fr → Nat → Heap → List LR → Prop} {f : Fr} {d : Option Nat} {n : Nat} {H : Heap} {l : List LR} {g : FuncId} {args : List Value} {ext : Option Res} {Q : Value → Nat → Heap → Prop} (h : Gives P g args n H Q)
    (hk : ∀ v n' H', Kp n H n' H' → Q v n' H' → k (fput f d v) n' H' (l ++ [⟨[], none⟩])) : AtCallL P draw k f d n H l g args ext := .inr (h.call hk)
theorem AtCallL.now {P : Program} {draw : Bool} {k : Fr → Nat → Heap → List LR → Prop} {f : Fr} {d : Option Nat} {n : Nat} {H : Heap} {l : List LR} {g : FuncId} {args : List Value} {r : Res} (h : k (fput f d r.v) (r.next n) (r.heap n H) (l ++ [⟨r.rd, r.wr.map (·.1)⟩])) :
    AtCallL P draw k f d n H l g args (some r) := .inl h

/-- Two operations, by their places. -/
theorem light_cons {i j : Nat} {ps : List (Nat × Nat)} {l : List LR} {r q : LR} (h1 : l[i]? = some r) (h2 : l[j]? = some q) (h : lapart r q) (hl : lightOK ps l) : lightOK ((i, j) :: ps) l := by
  refine ⟨?_, hl⟩
  simp only [h1, h2]
  exact h
theorem light_nil {l : List LR} : lightOK [] l := trivial
theorem lapart_rw {rd rd' : List Nat} {y : Nat} (h : y ∉ rd) : lapart ⟨rd, none⟩ ⟨rd', some y⟩ := by
  refine ⟨fun x hx => (by cases hx), fun x hx => ?_⟩
  cases hx
  rintro (h' | h')
  · exact h h'
  · cases h'
theorem lapart_wr {rd rd' : List Nat} {y : Nat} (h : y ∉ rd) : lapart ⟨rd', some y⟩ ⟨rd, none⟩ := ⟨(lapart_rw (rd' := rd') h).2, fun x hx => (by cases hx)⟩
theorem lapart_rr {rd rd' : List Nat} : lapart ⟨rd, none⟩ ⟨rd', none⟩ := ⟨fun x hx => (by cases hx), fun x hx => (by cases hx)⟩

end Go.AM
