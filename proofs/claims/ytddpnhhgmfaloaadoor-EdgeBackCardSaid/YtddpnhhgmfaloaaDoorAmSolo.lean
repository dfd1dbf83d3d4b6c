/- A part of a proof. Its conditions: none. -/
import Derived.Test.YtddpnhhgmfaloaaDoorAmD
set_option linter.all false
/- Regions that draw an order, in which a call may change objects because all that may come in either order beside it touches none. -/
namespace Go.AM
open Go.RowKit

def wz (P : Program) (all : Array Oper) (K : List Fk) (Q : AExit → St → Prop) : List Bool → List Oper → Fr → Nat → Heap → Prop
  | _, [], f, n, H => WK P .skip K ⟨f, n, H⟩ Q
  | b :: fl, o :: rest, f, n, H => w1 P b (wz P all K Q fl rest) o f n H (wantedA all f o)
  | [], o :: rest, f, n, H => w1 P true (wz P all K Q [] rest) o f n H (wantedA all f o)

theorem wz_sound {P : Program} {all : Array Oper} {K : List Fk} {Q : AExit → St → Prop} : ∀ (rest : List Oper) (fl : List Bool) (j : Nat), (∀ k : Nat, fl[k]? = some false → soloB all (j + k) = true) → ∀ (f : Fr) (n : Nat) (H : Heap), wz P all K Q fl rest f n H →
    ∃ s1 l, BS P (.ops all rest ⟨f, n, H⟩) (.log s1 l) ∧ (∀ (k : Nat) (r : Rec), l[k]? = some r → r.call = true → soloB all (j + k) = true ∨ ∀ x, x < r.pre.n → r.H x = r.pre.H x) ∧ WK P .skip K s1 Q := by
  intro rest
  induction rest with
  | nil =>
    intro fl j hfl f n H h
    refine ⟨⟨f, n, H⟩, [], .opsNil all _, (fun k r hr => by simp at hr), ?_⟩
    cases fl <;> exact h
  | cons o rest ih =>
    intro fl j hfl f n H h
    obtain ⟨b, fl', hfl', hb, h⟩ : ∃ b fl', (∀ k : Nat, fl'[k]? = some false → soloB all (j + 1 + k) = true) ∧ (b = false → soloB all j = true) ∧ w1 P b (wz P all K Q fl' rest) o f n H (wantedA all f o) := by
      cases fl with
      | nil => exact ⟨true, [], fun k hk => by simp at hk, fun e => (by cases e), h⟩
      | cons b fl => exact ⟨b, fl, fun k hk => by rw [show j + 1 + k = j + (k + 1) by omega]; exact hfl (k + 1) (by simpa using hk), fun e => hfl 0 (by subst e; rfl), h⟩
    have op : ∀ t, (∀ r, t = some r → aop P (evalA f) n H o = some r) → wantedA all f o = true → w3 (wz P all K Q fl' rest) f o.dst n H t →
        ∃ s1 l, BS P (.ops all (o :: rest) ⟨f, n, H⟩) (.log s1 l) ∧ (∀ (k : Nat) (r : Rec), l[k]? = some r → r.call = true → soloB all (j + k) = true ∨ ∀ x, x < r.pre.n → r.H x = r.pre.H x) ∧ WK P .skip K s1 Q := fun t ht hw h => by
      cases t with
      | none => cases h
      | some r =>
        obtain ⟨s1, l, h1, h2, h3⟩ := ih fl' (j + 1) hfl' _ _ _ h
        refine ⟨s1, _, .opsOp hw (ht r rfl) h1, fun k q hq hc => ?_, h3⟩
        cases k with
        | zero => simp at hq; subst hq; cases hc
        | succ k => rw [show j + (k + 1) = j + 1 + k by omega]; exact h2 k q (by simpa using hq) hc
    cases hw : wantedA all f o with
    | false =>
      rw [hw] at h
      obtain ⟨s1, l, h1, h2, h3⟩ := ih fl' (j + 1) hfl' _ _ _ h
      refine ⟨s1, _, .opsSkip hw h1, fun k q hq hc => ?_, h3⟩
      cases k with
      | zero => simp at hq; subst hq; cases hc
      | succ k => rw [show j + (k + 1) = j + 1 + k by omega]; exact h2 k q (by simpa using hq) hc
    | true =>
      rw [hw] at h
      simp only [w1] at h
      cases hg : acallee (evalA f) o with
      | none => rw [hg] at h; exact op _ (fun r hr => top_sound hr) hw h
      | some c =>
        obtain ⟨g, args⟩ := c
        rw [hg] at h
        rcases h with h | ⟨v, n1, H1, hbs, hf, h⟩
        · exact op _ (fun r hr => hr) hw h
        · obtain ⟨s1, l, h1, h2, h3⟩ := ih fl' (j + 1) hfl' _ _ _ h
          refine ⟨s1, _, .opsCall hw hg hbs h1, fun k q hq hc => ?_, h3⟩
          cases k with
          | zero =>
            simp at hq; subst hq
            cases b with
            | false => exact .inl (hb rfl)
            | true => exact .inr (hf rfl)
          | succ k => rw [show j + (k + 1) = j + 1 + k by omega]; exact h2 k q (by simpa using hq) hc

/-- The flags: where a call may change objects. -/
def soloFl (ops : Array Oper) (fl : List Bool) : Bool := (List.range fl.length).all fun k => (fl.getD k true) || soloB ops k

theorem WK.rgs {P : Program} {K : List Fk} {Q : AExit → St → Prop} {f : Fr} {n : Nat} {H : Heap} {id : Nat} {ops : Array Oper} (fl : List Bool) (hfl : soloFl ops fl = true) (hp : (sPairs ops).isEmpty = true) (h : wz P ops K Q fl ops.toList f n H) :
    WK P (.region id ops true) K ⟨f, n, H⟩ Q := by
  obtain ⟨s1, l, h1, h2, h3⟩ := wz_sound ops.toList fl 0 (by
    intro k hk
    have hlt := (List.getElem?_eq_some_iff.1 hk).1
    have := List.all_eq_true.1 hfl k (List.mem_range.2 hlt)
    rw [List.getD_eq_getElem?_getD, hk] at this
    rw [Nat.zero_add]
    simpa using this) _ _ _ h
  refine WK.imp (d := .skip) (t := s1) (fun e s2 h => ?_) h3
  cases h
  refine .regionDraw h1 ⟨fun p hp' => ?_, fun k r e hcl => by have := h2 k r e hcl; rwa [Nat.zero_add] at this⟩
  rw [List.isEmpty_iff.1 hp] at hp'; cases hp'
end Go.AM
