/- A part of a proof. Its conditions: none. -/
import Derived.Test.YtihjaobjhmmboaaGreatDoorAmUNan
set_option linter.all false
namespace Go.Proofs.YtihjaobjhmmboaaGreatDoor
open Go.AM
set_option maxRecDepth 100000

/-- WHAT THE PACKAGE-LEVEL VARIABLES HOLD, as far as it is wanted. -/
def pows : List Value := Go.Pinned.pow10Rows.flatMap fun x => [.int .u64 x.1, .int .u64 x.2]
def tens : List Value := [.int .u64 1, .int .u64 10, .int .u64 100, .int .u64 1000, .int .u64 10000, .int .u64 100000, .int .u64 1000000, .int .u64 10000000, .int .u64 100000000, .int .u64 1000000000, .int .u64 10000000000, .int .u64 100000000000, .int .u64 1000000000000, .int .u64 10000000000000, .int .u64 100000000000000, .int .u64 1000000000000000, .int .u64 10000000000000000, .int .u64 100000000000000000, .int .u64 1000000000000000000, .int .u64 10000000000000000000]
def G : Heap := fun x => cond (Nat.beq x 4) (.cells pows 179 false)
  (cond (Nat.beq x 3) (.cells tens 168 false)
  (cond (Nat.beq x 1) (.cells [.bool true] 4 false) .dead))
theorem pows_flat : pows.all flat1 = true := by kernel_rfl
theorem tens_flat : tens.all flat1 = true := by kernel_rfl
theorem G_spec (x : Nat) (h : G x ≠ .dead) : x < ngl Tryz.prog ∧ ∃ cs ty, G x = .cells cs ty false ∧ cs.all flat1 = true := by
  have h4 : 4 < ngl Tryz.prog := by exact of_decide_eq_true (by kernel_rfl)
  have h3 : 3 < ngl Tryz.prog := by exact of_decide_eq_true (by kernel_rfl)
  have h2 : 1 < ngl Tryz.prog := by exact of_decide_eq_true (by kernel_rfl)
  unfold G at h ⊢
  cases e4 : Nat.beq x 4 with
  | true => rw [Nat.eq_of_beq_eq_true e4]; exact ⟨h4, _, _, rfl, pows_flat⟩
  | false =>
    simp only [e4, cond_false] at h ⊢
    cases e3 : Nat.beq x 3 with
    | true => rw [Nat.eq_of_beq_eq_true e3]; exact ⟨h3, _, _, rfl, tens_flat⟩
    | false =>
      simp only [e3, cond_false] at h ⊢
      cases e2 : Nat.beq x 1 with
      | true => rw [Nat.eq_of_beq_eq_true e2]; exact ⟨h2, _, _, rfl, rfl⟩
      | false => simp [e2] at h

/-- THE DOCUMENT's EXAMPLE: the kernel goes through it. -/
theorem alive_ev : (evCall Tryz.prog (fun g => fns.contains g) 20000 0 8 [] (ngl Tryz.prog) G).map (·.1) = some (.bool true) := by kernel_rfl

theorem alive_gives (n : Nat) (H : Heap) (hG : ∀ x, G x ≠ .dead → H x = G x) : Gives Tryz.prog 8 [] n H fun v n' H' => v = .bool true ∧ n' = n ∧ H' = H := by
  have h := alive_ev
  cases he : evCall Tryz.prog (fun g => fns.contains g) 20000 0 8 [] (ngl Tryz.prog) G with
  | none => rw [he] at h; cases h
  | some r =>
    obtain ⟨v, n1, H1⟩ := r
    rw [he] at h
    simp only [Option.map_some, Option.some.injEq] at h
    subst h
    obtain ⟨h1, _⟩ := evCall_sound orders oks 20000 _ _ _ _ _ _ _ _ he
    refine ⟨.bool true, n, H, .closed h1 (fun x hx => ?_) (fun x hx => ⟨(G_spec x hx).2, hG x hx⟩), Kp.refl n H, rfl, rfl, rfl⟩
    apply Classical.byContradiction
    intro hd
    have := (G_spec x hd).1
    omega
end Go.Proofs.YtihjaobjhmmboaaGreatDoor
