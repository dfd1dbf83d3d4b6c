/- The lesser and the greater of two integers. -/
import Derived.Test.YtplnndgdklfnfaaAmRun
set_option linter.all false
namespace Go.AM
open Go.RowKit
def tmm (mx : Bool) (alt : Option Res) : Value → Value → Option Res
  | .int k a, .int _ b => some { v := .int k (if mx then (if a < b then b else a) else if b < a then b else a) }
  | _, _ => alt
theorem aop_min {P : Program} {f : Fr} {n : Nat} {H : Heap} {d : Option Nat} {x y : Operand} {ats : Array TypeId} {ty : TypeId} {p : String} {af : Array Edge} {gd : Option (Nat × Bool)} :
    aop P (evalA f) n H ⟨d, .call ⟨.builtin .min, #[x, y], ats⟩, ty, p, af, gd⟩ = tmm false (aflat P (evalA f) ⟨d, .call ⟨.builtin .min, #[x, y], ats⟩, ty, p, af, gd⟩) (evalA f x) (evalA f y) := by
  cases hx : evalA f x <;> cases hy : evalA f y <;> first | rfl | skip
  rename_i k a k' b
  show aflat P (evalA f) _ = _
  unfold aflat
  have h1 : opFlat (evalA f) ⟨d, .call ⟨.builtin .min, #[x, y], ats⟩, ty, p, af, gd⟩ = true := by
    simp only [opFlat, Op.operands, Call.operands]
    simp [hx, hy, flat, flat1]
  rw [if_pos h1]
  simp [execOp, resolve, invoke, hx, hy, Builtin.min_, Builtin.min2, builtin, tmm]
  rfl
theorem aop_max {P : Program} {f : Fr} {n : Nat} {H : Heap} {d : Option Nat} {x y : Operand} {ats : Array TypeId} {ty : TypeId} {p : String} {af : Array Edge} {gd : Option (Nat × Bool)} :
    aop P (evalA f) n H ⟨d, .call ⟨.builtin .max, #[x, y], ats⟩, ty, p, af, gd⟩ = tmm true (aflat P (evalA f) ⟨d, .call ⟨.builtin .max, #[x, y], ats⟩, ty, p, af, gd⟩) (evalA f x) (evalA f y) := by
  cases hx : evalA f x <;> cases hy : evalA f y <;> first | rfl | skip
  rename_i k a k' b
  show aflat P (evalA f) _ = _
  unfold aflat
  have h1 : opFlat (evalA f) ⟨d, .call ⟨.builtin .max, #[x, y], ats⟩, ty, p, af, gd⟩ = true := by
    simp only [opFlat, Op.operands, Call.operands]
    simp [hx, hy, flat, flat1]
  rw [if_pos h1]
  simp [execOp, resolve, invoke, hx, hy, Builtin.max_, Builtin.max2, builtin, tmm]
  rfl
end Go.AM
