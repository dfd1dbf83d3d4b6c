/- A part of a proof. Its conditions: none. -/
import Derived.Test.YtpdlmpbhohinpaaAmCChShort
import Derived.Test.YtpdlmpbhohinpaaAmC
set_option linter.all false
namespace Go.Proofs.Ytpdlmpbhohinpaa
open Go.AM Go.RowKit
set_option maxRecDepth 100000
def WO (n : Nat) (H : Heap) (v : Value) (w : List Int) : Prop := ∃ q, v = .slice q w.length w.length ∧ ((q = none ∧ w = []) ∨ ∃ z, q = some ⟨z, 0, none⟩ ∧ n ≤ z ∧ H z = .cells (w.map (.int .i64)) 3 true)
theorem WO.rs {n : Nat} {H : Heap} {v : Value} {w : List Int} (h : WO n H v w) : ∃ q, v = .slice q w.length w.length ∧ RS (Value.int .i64) H q w := by
  obtain ⟨q, rfl, h | ⟨z, rfl, _, hz⟩⟩ := h
  · exact ⟨q, rfl, .inl h⟩
  · exact ⟨_, rfl, .inr ⟨z, 0, _, _, _, rfl, hz, by simp, fun i y e => by rw [Nat.zero_add, List.getElem?_map, e]; rfl⟩⟩
end Go.Proofs.Ytpdlmpbhohinpaa
