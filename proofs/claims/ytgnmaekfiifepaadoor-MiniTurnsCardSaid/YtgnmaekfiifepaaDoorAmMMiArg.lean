/- A part of a proof. Its conditions: none. -/
import Derived.Test.YtgnmaekfiifepaaDoorAmMMiLeasts
import Derived.Test.YtgnmaekfiifepaaDoorAmMMiTurns
import Derived.Test.YtgnmaekfiifepaaDoorAmC
set_option linter.all false
namespace Go.Proofs.YtgnmaekfiifepaaDoor
open Go.AM
set_option maxRecDepth 100000
theorem arg_dfa {H : Heap} {v : Value} (h : ARV Tryd.prog H 25 v) : ∃ N R, RD H v N R ∧ WA N R := by
  obtain ⟨h1, h2, _⟩ := h
  obtain ⟨cs, rfl⟩ := h2 (by kernel_rfl)
  have hvc : vcells (.agg cs) = cs.toList := rfl
  rw [hvc] at h1
  have e : Program.underlying Tryd.prog 25 = some (.struct #[⟨"Next", 22, 0, false, "", "", 0⟩, ⟨"Rule", 23, 1, false, "", "", 24⟩]) := by kernel_rfl
  obtain ⟨hl, hf⟩ := h1.struct_inv e
  have hc : Tryd.prog.cellsOf 25 = 2 := by kernel_rfl
  have hc2 : Tryd.prog.cellsOf 22 = 1 := by kernel_rfl
  have hc1 : Tryd.prog.cellsOf 23 = 1 := by kernel_rfl
  have hc0 : Tryd.prog.cellsOf 3 = 1 := by kernel_rfl
  have u2 : Program.underlying Tryd.prog 22 = some (.slice 23) := by kernel_rfl
  have u1 : Program.underlying Tryd.prog 23 = some (.slice 3) := by kernel_rfl
  have u0 : Program.underlying Tryd.prog 3 = some (.int .i64) := by kernel_rfl
  rw [hc] at hl
  obtain ⟨cs⟩ := cs
  simp only at hl hf
  match cs, hl with
  | [x, y], _ =>
    have h1 : AR Tryd.prog H 22 (([x, y].drop 0).take (Tryd.prog.cellsOf 22)) := hf 0 ⟨"Next", 22, 0, false, "", "", 0⟩ rfl
    have h2 : AR Tryd.prog H 23 (([x, y].drop 1).take (Tryd.prog.cellsOf 23)) := hf 1 ⟨"Rule", 23, 1, false, "", "", 24⟩ rfl
    rw [hc2] at h1
    rw [hc1] at h2
    obtain ⟨p, N, e1, hN, hn, hr⟩ := h1.ints2 u2 hc1 u1 hc0 u0
    obtain ⟨q, R, e2, hR, hrl, hri⟩ := h2.ints u1 hc0 u0
    simp at e1 e2
    subst e1 e2
    exact ⟨N, R, ⟨p, q, rfl, hN, hR.ra⟩, hn, hrl, hr, hri⟩
end Go.Proofs.YtgnmaekfiifepaaDoor
