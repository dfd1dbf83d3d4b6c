/- A part of a proof. Its conditions: none. -/
import Derived.Test.YtplnndgdklfnfaaAmLeftFacts
import Derived.Test.YtplnndgdklfnfaaAmC
set_option linter.all false
namespace Go.Proofs.Ytplnndgdklfnfaa
open Go.AM

theorem und_22 : Try.prog.underlying 22 = some (.slice 9) := by kernel_rfl
theorem und_23 : Try.prog.underlying 23 = some (.slice 48) := by kernel_rfl
theorem und_35 : Try.prog.underlying 35 = some (.slice 3) := by kernel_rfl
theorem und_25 : ∃ f1 f2 f3 : Field, Try.prog.underlying 25 = some (.struct #[f1, f2, f3]) ∧ f1.type = 22 ∧ f1.offset = 0 ∧ f2.type = 22 ∧ f2.offset = 1 ∧ f3.type = 23 ∧ f3.offset = 2 :=
  ⟨{ name := "Terms", type := 22, offset := 0, embedded := false, tag := "", pkgPath := "", byteOffset := 0 }, { name := "Vars", type := 22, offset := 1, embedded := false, tag := "", pkgPath := "", byteOffset := 24 },
    { name := "Rules", type := 23, offset := 2, embedded := false, tag := "", pkgPath := "", byteOffset := 48 }, by kernel_rfl, rfl, rfl, rfl, rfl, rfl, rfl⟩
theorem und_48 : ∃ f1 f2 f3 : Field, Try.prog.underlying 48 = some (.struct #[f1, f2, f3]) ∧ f1.type = 3 ∧ f1.offset = 0 ∧ f2.type = 35 ∧ f2.offset = 1 ∧ f3.type = 46 ∧ f3.offset = 2 :=
  ⟨{ name := "Left", type := 3, offset := 0, embedded := false, tag := "", pkgPath := "", byteOffset := 0 }, { name := "Right", type := 35, offset := 1, embedded := false, tag := "", pkgPath := "", byteOffset := 8 },
    { name := "Weight", type := 46, offset := 2, embedded := false, tag := "", pkgPath := "", byteOffset := 32 }, by kernel_rfl, rfl, rfl, rfl, rfl, rfl, rfl⟩
theorem gramT : GramT Try.prog 25 48 3 9 22 23 35 46 := ⟨und_25, und_48, und_3, und_9, und_22, und_23, und_35, und_46, csz_3, csz_9, csz_22, csz_23, csz_35, csz_46, csz_48, csz_25⟩

theorem own : ownKnob Try.prog.godebug = none := by kernel_rfl
theorem laid : laidOutB Try.prog = true := by kernel_rfl
theorem plain_all : ([25, 3, 35].all fun t => plainT Try.prog 10 t && Try.prog.readableRec t && decide (t < Try.prog.types.size)) = true := by kernel_rfl
theorem plain_of {t : TypeId} (h : t ∈ [25, 3, 35]) : plainT Try.prog 10 t = true ∧ Try.prog.readableRec t = true ∧ t < Try.prog.types.size := by
  have := List.all_eq_true.1 plain_all t h
  simp only [Bool.and_eq_true, decide_eq_true_eq] at this
  exact ⟨this.1.1, this.1.2, this.2⟩
end Go.Proofs.Ytplnndgdklfnfaa
