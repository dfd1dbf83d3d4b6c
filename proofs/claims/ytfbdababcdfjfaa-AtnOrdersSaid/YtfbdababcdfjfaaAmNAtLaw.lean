/- A part of a proof. Its conditions: none. -/
import Derived.Test.YtfbdababcdfjfaaAmNFacts
import Derived.Test.YtfbdababcdfjfaaAmC
set_option linter.all false
namespace Go.Proofs.Ytfbdababcdfjfaa
open Go.AM
set_option maxRecDepth 100000
theorem und_22 : Try.prog.underlying 22 = some (.slice 9) := by kernel_rfl
theorem und_23 : Try.prog.underlying 23 = some (.slice 65) := by kernel_rfl
theorem und_26 : Try.prog.underlying 26 = some (.slice 3) := by kernel_rfl
theorem und_25 : ∃ f1 f2 f3 : Field, Try.prog.underlying 25 = some (.struct #[f1, f2, f3]) ∧ f1.type = 22 ∧ f1.offset = 0 ∧ f2.type = 22 ∧ f2.offset = 1 ∧ f3.type = 23 ∧ f3.offset = 2 :=
  ⟨{ name := "Terms", type := 22, offset := 0, embedded := false, tag := "", pkgPath := "", byteOffset := 0 }, { name := "Vars", type := 22, offset := 1, embedded := false, tag := "", pkgPath := "", byteOffset := 24 },
    { name := "Rules", type := 23, offset := 2, embedded := false, tag := "", pkgPath := "", byteOffset := 48 }, by kernel_rfl, rfl, rfl, rfl, rfl, rfl, rfl⟩
theorem und_65 : ∃ f1 f2 f3 : Field, Try.prog.underlying 65 = some (.struct #[f1, f2, f3]) ∧ f1.type = 3 ∧ f1.offset = 0 ∧ f2.type = 26 ∧ f2.offset = 1 ∧ f3.type = 63 ∧ f3.offset = 2 :=
  ⟨{ name := "Left", type := 3, offset := 0, embedded := false, tag := "", pkgPath := "", byteOffset := 0 }, { name := "Right", type := 26, offset := 1, embedded := false, tag := "", pkgPath := "", byteOffset := 8 },
    { name := "Weight", type := 63, offset := 2, embedded := false, tag := "", pkgPath := "", byteOffset := 32 }, by kernel_rfl, rfl, rfl, rfl, rfl, rfl, rfl⟩
theorem und_47 : ∃ f1 f2 f3 : Field, Try.prog.underlying 47 = some (.struct #[f1, f2, f3]) ∧ f1.type = 3 ∧ f1.offset = 0 ∧ f2.type = 44 ∧ f2.offset = 1 ∧ f3.type = 45 ∧ f3.offset = 3 :=
  ⟨{ name := "Alt", type := 3, offset := 0, embedded := false, tag := "", pkgPath := "", byteOffset := 0 }, { name := "Spot", type := 44, offset := 1, embedded := false, tag := "", pkgPath := "", byteOffset := 8 },
    { name := "Stack", type := 45, offset := 3, embedded := false, tag := "", pkgPath := "", byteOffset := 24 }, by kernel_rfl, rfl, rfl, rfl, rfl, rfl, rfl⟩
theorem gramT : GramT Try.prog 25 65 3 9 22 23 26 63 := ⟨und_25, und_65, und_3, und_9, und_22, und_23, und_26, und_63, csz_3, csz_9, csz_22, csz_23, csz_26, csz_63, csz_65, csz_25⟩
theorem own : ownKnob Try.prog.godebug = none := by kernel_rfl
theorem laid : laidOutB Try.prog = true := by kernel_rfl
theorem plain_all : ([25, 3, 26, 47].all fun t => plainT Try.prog 10 t && Try.prog.readableRec t && decide (t < Try.prog.types.size)) = true := by kernel_rfl
theorem plain_of {t : TypeId} (h : t ∈ [25, 3, 26, 47]) : plainT Try.prog 10 t = true ∧ Try.prog.readableRec t = true ∧ t < Try.prog.types.size := by
  have := List.all_eq_true.1 plain_all t h
  simp only [Bool.and_eq_true, decide_eq_true_eq] at this
  exact ⟨this.1.1, this.1.2, this.2⟩
theorem rn_of : ∀ (l : List (Int × Int)) (ds : List Value), (∀ i (h : i < l.length), (ds.drop (i * 2)).take 2 = spC l[i]) → l.length * 2 ≤ ds.length ∧ ds.take (l.length * 2) = l.flatMap spC
  | [], ds, _ => ⟨by simp, by simp⟩
  | a :: l, ds, h => by
    have h0 := h 0 (by simp)
    match ds with
    | [] => simp [spC] at h0
    | [p] => simp [spC] at h0
    | p :: q :: ds =>
      obtain ⟨ih1, ih2⟩ := rn_of l ds fun i hi => by
        have := h (i + 1) (by simpa using hi)
        rw [show (i + 1) * 2 = i * 2 + 1 + 1 by omega] at this
        simpa using this
      refine ⟨by simp; omega, ?_⟩
      rw [List.flatMap_cons, ← ih2, List.length_cons, show (l.length + 1) * 2 = l.length * 2 + 1 + 1 by omega]
      have h00 : [p, q] = spC a := by simpa using h0
      rw [← h00]
      simp
variable {H : Heap}
theorem AR.spot {cs : List Value} (h : AR Try.prog H 44 cs) : ∃ s : Int × Int, cs = spC s := by
  obtain ⟨hl, hf⟩ := h.struct_inv und_44
  rw [csz_44] at hl
  match cs, hl with
  | [x, y], _ =>
    have h1 : AR Try.prog H 3 (([x, y].drop 0).take (Try.prog.cellsOf 3)) := hf 0 _ rfl
    have h2 : AR Try.prog H 3 (([x, y].drop 1).take (Try.prog.cellsOf 3)) := hf 1 _ rfl
    rw [csz_3] at h1 h2
    obtain ⟨a, e1, _⟩ := h1.int_inv und_3
    obtain ⟨b, e2, _⟩ := h2.int_inv und_3
    simp at e1 e2
    subst e1 e2
    exact ⟨(a, b), rfl⟩
theorem ARV.cfg {v : Value} (h : ARV Try.prog H 47 v) : ∃ x : Cfg × Option Addr, v = .agg (ccell x).toArray ∧ StOK H x := by
  obtain ⟨h1, h2, _⟩ := h
  obtain ⟨cs, rfl⟩ := h2 agg_47
  obtain ⟨f1, f2, f3, e, a1, b1, a2, b2, a3, b3⟩ := und_47
  have hvc : vcells (.agg cs) = cs.toList := rfl
  rw [hvc] at h1
  obtain ⟨hl, hf⟩ := h1.struct_inv e
  rw [csz_47] at hl
  obtain ⟨cs⟩ := cs
  simp only at hl hf
  match cs, hl with
  | [x, y, z, w], _ =>
    have h1 := hf 0 f1 rfl
    have h2 := hf 1 f2 rfl
    have h3 := hf 2 f3 rfl
    rw [a1, b1, csz_3] at h1
    rw [a2, b2, csz_44] at h2
    rw [a3, b3, csz_45] at h3
    obtain ⟨a, e1, _⟩ := h1.int_inv und_3
    obtain ⟨s, e2⟩ := AR.spot h2
    simp [spC] at e1 e2
    obtain ⟨e2, e4⟩ := e2
    subst e1 e2 e4
    rcases h3.slice_inv und_45 with e3 | ⟨u, m, ds, e3, hu, hm, he⟩
    · simp at e3
      subst e3
      exact ⟨(⟨a, s.1, s.2, []⟩, none), rfl, .inl ⟨rfl, rfl⟩⟩
    · simp at e3
      subst e3
      rw [csz_44] at he
      obtain ⟨l, hl, hd⟩ := pick_list (Q := fun i s => (ds.drop (i * 2)).take 2 = spC s) m fun i hi => AR.spot (he i hi)
      subst hl
      obtain ⟨g1, g2⟩ := rn_of l ds fun i hi => hd i _ (List.getElem?_eq_getElem hi)
      exact ⟨(⟨a, s.1, s.2, l⟩, some ⟨u, 0, none⟩), rfl, .inr ⟨u, 0, ds, _, _, rfl, hu, by simpa using g1, by simpa using g2⟩⟩
end Go.Proofs.Ytfbdababcdfjfaa
