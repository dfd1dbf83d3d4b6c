/- A part of a proof. Its conditions: none. -/
import Derived.Test.YtpdlmpbhohinpaaAmCChCw
import Derived.Test.YtpdlmpbhohinpaaAmC
set_option linter.all false
namespace Go.Proofs.Ytpdlmpbhohinpaa
open Go.AM Go.RowKit
set_option maxRecDepth 100000
theorem bP_get {n : Nat} {p : Int → Prop} {y : Int} (h0 : 0 ≤ y) : (bP n p).getD y.toNat false = true ↔ y < (n : Int) ∧ p y := by
  unfold bP
  rw [List.getD_eq_getElem?_getD, List.getElem?_map]
  by_cases h : y.toNat < n
  · rw [List.getElem?_range h]
    simp only [Option.map_some, Option.getD_some, decide_eq_true_eq]
    have e : ((y.toNat : Nat) : Int) = y := Int.toNat_of_nonneg h0
    rw [e]
    constructor
    · intro hp; exact ⟨by omega, hp⟩
    · intro hp; exact hp.2
  · rw [List.getElem?_eq_none (by simp; omega)]
    simp
    intro h1; omega
theorem knows {g : Gram} (ok : RightOK g) : Knows g (gdG g) (emG g) := by
  have hg := ok.inG
  refine ⟨hg, fun r hr hp => ?_, fun y h0 => ?_⟩
  · rw [List.getD_eq_getElem?_getD, List.getElem?_eq_getElem (by rw [gdG_len]; exact hr), Option.getD_some, gdG_at hr]
    refine prdB_hold.2 fun s hs h0 => ⟨h0, ?_⟩
    unfold wdG
    rw [bP_get h0]
    exact ⟨hg.right _ (List.getElem_mem hr) s hs, hp s (by rw [rgt_eq hr]; exact hs) h0⟩
  · unfold emG
    rw [bP_get h0]
    constructor
    · exact fun h => h.2
    · intro h
      refine ⟨?_, h⟩
      cases h with
      | mk i hi _ _ => exact hg.left1 _ (List.getElem_mem hi)
theorem run_fine {g : Gram} (ok : RightOK g) : ∀ (u : List Int) (sets : List (List It)), runS g u = some sets → Fine g (gdG g) (emG g) u sets := by
  have K := knows ok
  have hem : ∀ y : Int, 0 ≤ y → (emG g).getD y.toNat false = true → Nul g y := fun y h0 h => (K.em y h0).1 h
  refine snocInd ?_ ?_
  · intro sets h; cases h; exact .new hem
  · intro u t ih sets h
    rw [runS_snoc] at h
    cases hr : runS g u with
    | none => rw [hr] at h; cases h
    | some s => rw [hr] at h; exact (ih s hr).push hem h
theorem push_some {g : Gram} {gd em : List Bool} {sets : List (List It)} {t : Int} : (pushS g gd em sets t).isSome = true ↔ 0 ≤ t ∧ ∃ p ∈ lastS sets, nx g p = some (-t - 1) := by
  unfold pushS
  constructor
  · intro h
    split at h
    · cases h
    · rename_i x l hl
      obtain ⟨h0, p, h1, h2, _⟩ := (pushL_mem (y := x) (lastS sets)).1 (by rw [hl]; simp)
      exact ⟨h0, p, h1, h2⟩
  · rintro ⟨h0, p, h1, h2⟩
    have := (pushL_mem (g := g) (t := t) (y := upI p) (lastS sets)).2 ⟨h0, p, h1, h2, rfl⟩
    split
    · rename_i hl; rw [hl] at this; cases this
    · rfl
theorem run_some {g : Gram} (ok : RightOK g) : ∀ (u v : List Int), Yd g [0] (u ++ v) → (runS g u).isSome = true := by
  refine snocInd ?_ ?_
  · intro v _; rfl
  · intro u t ih v h
    rw [List.append_assoc, List.singleton_append] at h
    obtain ⟨sets, hs⟩ := Option.isSome_iff_exists.1 (ih _ h)
    have hf := run_fine ok u sets hs
    rw [runS_snoc, hs]
    refine push_some.2 ⟨h.pos t (by simp), ?_⟩
    rw [hf.last]
    exact next_word hf (knows ok) h
theorem accR_iff {g : Gram} (ok : RightOK g) {u : List Int} (h : (runS g u).isSome = true) : accR g u = true ↔ Yd g [0] u := by
  obtain ⟨sets, hs⟩ := Option.isSome_iff_exists.1 h
  unfold accR
  rw [hs, Option.getD_some]
  exact acc_iff (run_fine ok u sets hs) (knows ok)
theorem shortR_le {g : Gram} (ok : RightOK g) {c : Nat → Nat} {b : Nat → Int} (hc : CostOK g c b) {u v : List Int} (hv : Yd g [0] (u ++ v)) (hl : v.length < farN) : shortR g c u ≤ v.length := by
  obtain ⟨sets, hs⟩ := Option.isSome_iff_exists.1 (run_some ok u v hv)
  unfold shortR
  rw [hs, Option.getD_some]
  exact short_le (run_fine ok u sets hs) (knows ok) hc hv hl
theorem nextC_mem {g : Gram} {t : Int} : ∀ (ps : List It), t ∈ nextC g ps ↔ 0 ≤ t ∧ ∃ p ∈ ps, nx g p = some (-t - 1) := by
  suffices ∀ (ps : List It) (out : List Int), t ∈ ps.foldl (nextS g) out ↔ t ∈ out ∨ (0 ≤ t ∧ ∃ p ∈ ps, nx g p = some (-t - 1)) by
    intro ps
    have := this ps []
    unfold nextC
    simpa using this
  intro ps
  induction ps with
  | nil => intro out; simp
  | cons p ps ih =>
    intro out
    rw [List.foldl_cons, ih]
    have hs : t ∈ nextS g out p ↔ t ∈ out ∨ (0 ≤ t ∧ nx g p = some (-t - 1)) := by
      unfold nextS
      cases hn : nx g p with
      | none => simp
      | some y =>
        simp only
        split
        · rename_i hc
          rw [List.mem_append, List.mem_singleton]
          constructor
          · rintro (h | h)
            · exact .inl h
            · exact .inr ⟨by omega, by congr 1; omega⟩
          · rintro (h | ⟨h0, h⟩)
            · exact .inl h
            · injection h with h; exact .inr (by omega)
        · rename_i hc
          constructor
          · exact .inl
          · rintro (h | ⟨h0, h⟩)
            · exact h
            · injection h with h
              apply Classical.byContradiction
              intro hnot
              exact hc ⟨by omega, by rw [show -y - 1 = t by omega]; exact hnot⟩
    rw [hs]
    constructor
    · rintro ((h | ⟨h0, h⟩) | ⟨h0, q, hq, h⟩)
      · exact .inl h
      · exact .inr ⟨h0, p, by simp, h⟩
      · exact .inr ⟨h0, q, by simp [hq], h⟩
    · rintro (h | ⟨h0, q, hq, h⟩)
      · exact .inl (.inl h)
      · rcases List.mem_cons.1 hq with rfl | hq
        · exact .inl (.inr ⟨h0, h⟩)
        · exact .inr ⟨h0, q, hq, h⟩
theorem nextR_iff {g : Gram} {u : List Int} {t : Int} (h : (runS g u).isSome = true) : t ∈ nextR g u ↔ (runS g (u ++ [t])).isSome = true := by
  obtain ⟨sets, hs⟩ := Option.isSome_iff_exists.1 h
  rw [runS_snoc, hs]
  unfold nextR nextL
  rw [hs, Option.getD_some, (isort_perm _).mem_iff, nextC_mem]
  exact push_some.symm
theorem nextR_nodup {g : Gram} (ok : RightOK g) {u : List Int} (h : (runS g u).isSome = true) : (nextR g u).Nodup ∧ (nextR g u).length ≤ g.terms.length := by
  obtain ⟨sets, hs⟩ := Option.isSome_iff_exists.1 h
  have hts : ∀ r ∈ g.rules, ∀ s ∈ r.right, -s - 1 < (g.terms.length : Int) := fun r hr s hs => by
    rcases Int.lt_or_le s 0 with h0 | h0
    · exact ok.inG.rightT r hr s hs h0
    · omega
  have := nextC_ok hts (lastS sets) fun x hx => ((lastS_ok (runS_ok u sets hs).1).ok x hx).1
  unfold nextR nextL
  rw [hs, Option.getD_some]
  exact ⟨(isort_perm _).nodup_iff.2 this.1, by rw [(isort_perm _).length_eq]; exact nodup_int_len _ _ this.1 this.2⟩
end Go.Proofs.Ytpdlmpbhohinpaa
