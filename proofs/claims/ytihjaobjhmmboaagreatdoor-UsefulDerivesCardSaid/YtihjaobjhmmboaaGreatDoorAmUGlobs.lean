/- A part of a proof. Its conditions: none. -/
import Derived.Test.YtihjaobjhmmboaaGreatDoorAmUAlive
import Derived.Test.YtihjaobjhmmboaaGreatDoorAmC
import Derived.Test.YtihjaobjhmmboaaGreatDoorRows
set_option linter.all false
namespace Go.Proofs.YtihjaobjhmmboaaGreatDoor
open Go.AM
set_option maxRecDepth 100000

theorem gTypes : (Tryz.prog.globals[4]?).map (·.type) = some 179 ∧ (Tryz.prog.globals[3]?).map (·.type) = some 168 ∧ (Tryz.prog.globals[1]?).map (·.type) = some 4 := ⟨by kernel_rfl, by kernel_rfl, by kernel_rfl⟩

/-- WHAT A ROW's LIST GIVES. -/
theorem globs {W : World} {l : List (String × DataW Unit)} (h : laidMet Tryz.prog l W) (hs : W.ShapedOpen Tryz.prog)
    (l1 : ∃ i : Nat, l[i]? = some ("internal/strconv.pow10Tab", Go.Pinned.pow10Tab)) (l2 : ∃ i : Nat, l[i]? = some ("internal/strconv.uint64pow10", Rows.laid_internal_strconv_uint64pow10))
    (l3 : ∃ i : Nat, l[i]? = some ("internal/strconv.optimize", Rows.laid_internal_strconv_optimize)) : Globs Tryz.prog W G := by
  obtain ⟨ps, hl, _, _⟩ := h
  have c4 : ∀ (i : Nat) (v : Value), pows[i]? = some v → W.cell? ⟨4, i, none⟩ = some v := by
    obtain ⟨i, e⟩ := l1
    obtain ⟨g, t, cs, fuel, p, h1, h2, h3, h4⟩ := laid_at hl i _ _ e
    obtain rfl := Option.some.inj ((show Tryz.prog.globalNamed "internal/strconv.pow10Tab" = some 4 by kernel_rfl).symm.trans h1)
    obtain rfl := Option.some.inj (gTypes.1.symm.trans h2)
    have hc : cs.toList = pows := cells_of_pairs (n := 696) (e := 178) (k := .u64) (f0 := ⟨ "hi", 97, 0, false, "", "internal/strconv", 0⟩) (f1 := ⟨ "lo", 97, 1, false, "", "internal/strconv", 8⟩) (by kernel_rfl) (by kernel_rfl) rfl rfl (by kernel_rfl) (by kernel_rfl) (by kernel_rfl) (by kernel_rfl) (by kernel_rfl) (by kernel_rfl) h4
    intro i v e
    rw [World.var?_cell h1 h3 i]
    rw [← hc] at e
    simpa using e
  have c3 : ∀ (i : Nat) (v : Value), tens[i]? = some v → W.cell? ⟨3, i, none⟩ = some v := by
    obtain ⟨i, e⟩ := l2
    obtain ⟨g, t, cs, fuel, p, h1, h2, h3, h4⟩ := laid_at hl i _ _ e
    obtain rfl := Option.some.inj ((show Tryz.prog.globalNamed "internal/strconv.uint64pow10" = some 3 by kernel_rfl).symm.trans h1)
    obtain rfl := Option.some.inj (gTypes.2.1.symm.trans h2)
    have hc : cs.toList = tens := Lib.cells_of_tab (n := 20) (e := 97) (k := .u64) (zs := [1, 10, 100, 1000, 10000, 100000, 1000000, 10000000, 100000000, 1000000000, 10000000000, 100000000000, 1000000000000, 10000000000000, 100000000000000, 1000000000000000, 10000000000000000, 100000000000000000, 1000000000000000000, 10000000000000000000]) (by kernel_rfl) (by kernel_rfl) (by kernel_rfl) (by kernel_rfl) h4
    intro i v e
    rw [World.var?_cell h1 h3 i]
    rw [← hc] at e
    simpa using e
  have c2 : ∀ (i : Nat) (v : Value), [Value.bool true][i]? = some v → W.cell? ⟨1, i, none⟩ = some v := by
    obtain ⟨i, e⟩ := l3
    obtain ⟨g, t, cs, fuel, p, h1, h2, h3, h4⟩ := laid_at hl i _ _ e
    obtain rfl := Option.some.inj ((show Tryz.prog.globalNamed "internal/strconv.optimize" = some 1 by kernel_rfl).symm.trans h1)
    obtain rfl := Option.some.inj (gTypes.2.2.symm.trans h2)
    obtain ⟨b, hc, hd⟩ := DataW.trod_bool (by kernel_rfl) h4
    have hb : b = true := by
      have := congrArg Prod.fst hd
      simp only [Rows.laid_internal_strconv_optimize, DataW.lit.injEq, Lit.bool.injEq] at this
      exact this.symm
    subst hb
    intro i v e
    rw [World.var?_cell h1 h3 i]
    rw [← hc] at e
    simpa using e
  refine ⟨fun x hx => ?_, fun x hx => ?_, ?_⟩
  · apply Classical.byContradiction
    intro hd
    have := (G_spec x hd).1
    omega
  · unfold G at hx ⊢
    cases e4 : Nat.beq x 4 with
    | true => rw [Nat.eq_of_beq_eq_true e4]; exact ⟨_, _, rfl, pows_flat, c4⟩
    | false =>
      simp only [e4, cond_false] at hx ⊢
      cases e3 : Nat.beq x 3 with
      | true => rw [Nat.eq_of_beq_eq_true e3]; exact ⟨_, _, rfl, tens_flat, c3⟩
      | false =>
        simp only [e3, cond_false] at hx ⊢
        cases e2 : Nat.beq x 1 with
        | true => rw [Nat.eq_of_beq_eq_true e2]; exact ⟨_, _, rfl, rfl, c2⟩
        | false => simp [e2] at hx
  · have hlast : ngl Tryz.prog - 1 < W.heap.size := by
      have hsome : (((begin Tryz.prog (fun _ _ => 0) default).world.heap[ngl Tryz.prog - 1]?).bind Obj.row?).isSome = true := by kernel_rfl
      obtain ⟨⟨z, t⟩, hz⟩ := Option.isSome_iff_exists.1 hsome
      exact heap_of_shaped hs (of_decide_eq_true (by kernel_rfl)) hz
    omega

/-- A WORLD FOR THE WITNESS: the settled one, the tables holding what their initialisers lay. -/
noncomputable def cheats : List Value := Go.Pinned.cheatRows.flatMap fun x => [Value.int .i64 x.1, Value.string ⟨x.2.toArray⟩]
noncomputable def deB32 : List Value := [0, 1, 28, 2, 29, 14, 24, 3, 30, 22, 20, 15, 25, 17, 4, 8, 31, 27, 13, 23, 21, 19, 16, 7, 26, 12, 18, 6, 11, 5, 10, 9].map (Value.int .u8)
noncomputable def deB64 : List Value := [0, 1, 56, 2, 57, 49, 28, 3, 61, 58, 42, 50, 38, 29, 17, 4, 62, 47, 59, 36, 45, 43, 51, 22, 53, 39, 33, 30, 24, 18, 12, 5, 63, 55, 48, 27, 60, 41, 37, 16, 46, 35, 44, 21, 52, 32, 23, 11, 54, 26, 40, 15, 34, 20, 31, 10, 25, 14, 19, 9, 13, 8, 7, 6].map (Value.int .u8)
noncomputable def rest : List Obj := [.cells ((List.range Tryz.prog.types.size).map fun i => .int .u64 i).toArray 0, .map #[] 0, .finalizers #[] none, .cells #[.bool false] 0, .finalizers #[] none]
noncomputable def laidHeap : Array Obj := (([((begin Tryz.prog (fun _ _ => 0) default).world.heap.toList.getD 0 (.map #[] 0)), .cells #[.bool true] 4, ((begin Tryz.prog (fun _ _ => 0) default).world.heap.toList.getD 2 (.map #[] 0)), .cells tens.toArray 168, .cells pows.toArray 179, .cells #[.slice (some ⟨13, 0, none⟩) 61 61] 184, .cells deB32.toArray 140, .cells deB64.toArray 189] : List Obj) ++ (rest ++ [Obj.cells cheats.toArray 183])).toArray
noncomputable def laidWorld (os : Os) : World := { World.settled Tryz.prog os with heap := laidHeap }

theorem laid_world (w : World) (hw : w.heap = laidHeap) : laidMet Tryz.prog Rows.usefulTellsRow.laid w := by
  have hv : ∀ (nm : String) (g : Nat) (cs : List Value) (t : TypeId), Tryz.prog.globalNamed nm = some g → laidHeap[g]? = some (.cells cs.toArray t (0, 0)) → w.var? Tryz.prog nm = some cs.toArray := by
    intro nm g cs t h1 h2
    unfold World.var?
    rw [h1, hw]
    simp [h2]
  have hcheat : ∃ q, DataW.trod (fun _ => ()) Tryz.prog w 0 (fun _ => true) false 4 184 [.slice (some ⟨13, 0, none⟩) 61 61] = some (Go.Pinned.leftcheats, q) ∧ q = MemPlace.row ⟨13, 0, none⟩ 122 := by
    have h1 : DataW.trod (fun _ => ()) Tryz.prog { (default : World) with heap := laidHeap } 0 (fun _ => true) false 4 184 [.slice (some ⟨13, 0, none⟩) 61 61] = some (Go.Pinned.leftcheats, MemPlace.row ⟨13, 0, none⟩ 122) := by kernel_rfl
    exact ⟨_, by rw [← DataW.trod_heap (w := { (default : World) with heap := laidHeap }) (w' := w) hw.symm]; exact h1, rfl⟩
  obtain ⟨q, hq, rfl⟩ := hcheat
  have hpow : DataW.trod (fun _ => ()) Tryz.prog w 0 (fun _ => true) false 3 179 pows.toArray.toList = some (Go.Pinned.pow10Tab, []) :=
    pairs_trod (n := 696) (e := 178) (k := .u64) (f0 := ⟨ "hi", 97, 0, false, "", "internal/strconv", 0⟩) (f1 := ⟨ "lo", 97, 1, false, "", "internal/strconv", 8⟩) (by kernel_rfl) (by kernel_rfl) rfl rfl (by kernel_rfl) (by kernel_rfl) (by kernel_rfl) (by kernel_rfl) (by kernel_rfl) (by kernel_rfl) (by kernel_rfl) (by kernel_rfl)
  refine laidMet_mk (ps := MemPlace.row ⟨6, 0, none⟩ 32 ++ [] ++ (MemPlace.row ⟨7, 0, none⟩ 64 ++ [] ++ (MemPlace.row ⟨1, 0, none⟩ 1 ++ [] ++ (MemPlace.row ⟨3, 0, none⟩ 20 ++ [] ++
    (MemPlace.row ⟨5, 0, none⟩ 1 ++ MemPlace.row ⟨13, 0, none⟩ 122 ++ (MemPlace.row ⟨4, 0, none⟩ 1392 ++ [] ++ [])))))) 1400 [6, 7, 1, 3, 5, 4, 13] ?_ (by kernel_rfl) (by kernel_rfl) ?_
  · exact ⟨6, 140, deB32.toArray, 2, [], _, by kernel_rfl, by kernel_rfl, hv "math/bits.deBruijn32tab" 6 deB32 140 (by kernel_rfl) rfl, by kernel_rfl, ⟨7, 189, deB64.toArray, 2, [], _, by kernel_rfl, by kernel_rfl, hv "math/bits.deBruijn64tab" 7 deB64 189 (by kernel_rfl) rfl, by kernel_rfl, ⟨1, 4, [.bool true].toArray, 1, [], _, by kernel_rfl, by kernel_rfl, hv "internal/strconv.optimize" 1 [.bool true] 4 (by kernel_rfl) rfl, by kernel_rfl, ⟨3, 168, tens.toArray, 2, [], _, by kernel_rfl, by kernel_rfl, hv "internal/strconv.uint64pow10" 3 tens 168 (by kernel_rfl) rfl, by kernel_rfl, ⟨5, 184, [.slice (some ⟨13, 0, none⟩) 61 61].toArray, 4, _, _, by kernel_rfl, by kernel_rfl, hv "internal/strconv.leftcheats" 5 [.slice (some ⟨13, 0, none⟩) 61 61] 184 (by kernel_rfl) rfl, hq, ⟨4, 179, pows.toArray, 3, [], _, by kernel_rfl, by kernel_rfl, hv "internal/strconv.pow10Tab" 4 pows 179 (by kernel_rfl) rfl, hpow, rfl, rfl⟩, rfl⟩, rfl⟩, rfl⟩, rfl⟩, rfl⟩
  · intro b hb
    simp only [List.mem_cons, List.mem_nil_iff, or_false] at hb
    rcases hb with rfl | rfl | rfl | rfl | rfl | rfl | rfl
    · exact ⟨(deB32).toArray, 140, by rw [hw]; rfl, by kernel_rfl⟩
    · exact ⟨(deB64).toArray, 189, by rw [hw]; rfl, by kernel_rfl⟩
    · exact ⟨([Value.bool true]).toArray, 4, by rw [hw]; rfl, by kernel_rfl⟩
    · exact ⟨(tens).toArray, 168, by rw [hw]; rfl, by kernel_rfl⟩
    · exact ⟨([Value.slice (some ⟨13, 0, none⟩) 61 61]).toArray, 184, by rw [hw]; rfl, by kernel_rfl⟩
    · exact ⟨(pows).toArray, 179, by rw [hw]; rfl, by kernel_rfl⟩
    · exact ⟨(cheats).toArray, 183, by rw [hw]; rfl, by kernel_rfl⟩
end Go.Proofs.YtihjaobjhmmboaaGreatDoor
