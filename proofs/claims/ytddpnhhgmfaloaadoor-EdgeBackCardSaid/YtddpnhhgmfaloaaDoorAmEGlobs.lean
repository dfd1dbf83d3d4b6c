/- A part of a proof. Its conditions: none. -/
import Derived.Test.YtddpnhhgmfaloaaDoorAmEAlive
import Derived.Test.YtddpnhhgmfaloaaDoorAmC
import Derived.Test.YtddpnhhgmfaloaaDoorRows
set_option linter.all false
namespace Go.Proofs.YtddpnhhgmfaloaaDoor
open Go.AM
set_option maxRecDepth 100000

theorem gTypes : (Tryd.prog.globals[4]?).map (·.type) = some 124 ∧ (Tryd.prog.globals[3]?).map (·.type) = some 114 ∧ (Tryd.prog.globals[2]?).map (·.type) = some 4 := ⟨by kernel_rfl, by kernel_rfl, by kernel_rfl⟩

/-- WHAT A ROW's LIST GIVES. -/
theorem globs {W : World} {l : List (String × DataW Unit)} (h : laidMet Tryd.prog l W) (hs : W.ShapedOpen Tryd.prog)
    (l1 : ∃ i : Nat, l[i]? = some ("internal/strconv.pow10Tab", Go.Pinned.pow10Tab)) (l2 : ∃ i : Nat, l[i]? = some ("internal/strconv.uint64pow10", Rows.laid_internal_strconv_uint64pow10))
    (l3 : ∃ i : Nat, l[i]? = some ("internal/strconv.optimize", Rows.laid_internal_strconv_optimize)) : Globs Tryd.prog W G := by
  obtain ⟨ps, hl, _, _⟩ := h
  have c4 : ∀ (i : Nat) (v : Value), pows[i]? = some v → W.cell? ⟨4, i, none⟩ = some v := by
    obtain ⟨i, e⟩ := l1
    obtain ⟨g, t, cs, fuel, p, h1, h2, h3, h4⟩ := laid_at hl i _ _ e
    obtain rfl := Option.some.inj ((show Tryd.prog.globalNamed "internal/strconv.pow10Tab" = some 4 by kernel_rfl).symm.trans h1)
    obtain rfl := Option.some.inj (gTypes.1.symm.trans h2)
    have hc : cs.toList = pows := cells_of_pairs (n := 696) (e := 123) (k := .u64) (f0 := ⟨ "hi", 22, 0, false, "", "internal/strconv", 0⟩) (f1 := ⟨ "lo", 22, 1, false, "", "internal/strconv", 8⟩) (by kernel_rfl) (by kernel_rfl) rfl rfl (by kernel_rfl) (by kernel_rfl) (by kernel_rfl) (by kernel_rfl) (by kernel_rfl) (by kernel_rfl) h4
    intro i v e
    rw [World.var?_cell h1 h3 i]
    rw [← hc] at e
    simpa using e
  have c3 : ∀ (i : Nat) (v : Value), tens[i]? = some v → W.cell? ⟨3, i, none⟩ = some v := by
    obtain ⟨i, e⟩ := l2
    obtain ⟨g, t, cs, fuel, p, h1, h2, h3, h4⟩ := laid_at hl i _ _ e
    obtain rfl := Option.some.inj ((show Tryd.prog.globalNamed "internal/strconv.uint64pow10" = some 3 by kernel_rfl).symm.trans h1)
    obtain rfl := Option.some.inj (gTypes.2.1.symm.trans h2)
    have hc : cs.toList = tens := Lib.cells_of_tab (n := 20) (e := 22) (k := .u64) (zs := [1, 10, 100, 1000, 10000, 100000, 1000000, 10000000, 100000000, 1000000000, 10000000000, 100000000000, 1000000000000, 10000000000000, 100000000000000, 1000000000000000, 10000000000000000, 100000000000000000, 1000000000000000000, 10000000000000000000]) (by kernel_rfl) (by kernel_rfl) (by kernel_rfl) (by kernel_rfl) h4
    intro i v e
    rw [World.var?_cell h1 h3 i]
    rw [← hc] at e
    simpa using e
  have c2 : ∀ (i : Nat) (v : Value), [Value.bool true][i]? = some v → W.cell? ⟨2, i, none⟩ = some v := by
    obtain ⟨i, e⟩ := l3
    obtain ⟨g, t, cs, fuel, p, h1, h2, h3, h4⟩ := laid_at hl i _ _ e
    obtain rfl := Option.some.inj ((show Tryd.prog.globalNamed "internal/strconv.optimize" = some 2 by kernel_rfl).symm.trans h1)
    obtain rfl := Option.some.inj (gTypes.2.2.symm.trans h2)
    obtain ⟨b, hc, hd⟩ := DataW.trod_bool (by kernel_rfl) h4
    have hb : b = true := by
      have := congrArg Prod.fst hd
      simp only [Rows.laid_internal_strconv_optimize, DataW.lit.injEq, Lit.bool.injEq] at this
      exact this.symm
    subst hb
    intro i v e
    rw [World.var?_cell h1 h3 i]
    rw [← hc] at e
    simpa using e
  refine ⟨fun x hx => ?_, fun x hx => ?_, ?_⟩
  · apply Classical.byContradiction
    intro hd
    have := (G_spec x hd).1
    omega
  · unfold G at hx ⊢
    cases e4 : Nat.beq x 4 with
    | true => rw [Nat.eq_of_beq_eq_true e4]; exact ⟨_, _, rfl, pows_flat, c4⟩
    | false =>
      simp only [e4, cond_false] at hx ⊢
      cases e3 : Nat.beq x 3 with
      | true => rw [Nat.eq_of_beq_eq_true e3]; exact ⟨_, _, rfl, tens_flat, c3⟩
      | false =>
        simp only [e3, cond_false] at hx ⊢
        cases e2 : Nat.beq x 2 with
        | true => rw [Nat.eq_of_beq_eq_true e2]; exact ⟨_, _, rfl, rfl, c2⟩
        | false => simp [e2] at hx
  · have hlast : ngl Tryd.prog - 1 < W.heap.size := by
      have hsome : (((begin Tryd.prog (fun _ _ => 0) default).world.heap[ngl Tryd.prog - 1]?).bind Obj.row?).isSome = true := by kernel_rfl
      obtain ⟨⟨z, t⟩, hz⟩ := Option.isSome_iff_exists.1 hsome
      exact heap_of_shaped hs (of_decide_eq_true (by kernel_rfl)) hz
    omega

/-- A WORLD FOR THE WITNESS: the settled one, the tables holding what their initialisers lay. -/
noncomputable def cheats : List Value := Go.Pinned.cheatRows.flatMap fun x => [Value.int .i64 x.1, Value.string ⟨x.2.toArray⟩]
noncomputable def deB32 : List Value := [0, 1, 28, 2, 29, 14, 24, 3, 30, 22, 20, 15, 25, 17, 4, 8, 31, 27, 13, 23, 21, 19, 16, 7, 26, 12, 18, 6, 11, 5, 10, 9].map (Value.int .u8)
noncomputable def deB64 : List Value := [0, 1, 56, 2, 57, 49, 28, 3, 61, 58, 42, 50, 38, 29, 17, 4, 62, 47, 59, 36, 45, 43, 51, 22, 53, 39, 33, 30, 24, 18, 12, 5, 63, 55, 48, 27, 60, 41, 37, 16, 46, 35, 44, 21, 52, 32, 23, 11, 54, 26, 40, 15, 34, 20, 31, 10, 25, 14, 19, 9, 13, 8, 7, 6].map (Value.int .u8)
noncomputable def rest : List Obj := [.cells ((List.range Tryd.prog.types.size).map fun i => .int .u64 i).toArray 0, .map #[] 0, .finalizers #[] none, .cells #[.bool false] 0, .finalizers #[] none]
noncomputable def laidHeap : Array Obj := (([((begin Tryd.prog (fun _ _ => 0) default).world.heap.toList.getD 0 (.map #[] 0)), ((begin Tryd.prog (fun _ _ => 0) default).world.heap.toList.getD 1 (.map #[] 0)), .cells #[.bool true] 4, .cells tens.toArray 114, .cells pows.toArray 124, .cells #[.slice (some ⟨13, 0, none⟩) 61 61] 129, .cells deB32.toArray 87, .cells deB64.toArray 135] : List Obj) ++ (rest ++ [Obj.cells cheats.toArray 128])).toArray
noncomputable def laidWorld (os : Os) : World := { World.settled Tryd.prog os with heap := laidHeap }

theorem laid_world (w : World) (hw : w.heap = laidHeap) : laidMet Tryd.prog Rows.edgeOrdersRow.laid w := by
  have hv : ∀ (nm : String) (g : Nat) (cs : List Value) (t : TypeId), Tryd.prog.globalNamed nm = some g → laidHeap[g]? = some (.cells cs.toArray t (0, 0)) → w.var? Tryd.prog nm = some cs.toArray := by
    intro nm g cs t h1 h2
    unfold World.var?
    rw [h1, hw]
    simp [h2]
  have hcheat : ∃ q, DataW.trod (fun _ => ()) Tryd.prog w 0 (fun _ => true) false 4 129 [.slice (some ⟨13, 0, none⟩) 61 61] = some (Go.Pinned.leftcheats, q) ∧ q = MemPlace.row ⟨13, 0, none⟩ 122 := by
    have h1 : DataW.trod (fun _ => ()) Tryd.prog { (default : World) with heap := laidHeap } 0 (fun _ => true) false 4 129 [.slice (some ⟨13, 0, none⟩) 61 61] = some (Go.Pinned.leftcheats, MemPlace.row ⟨13, 0, none⟩ 122) := by kernel_rfl
    exact ⟨_, by rw [← DataW.trod_heap (w := { (default : World) with heap := laidHeap }) (w' := w) hw.symm]; exact h1, rfl⟩
  obtain ⟨q, hq, rfl⟩ := hcheat
  have hpow : DataW.trod (fun _ => ()) Tryd.prog w 0 (fun _ => true) false 3 124 pows.toArray.toList = some (Go.Pinned.pow10Tab, []) :=
    pairs_trod (n := 696) (e := 123) (k := .u64) (f0 := ⟨ "hi", 22, 0, false, "", "internal/strconv", 0⟩) (f1 := ⟨ "lo", 22, 1, false, "", "internal/strconv", 8⟩) (by kernel_rfl) (by kernel_rfl) rfl rfl (by kernel_rfl) (by kernel_rfl) (by kernel_rfl) (by kernel_rfl) (by kernel_rfl) (by kernel_rfl) (by kernel_rfl) (by kernel_rfl)
  refine laidMet_mk (ps := MemPlace.row ⟨6, 0, none⟩ 32 ++ [] ++ (MemPlace.row ⟨7, 0, none⟩ 64 ++ [] ++ (MemPlace.row ⟨2, 0, none⟩ 1 ++ [] ++ (MemPlace.row ⟨3, 0, none⟩ 20 ++ [] ++
    (MemPlace.row ⟨5, 0, none⟩ 1 ++ MemPlace.row ⟨13, 0, none⟩ 122 ++ (MemPlace.row ⟨4, 0, none⟩ 1392 ++ [] ++ [])))))) 1400 [6, 7, 2, 3, 5, 4, 13] ?_ (by kernel_rfl) (by kernel_rfl) ?_
  · exact ⟨6, 87, deB32.toArray, 2, [], _, by kernel_rfl, by kernel_rfl, hv "math/bits.deBruijn32tab" 6 deB32 87 (by kernel_rfl) rfl, by kernel_rfl, ⟨7, 135, deB64.toArray, 2, [], _, by kernel_rfl, by kernel_rfl, hv "math/bits.deBruijn64tab" 7 deB64 135 (by kernel_rfl) rfl, by kernel_rfl, ⟨2, 4, [.bool true].toArray, 1, [], _, by kernel_rfl, by kernel_rfl, hv "internal/strconv.optimize" 2 [.bool true] 4 (by kernel_rfl) rfl, by kernel_rfl, ⟨3, 114, tens.toArray, 2, [], _, by kernel_rfl, by kernel_rfl, hv "internal/strconv.uint64pow10" 3 tens 114 (by kernel_rfl) rfl, by kernel_rfl, ⟨5, 129, [.slice (some ⟨13, 0, none⟩) 61 61].toArray, 4, _, _, by kernel_rfl, by kernel_rfl, hv "internal/strconv.leftcheats" 5 [.slice (some ⟨13, 0, none⟩) 61 61] 129 (by kernel_rfl) rfl, hq, ⟨4, 124, pows.toArray, 3, [], _, by kernel_rfl, by kernel_rfl, hv "internal/strconv.pow10Tab" 4 pows 124 (by kernel_rfl) rfl, hpow, rfl, rfl⟩, rfl⟩, rfl⟩, rfl⟩, rfl⟩, rfl⟩
  · intro b hb
    simp only [List.mem_cons, List.mem_nil_iff, or_false] at hb
    rcases hb with rfl | rfl | rfl | rfl | rfl | rfl | rfl
    · exact ⟨(deB32).toArray, 87, by rw [hw]; rfl, by kernel_rfl⟩
    · exact ⟨(deB64).toArray, 135, by rw [hw]; rfl, by kernel_rfl⟩
    · exact ⟨([Value.bool true]).toArray, 4, by rw [hw]; rfl, by kernel_rfl⟩
    · exact ⟨(tens).toArray, 114, by rw [hw]; rfl, by kernel_rfl⟩
    · exact ⟨([Value.slice (some ⟨13, 0, none⟩) 61 61]).toArray, 129, by rw [hw]; rfl, by kernel_rfl⟩
    · exact ⟨(pows).toArray, 124, by rw [hw]; rfl, by kernel_rfl⟩
    · exact ⟨(cheats).toArray, 128, by rw [hw]; rfl, by kernel_rfl⟩
end Go.Proofs.YtddpnhhgmfaloaaDoor
