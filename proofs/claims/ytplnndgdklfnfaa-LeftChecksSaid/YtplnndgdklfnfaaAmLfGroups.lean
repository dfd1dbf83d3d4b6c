/- A part of a proof. Its conditions: none. -/
import Derived.Test.YtplnndgdklfnfaaAmLfReach
import Derived.Test.YtplnndgdklfnfaaAmC
import Derived.Test.YtplnndgdklfnfaaAmLfSlices
set_option linter.all false
namespace Go.Proofs.Ytplnndgdklfnfaa
open Go.AM

def ic (u : Nat) : List Value := [.int .i64 u]
theorem flat_ic (l : List Nat) : l.flatMap ic = l.map fun u => .int .i64 u := by
  induction l with
  | nil => rfl
  | cons a l ih => rw [List.flatMap_cons, ih]; rfl

theorem llcells_RA {α : Type} {m x ty ety : Nat} {H : Heap} {enc : α → List Value} {ls : List (List α)} {ys : Nat → Nat} (h : ls ≠ [] → LL m H x ty ety enc ls ys) : RA id H (slp x ls.length) (llcells ys ls) := by
  intro hn
  have hne : ls ≠ [] := by rintro rfl; exact hn rfl
  refine ⟨x, 0, _, _, _, slp_pos (by simpa using hne), (h hne).hx, fun i y e => ?_⟩
  rw [Nat.zero_add]; exact e

theorem ints_RA {m x ty ety : Nat} {H : Heap} {ls : List (List Nat)} {ys : Nat → Nat} (h : LL m H x ty ety ic ls ys) {j : Nat} (hj : j < ls.length) : RA (Value.int .i64) H (slp (ys j) ls[j].length) (ls[j].map fun u : Nat => (u : Int)) := by
  intro hn
  have hne : ls[j] ≠ [] := by intro e; rw [e] at hn; exact hn rfl
  refine ⟨ys j, 0, _, _, _, slp_pos (by simpa using hne), h.hy j hj hne, fun i y e => ?_⟩
  rw [Nat.zero_add, flat_ic]
  rw [List.getElem?_map] at e ⊢
  cases e' : ls[j][i]? with
  | none => rw [e'] at e; cases e
  | some u => rw [e'] at e; cases e; rfl

set_option maxHeartbeats 4000000 in
theorem groups_gives {v : Value} {g : Gram} {n : Nat} {H : Heap} (hw : WF n H) (hg : RG H v g) (wg : WG g) (ok : RightOK g) :
    Gives Try.prog 13 [v] n H fun v _ H' => ∃ (R : Nat → Nat → Bool) (x : Nat) (ys : Nat → Nat), (∀ v u : Nat, R v u = true ↔ Rch g v u) ∧ v = sl x (groupsS R g.vars.length g.vars.length).length ∧ (groupsS R g.vars.length g.vars.length ≠ [] → n ≤ x ∧ LL n H' x 35 3 ic (groupsS R g.vars.length g.vars.length) ys) := by
  have hg0 := hg
  obtain ⟨pt, pv, pr, rfl, ht, hv, hr⟩ := hg
  refine Gives.of orders ok13 (Nat.le_of_ble_eq_true rfl) ?_
  have hk := Kp.new n H (.cells (gcells pt pv pr g) 25 true)
  have hb := hset_at H n (.cells (gcells pt pv pr g) 25 true)
  have hi := ok.inG
  have hv64 := ok.vars
-- function 13
  repeat (first | apply WK.seq | apply WK.block | apply WK.skipSeq | apply WK.skipBlock | apply WK.retSeq | apply WK.retBlock | apply WK.exitSeq | apply WK.exitHere | refine WK.exitOn rfl ?_)
  (refine WK.rgn ?_ ?_; kernel_rfl; simp (config := { maxSteps := 1000000 }) only [SS, forall_const, wx, tguard, acallee, top, tval, tor, tload, tload2, tload3, tstore, tstore2, tstore3, tidx, tidx2, tfa, tfa2, tlen2, tpick, textr, tbox, talloc, tmake, tbuild, tbs, tbs2, tfld, tfld2, tsl, tsl2, tsl3, tix, tix1, tix2, tap, tap2, tap3, tap4, tsrc, tsrc2, Int.reduceEq, Int.reduceNeg, Go.AM.bound, afill, Nat.reduceGT, Nat.reduceLT, still, still1, flat1, one, Go.AM.splice, Nat.reduceLeDiff, vsh, vbin, vun, vconv, fput, Nat.reduceEqDiff, ↓reduceIte, reduceCtorEq, Int.reduceToNat, Int.reduceLE, Int.reduceLT, Nat.reduceAdd, Nat.reduceMul, box_cells, box_one, ff_13])
  generalize hset H n (.cells (gcells pt pv pr g) 25 true) = H1 at *
  repeat (first | apply WK.seq | apply WK.block | apply WK.skipSeq | apply WK.skipBlock | apply WK.retSeq | apply WK.retBlock | apply WK.exitSeq | apply WK.exitHere | refine WK.exitOn rfl ?_)
  (refine WK.rgn ?_ ?_; kernel_rfl; simp (config := { maxSteps := 1000000 }) only [SS, forall_const, wx, tguard, acallee, top, tval, tor, tload, tload2, tload3, tstore, tstore2, tstore3, tidx, tidx2, tfa, tfa2, tlen2, tpick, textr, tbox, talloc, tmake, tbuild, tbs, tbs2, tfld, tfld2, tsl, tsl2, tsl3, tix, tix1, tix2, tap, tap2, tap3, tap4, tsrc, tsrc2, Int.reduceEq, Int.reduceNeg, Go.AM.bound, afill, Nat.reduceGT, Nat.reduceLT, still, still1, flat1, one, Go.AM.splice, Nat.reduceLeDiff, vsh, vbin, vun, vconv, fput, Nat.reduceEqDiff, ↓reduceIte, reduceCtorEq, Int.reduceToNat, Int.reduceLE, Int.reduceLT, Nat.reduceAdd, Nat.reduceMul, hb, gc_len, gc_all, ff_13])
  refine AtCall.by (reach_gives (hk.wf hw) (hg0.mono hw hk) wg ok) ?_
  rintro v nb Hb kb ⟨rows, yr, xr, hx0, rfl, L, hrl, hgood⟩
  simp (config := { maxSteps := 1000000 }) only [SS, forall_const, wx, tguard, acallee, top, tval, tor, tload, tload2, tload3, tstore, tstore2, tstore3, tidx, tidx2, tfa, tfa2, tlen2, tpick, textr, tbox, talloc, tmake, tbuild, tbs, tbs2, tfld, tfld2, tsl, tsl2, tsl3, tix, tix1, tix2, tap, tap2, tap3, tap4, tsrc, tsrc2, Int.reduceEq, Int.reduceNeg, Go.AM.bound, afill, Nat.reduceGT, Nat.reduceLT, still, still1, flat1, one, Go.AM.splice, Nat.reduceLeDiff, vsh, vbin, vun, vconv, fput, Nat.reduceEqDiff, ↓reduceIte, reduceCtorEq, Int.reduceToNat, Int.reduceLE, Int.reduceLT, Nat.reduceAdd, Nat.reduceMul, ff_13]
  have kb2 := hk.trans kb
  have wb := kb2.wf hw
  have hnb := kb.le
  have hR := rowsB_iff hi hrl hgood
  obtain ⟨R, hRd⟩ : ∃ R, rowsB rows = R := ⟨_, rfl⟩
  rw [hRd] at hR
  have ht : ∀ a b c, R a b = true → R b c = true → R a c = true := fun a b c h1 h2 => (hR a c).2 (((hR a b).1 h1).trans ((hR b c).1 h2))
  repeat (first | apply WK.seq | apply WK.block | apply WK.skipSeq | apply WK.skipBlock | apply WK.retSeq | apply WK.retBlock | apply WK.exitSeq | apply WK.exitHere | refine WK.exitOn rfl ?_ | ((first | (refine WK.rgn ?_ ?_; kernel_rfl) | refine AtCall.now ?_); simp (config := { maxSteps := 1000000 }) only [SS, forall_const, wx, tguard, acallee, top, tval, tor, tload, tload2, tload3, tstore, tstore2, tstore3, tidx, tidx2, tfa, tfa2, tlen2, tpick, textr, tbox, talloc, tmake, tbuild, tbs, tbs2, tfld, tfld2, tsl, tsl2, tsl3, tix, tix1, tix2, tap, tap2, tap3, tap4, tsrc, tsrc2, Int.reduceEq, Int.reduceNeg, Go.AM.bound, afill, Nat.reduceGT, Nat.reduceLT, still, still1, flat1, one, Go.AM.splice, Nat.reduceLeDiff, vsh, vbin, vun, vconv, fput, Nat.reduceEqDiff, ↓reduceIte, reduceCtorEq, Int.reduceToNat, Int.reduceLE, Int.reduceLT, Nat.reduceAdd, Nat.reduceMul, ff_13]) | (refine WK.condT ?_ ?_; focus (simp only [ev_tmp, ev_const, fset_apply, Nat.reduceEqDiff, ↓reduceIte, decide_true, decide_false, ff_13]; done)) | (refine WK.condF ?_ ?_; focus (simp only [ev_tmp, ev_const, fset_apply, Nat.reduceEqDiff, ↓reduceIte, decide_true, decide_false, ff_13]; done)))
  refine WK.loop (fun k s => ∃ (i : Nat) (x : Nat) (ys : Nat → Nat), Kp nb Hb s.n s.H ∧ s.f 3 = .slice (some ⟨xr, 0, none⟩) g.vars.length g.vars.length ∧ s.f 4 = sl x (groupsS R g.vars.length i).length ∧ (groupsS R g.vars.length i ≠ [] → nb ≤ x ∧ LL nb s.H x 35 3 ic (groupsS R g.vars.length i) ys) ∧
      s.f 11 = .int .i64 g.vars.length ∧ s.f 12 = .int .i64 (i : Nat) ∧ i ≤ g.vars.length ∧ k = g.vars.length - i) g.vars.length ?_ ?_
  · exact ⟨0, 0, fun _ => 0, Kp.refl _ _, rfl, rfl, (fun h => absurd rfl h), rfl, rfl, Nat.zero_le _, rfl⟩
  rintro kk' ⟨f, n4, H4⟩ ⟨i, x, ys, kp, f3, f4, hLL, f11, f12, hiv, rfl⟩ ih
  simp only at f3 f4 f11 f12 ih kp hLL
  have hw4 := kp.wf wb
  have Lr := L.kp wb kp
  by_cases hjr : i < g.vars.length
  · have row : ∀ v, v < g.vars.length → ∃ r, (llcells yr rows)[v]? = some (.slice (some ⟨yr v, 0, none⟩) g.vars.length g.vars.length) ∧ (∀ u, u < g.vars.length → (List.map Value.bool r)[u]? = some (.bool (R v u))) ∧ Hb (yr v) = .cells (List.map Value.bool r) 4 true := by
      intro v hv
      have hil : v < rows.length := by omega
      have hgr := hgood v rows[v] (List.getElem?_eq_getElem hil)
      have hrn : rows[v] ≠ [] := by intro e; have := hgr.len; rw [e] at this; simp at this; omega
      have hrow0 := L.at hil
      rw [sl_pos (by rw [hgr.len]; omega), hgr.len] at hrow0
      have hyi := L.hy v hil hrn
      rw [flat_bc] at hyi
      refine ⟨rows[v], hrow0, fun u hu => ?_, hyi⟩
      have hlt : u < rows[v].length := by rw [hgr.len]; exact hu
      rw [List.getElem?_map, List.getElem?_eq_getElem hlt, ← hRd]
      simp [rowsB, hil, hlt]
    obtain ⟨ri, c1, c2, c3⟩ := row i hjr
    have hxr := L.hx
    have hxl := L.ltx wb
    have hyl := live_lt wb (live_of c3)
    have d1 : ∀ o, hset H4 n4 o xr = _ := fun o => (hset_ne _ _ _ (by have := kp.le; omega)).trans ((kp.keep xr hxl).trans hxr)
    have d2 : ∀ o, hset H4 n4 o (yr i) = _ := fun o => (hset_ne _ _ _ (by have := kp.le; omega)).trans ((kp.keep _ hyl).trans c3)
    have c2i := c2 i hjr
    have kN := Kp.new n4 H4 (.cells [.int .i64 (i : Nat)] 3 true)
    have hN := hset_at H4 n4 (.cells [.int .i64 (i : Nat)] 3 true)
    have LLN : groupsS R g.vars.length i ≠ [] → nb ≤ x ∧ LL nb (hset H4 n4 (.cells [.int .i64 (i : Nat)] 3 true)) x 35 3 ic (groupsS R g.vars.length i) ys := fun h => ⟨(hLL h).1, (hLL h).2.kp hw4 kN⟩
    have hgl : (groupsS R g.vars.length i).length ≤ 64 := by
      unfold groupsS
      rw [List.length_map]
      have := List.length_filter_le (leader R) (List.range i)
      rw [List.length_range] at this
      omega
    have skip : leader R i = false → groupsS R g.vars.length (i + 1) = groupsS R g.vars.length i := fun h => by rw [groupsS_succ, h]; simp
    have hiw : IntKind.i64.wrap ((i : Int) + 1) = ((i + 1 : Nat) : Int) := by rw [wrap_in (by omega) (by omega)]; rfl
    have kpN := kp.trans kN
    cases hRi : R i i
    · rw [hRi] at c2i
      repeat (first | apply WK.seq | apply WK.block | apply WK.skipSeq | apply WK.skipBlock | apply WK.retSeq | apply WK.retBlock | apply WK.exitSeq | apply WK.exitHere | refine WK.exitOn rfl ?_ | ((first | (refine WK.rgn ?_ ?_; kernel_rfl) | refine AtCall.now ?_); simp (config := { maxSteps := 1000000 }) only [SS, forall_const, wx, tguard, acallee, top, tval, tor, tload, tload2, tload3, tstore, tstore2, tstore3, tidx, tidx2, tfa, tfa2, tlen2, tpick, textr, tbox, talloc, tmake, tbuild, tbs, tbs2, tfld, tfld2, tsl, tsl2, tsl3, tix, tix1, tix2, tap, tap2, tap3, tap4, tsrc, tsrc2, Int.reduceEq, Int.reduceNeg, Go.AM.bound, afill, Nat.reduceGT, Nat.reduceLT, still, still1, flat1, one, Go.AM.splice, Nat.reduceLeDiff, vsh, vbin, vun, vconv, fput, Nat.reduceEqDiff, ↓reduceIte, reduceCtorEq, Int.reduceToNat, Int.reduceLE, Int.reduceLT, Nat.reduceAdd, Nat.reduceMul, f3, f11, f12, hjr, d1, d2, c1, c2i, ff_13]) | (refine WK.condT ?_ ?_; focus (simp only [ev_tmp, ev_const, fset_apply, Nat.reduceEqDiff, ↓reduceIte, decide_true, decide_false, f3, f11, f12, hjr, d1, d2, c1, c2i, ff_13]; done)) | (refine WK.condF ?_ ?_; focus (simp only [ev_tmp, ev_const, fset_apply, Nat.reduceEqDiff, ↓reduceIte, decide_true, decide_false, f3, f11, f12, hjr, d1, d2, c1, c2i, ff_13]; done)))
      have hlf : leader R i = false := by unfold leader; rw [hRi]; rfl
      refine ih (g.vars.length - (i + 1)) (by omega) _ ⟨i + 1, x, ys, kpN, f3, by rw [skip hlf]; exact f4, by rw [skip hlf]; exact LLN, f11, ?_, hjr, rfl⟩
      simp only [packed, fset_apply, Nat.reduceEqDiff, ↓reduceIte, List.getD_cons_zero, List.getD_cons_succ, hiw, ff_13]
    · rw [hRi] at c2i
      rw [sl_eq] at f4
      repeat (first | apply WK.seq | apply WK.block | apply WK.skipSeq | apply WK.skipBlock | apply WK.retSeq | apply WK.retBlock | apply WK.exitSeq | apply WK.exitHere | refine WK.exitOn rfl ?_ | ((first | (refine WK.rgn ?_ ?_; kernel_rfl) | refine AtCall.now ?_); simp (config := { maxSteps := 1000000 }) only [SS, forall_const, wx, tguard, acallee, top, tval, tor, tload, tload2, tload3, tstore, tstore2, tstore3, tidx, tidx2, tfa, tfa2, tlen2, tpick, textr, tbox, talloc, tmake, tbuild, tbs, tbs2, tfld, tfld2, tsl, tsl2, tsl3, tix, tix1, tix2, tap, tap2, tap3, tap4, tsrc, tsrc2, Int.reduceEq, Int.reduceNeg, Go.AM.bound, afill, Nat.reduceGT, Nat.reduceLT, still, still1, flat1, one, Go.AM.splice, Nat.reduceLeDiff, vsh, vbin, vun, vconv, fput, Nat.reduceEqDiff, ↓reduceIte, reduceCtorEq, Int.reduceToNat, Int.reduceLE, Int.reduceLT, Nat.reduceAdd, Nat.reduceMul, f3, f4, f11, f12, hjr, d1, d2, c1, c2i, ff_13]) | (refine WK.condT ?_ ?_; focus (simp only [ev_tmp, ev_const, fset_apply, Nat.reduceEqDiff, ↓reduceIte, decide_true, decide_false, f3, f4, f11, f12, hjr, d1, d2, c1, c2i, ff_13]; done)) | (refine WK.condF ?_ ?_; focus (simp only [ev_tmp, ev_const, fset_apply, Nat.reduceEqDiff, ↓reduceIte, decide_true, decide_false, f3, f4, f11, f12, hjr, d1, d2, c1, c2i, ff_13]; done)))
      have hc := containsFunc_gives (F := 31) (captured := [.pointer (some ⟨n4, 0, none⟩)]) (n := n4 + 1) (llcells_RA (fun h => (LLN h).2)) (by rw [llcells_length]; omega) (b := fun j => decide ((i : Int) ∈ ((groupsS R g.vars.length i).getD j []).map fun u : Nat => (u : Int))) (fun j hj => by
        have hj' : j < (groupsS R g.vars.length i).length := by rw [llcells_length] at hj; exact hj
        have hne : groupsS R g.vars.length i ≠ [] := by intro e; rw [e] at hj'; simp at hj'
        have e1 : (llcells ys (groupsS R g.vars.length i))[j] = sl (ys j) (groupsS R g.vars.length i)[j].length := by
          have := llcells_at ys hj'
          rw [List.getElem?_eq_getElem hj] at this
          exact Option.some.inj this
        have e2 : (groupsS R g.vars.length i).getD j [] = (groupsS R g.vars.length i)[j] := by rw [List.getD_eq_getElem?_getD, List.getElem?_eq_getElem hj']; rfl
        rw [e1, sl_eq, e2]
        have := groups1_gives (n := n4 + 1) (x := (i : Int)) (ints_RA (LLN hne).2 hj') (by
          rw [List.length_map]
          have := groupsS_len (List.getElem_mem hj')
          omega) hN
        rw [List.length_map] at this
        exact this)
      rw [llcells_length] at hc
      refine AtCall.by hc ?_
      rintro v n5 H5 hk5 ⟨⟨t, rfl, htb⟩, rfl, rfl⟩
      have htl : t = true ↔ ∃ u, u < i ∧ mut2 R i u = true := by
        rw [htb, ← in_groups ht hjr]
        constructor
        · rintro ⟨j, hj, hb⟩
          have e2 : (groupsS R g.vars.length i).getD j [] = (groupsS R g.vars.length i)[j] := by rw [List.getD_eq_getElem?_getD, List.getElem?_eq_getElem hj]; rfl
          rw [e2, decide_eq_true_iff, List.mem_map] at hb
          obtain ⟨u, hu, e⟩ := hb
          have : u = i := by omega
          subst this
          exact ⟨_, List.getElem_mem hj, hu⟩
        · rintro ⟨l, hl, hil⟩
          obtain ⟨j, hj, rfl⟩ := List.getElem_of_mem hl
          refine ⟨j, hj, ?_⟩
          have e2 : (groupsS R g.vars.length i).getD j [] = (groupsS R g.vars.length i)[j] := by rw [List.getD_eq_getElem?_getD, List.getElem?_eq_getElem hj]; rfl
          rw [e2, decide_eq_true_iff, List.mem_map]
          exact ⟨i, hil, rfl⟩
      cases t
      · have hlt : leader R i = true := by
          unfold leader
          rw [hRi, Bool.true_and, List.all_eq_true]
          intro u hu
          rw [Bool.not_eq_true']
          by_cases e : mut2 R i u = true
          · exact absurd (htl.2 ⟨u, List.mem_range.1 hu, e⟩) (by simp)
          · simpa using e
        simp (config := { maxSteps := 1000000 }) only [SS, forall_const, wx, tguard, acallee, top, tval, tor, tload, tload2, tload3, tstore, tstore2, tstore3, tidx, tidx2, tfa, tfa2, tlen2, tpick, textr, tbox, talloc, tmake, tbuild, tbs, tbs2, tfld, tfld2, tsl, tsl2, tsl3, tix, tix1, tix2, tap, tap2, tap3, tap4, tsrc, tsrc2, Int.reduceEq, Int.reduceNeg, Go.AM.bound, afill, Nat.reduceGT, Nat.reduceLT, still, still1, flat1, one, Go.AM.splice, Nat.reduceLeDiff, vsh, vbin, vun, vconv, fput, Nat.reduceEqDiff, ↓reduceIte, reduceCtorEq, Int.reduceToNat, Int.reduceLE, Int.reduceLT, Nat.reduceAdd, Nat.reduceMul, ff_13]
        repeat (first | apply WK.seq | apply WK.block | apply WK.skipSeq | apply WK.skipBlock | apply WK.retSeq | apply WK.retBlock | apply WK.exitSeq | apply WK.exitHere | refine WK.exitOn rfl ?_ | ((first | (refine WK.rgn ?_ ?_; kernel_rfl) | refine AtCall.now ?_); simp (config := { maxSteps := 1000000 }) only [SS, forall_const, wx, tguard, acallee, top, tval, tor, tload, tload2, tload3, tstore, tstore2, tstore3, tidx, tidx2, tfa, tfa2, tlen2, tpick, textr, tbox, talloc, tmake, tbuild, tbs, tbs2, tfld, tfld2, tsl, tsl2, tsl3, tix, tix1, tix2, tap, tap2, tap3, tap4, tsrc, tsrc2, Int.reduceEq, Int.reduceNeg, Go.AM.bound, afill, Nat.reduceGT, Nat.reduceLT, still, still1, flat1, one, Go.AM.splice, Nat.reduceLeDiff, vsh, vbin, vun, vconv, fput, Nat.reduceEqDiff, ↓reduceIte, reduceCtorEq, Int.reduceToNat, Int.reduceLE, Int.reduceLT, Nat.reduceAdd, Nat.reduceMul, f3, ff_13]) | (refine WK.condT ?_ ?_; focus (simp only [ev_tmp, ev_const, fset_apply, Nat.reduceEqDiff, ↓reduceIte, decide_true, decide_false, f3, ff_13]; done)) | (refine WK.condF ?_ ?_; focus (simp only [ev_tmp, ev_const, fset_apply, Nat.reduceEqDiff, ↓reduceIte, decide_true, decide_false, f3, ff_13]; done)))
        have hwN := kpN.wf wb
        have kp0 := kp.le
        clear hc d1 d2 c2i hLL kp
        generalize hset H4 n4 (.cells [.int .i64 (i : Nat)] 3 true) = HN at *
        refine WK.loop (fun k s => ∃ (u y : Nat), Kp (n4 + 1) HN s.n s.H ∧ s.f 3 = .slice (some ⟨xr, 0, none⟩) g.vars.length g.vars.length ∧ s.f 4 = sl x (groupsS R g.vars.length i).length ∧ s.f 5 = .pointer (some ⟨n4, 0, none⟩) ∧ s.f 6 = sl y (grpTo R i u).length ∧ (grpTo R i u ≠ [] → n4 + 1 ≤ y ∧ s.H y = .cells ((grpTo R i u).map fun u => .int .i64 (u : Nat)) 3 true) ∧
            s.f 11 = .int .i64 g.vars.length ∧ s.f 12 = .int .i64 (i : Nat) ∧ s.f 28 = .slice (some ⟨xr, 0, none⟩) g.vars.length g.vars.length ∧ s.f 29 = .int .i64 g.vars.length ∧ s.f 30 = .int .i64 (u : Nat) ∧ u ≤ g.vars.length ∧ k = g.vars.length - u) g.vars.length ?_ ?_
        · exact ⟨0, 0, Kp.refl _ _, f3, by rw [sl_eq]; exact f4, rfl, rfl, (fun h => absurd rfl h), f11, f12, rfl, rfl, rfl, Nat.zero_le _, rfl⟩
        clear f3 f4 f11 f12
        rintro kk' ⟨f, n6, H6⟩ ⟨u, y, kq, f3, f4, f5, f6, hL, f11, f12, f28, f29, f30, huv, rfl⟩ ih2
        simp only at f3 f4 f5 f6 f11 f12 f28 f29 f30 ih2 kq hL
        have hw6 := kq.wf hwN
        have hn6 := kq.le
        have hN6 := (kq.keep n4 (by omega)).trans hN
        by_cases hju : u < g.vars.length
        · obtain ⟨ru, g1, g2, g3⟩ := row u hju
          have hyu := live_lt wb (live_of g3)
          have kpq := kpN.trans kq
          have e1 := (kpq.keep xr hxl).trans hxr
          have e2 := (kpq.keep _ hyl).trans c3
          have e3 := (kpq.keep _ hyu).trans g3
          have c2u := c2 u hju
          have g2i := g2 i hjr
          have huw : IntKind.i64.wrap ((u : Int) + 1) = ((u + 1 : Nat) : Int) := by rw [wrap_in (by omega) (by omega)]; rfl
          cases hm : mut2 R i u
          · have hgt : grpTo R i (u + 1) = grpTo R i u := by rw [grpTo_succ, hm]; rfl
            have fin : ∀ f' : Fr, f' 3 = f 3 → f' 4 = f 4 → f' 5 = f 5 → f' 6 = f 6 → f' 11 = f 11 → f' 12 = f 12 → f' 28 = f 28 → f' 29 = f 29 → f' 30 = .int .i64 (u + 1 : Nat) → ∃ (u' y : Nat), Kp (n4 + 1) HN n6 H6 ∧ f' 3 = .slice (some ⟨xr, 0, none⟩) g.vars.length g.vars.length ∧ f' 4 = sl x (groupsS R g.vars.length i).length ∧ f' 5 = .pointer (some ⟨n4, 0, none⟩) ∧ f' 6 = sl y (grpTo R i u').length ∧ (grpTo R i u' ≠ [] → n4 + 1 ≤ y ∧ H6 y = .cells ((grpTo R i u').map fun u => .int .i64 (u : Nat)) 3 true) ∧
                f' 11 = .int .i64 g.vars.length ∧ f' 12 = .int .i64 (i : Nat) ∧ f' 28 = .slice (some ⟨xr, 0, none⟩) g.vars.length g.vars.length ∧ f' 29 = .int .i64 g.vars.length ∧ f' 30 = .int .i64 (u' : Nat) ∧ u' ≤ g.vars.length ∧ g.vars.length - (u + 1) = g.vars.length - u' :=
              fun f' a b c d e1 e2 e3 e4 e5 => ⟨u + 1, y, kq, a.trans f3, b.trans f4, c.trans f5, by rw [d, f6, hgt], by rw [hgt]; exact hL, e1.trans f11, e2.trans f12, e3.trans f28, e4.trans f29, e5, hju, rfl⟩
            cases hiu : R i u
            · rw [hiu] at c2u
              repeat (first | apply WK.seq | apply WK.block | apply WK.skipSeq | apply WK.skipBlock | apply WK.retSeq | apply WK.retBlock | apply WK.exitSeq | apply WK.exitHere | refine WK.exitOn rfl ?_ | ((first | (refine WK.rgn ?_ ?_; kernel_rfl) | refine AtCall.now ?_); simp (config := { maxSteps := 1000000 }) only [SS, forall_const, wx, tguard, acallee, top, tval, tor, tload, tload2, tload3, tstore, tstore2, tstore3, tidx, tidx2, tfa, tfa2, tlen2, tpick, textr, tbox, talloc, tmake, tbuild, tbs, tbs2, tfld, tfld2, tsl, tsl2, tsl3, tix, tix1, tix2, tap, tap2, tap3, tap4, tsrc, tsrc2, Int.reduceEq, Int.reduceNeg, Go.AM.bound, afill, Nat.reduceGT, Nat.reduceLT, still, still1, flat1, one, Go.AM.splice, Nat.reduceLeDiff, vsh, vbin, vun, vconv, fput, Nat.reduceEqDiff, ↓reduceIte, reduceCtorEq, Int.reduceToNat, Int.reduceLE, Int.reduceLT, Nat.reduceAdd, Nat.reduceMul, f3, f5, f28, f29, f30, hju, hN6, hjr, c1, e1, e2, e3, g1, c2u, ff_13]) | (refine WK.condT ?_ ?_; focus (simp only [ev_tmp, ev_const, fset_apply, Nat.reduceEqDiff, ↓reduceIte, decide_true, decide_false, f3, f5, f28, f29, f30, hju, hN6, hjr, c1, e1, e2, e3, g1, c2u, ff_13]; done)) | (refine WK.condF ?_ ?_; focus (simp only [ev_tmp, ev_const, fset_apply, Nat.reduceEqDiff, ↓reduceIte, decide_true, decide_false, f3, f5, f28, f29, f30, hju, hN6, hjr, c1, e1, e2, e3, g1, c2u, ff_13]; done)))
              refine ih2 (g.vars.length - (u + 1)) (by omega) _ (fin _ rfl rfl rfl rfl rfl rfl rfl rfl ?_)
              simp only [packed, fset_apply, Nat.reduceEqDiff, ↓reduceIte, List.getD_cons_zero, List.getD_cons_succ, huw, ff_13]
            · have hui : R u i = false := by
                unfold mut2 at hm; rw [hiu] at hm; simpa using hm
              rw [hiu] at c2u
              rw [hui] at g2i
              repeat (first | apply WK.seq | apply WK.block | apply WK.skipSeq | apply WK.skipBlock | apply WK.retSeq | apply WK.retBlock | apply WK.exitSeq | apply WK.exitHere | refine WK.exitOn rfl ?_ | ((first | (refine WK.rgn ?_ ?_; kernel_rfl) | refine AtCall.now ?_); simp (config := { maxSteps := 1000000 }) only [SS, forall_const, wx, tguard, acallee, top, tval, tor, tload, tload2, tload3, tstore, tstore2, tstore3, tidx, tidx2, tfa, tfa2, tlen2, tpick, textr, tbox, talloc, tmake, tbuild, tbs, tbs2, tfld, tfld2, tsl, tsl2, tsl3, tix, tix1, tix2, tap, tap2, tap3, tap4, tsrc, tsrc2, Int.reduceEq, Int.reduceNeg, Go.AM.bound, afill, Nat.reduceGT, Nat.reduceLT, still, still1, flat1, one, Go.AM.splice, Nat.reduceLeDiff, vsh, vbin, vun, vconv, fput, Nat.reduceEqDiff, ↓reduceIte, reduceCtorEq, Int.reduceToNat, Int.reduceLE, Int.reduceLT, Nat.reduceAdd, Nat.reduceMul, f3, f5, f28, f29, f30, hju, hN6, hjr, c1, e1, e2, e3, g1, c2u, g2i, ff_13]) | (refine WK.condT ?_ ?_; focus (simp only [ev_tmp, ev_const, fset_apply, Nat.reduceEqDiff, ↓reduceIte, decide_true, decide_false, f3, f5, f28, f29, f30, hju, hN6, hjr, c1, e1, e2, e3, g1, c2u, g2i, ff_13]; done)) | (refine WK.condF ?_ ?_; focus (simp only [ev_tmp, ev_const, fset_apply, Nat.reduceEqDiff, ↓reduceIte, decide_true, decide_false, f3, f5, f28, f29, f30, hju, hN6, hjr, c1, e1, e2, e3, g1, c2u, g2i, ff_13]; done)))
              refine ih2 (g.vars.length - (u + 1)) (by omega) _ (fin _ rfl rfl rfl rfl rfl rfl rfl rfl ?_)
              simp only [packed, fset_apply, Nat.reduceEqDiff, ↓reduceIte, List.getD_cons_zero, List.getD_cons_succ, huw, ff_13]
          · have hgt : grpTo R i (u + 1) = grpTo R i u ++ [u] := by rw [grpTo_succ, hm]; rfl
            have hm' := hm
            unfold mut2 at hm'
            rw [Bool.and_eq_true] at hm'
            rw [hm'.1] at c2u
            rw [hm'.2] at g2i
            have hgl' := grpTo_len R i u
            have hbg : (grpTo R i u).length + 1 ≤ bigN := by unfold bigN; omega
            by_cases hnil : grpTo R i u = []
            · rw [hnil, List.length_nil, sl_zero] at f6
              repeat (first | apply WK.seq | apply WK.block | apply WK.skipSeq | apply WK.skipBlock | apply WK.retSeq | apply WK.retBlock | apply WK.exitSeq | apply WK.exitHere | refine WK.exitOn rfl ?_ | ((first | (refine WK.rgn ?_ ?_; kernel_rfl) | refine AtCall.now ?_); simp (config := { maxSteps := 1000000 }) only [SS, forall_const, wx, tguard, acallee, top, tval, tor, tload, tload2, tload3, tstore, tstore2, tstore3, tidx, tidx2, tfa, tfa2, tlen2, tpick, textr, tbox, talloc, tmake, tbuild, tbs, tbs2, tfld, tfld2, tsl, tsl2, tsl3, tix, tix1, tix2, tap, tap2, tap3, tap4, tsrc, tsrc2, Int.reduceEq, Int.reduceNeg, Go.AM.bound, afill, Nat.reduceGT, Nat.reduceLT, still, still1, flat1, one, Go.AM.splice, Nat.reduceLeDiff, vsh, vbin, vun, vconv, fput, Nat.reduceEqDiff, ↓reduceIte, reduceCtorEq, Int.reduceToNat, Int.reduceLE, Int.reduceLT, Nat.reduceAdd, Nat.reduceMul, f3, f5, f6, f28, f29, f30, hju, hN6, hjr, c1, e1, e2, e3, g1, c2u, g2i, ebs_35_1, ff_13]) | (refine WK.condT ?_ ?_; focus (simp only [ev_tmp, ev_const, fset_apply, Nat.reduceEqDiff, ↓reduceIte, decide_true, decide_false, f3, f5, f6, f28, f29, f30, hju, hN6, hjr, c1, e1, e2, e3, g1, c2u, g2i, ebs_35_1, ff_13]; done)) | (refine WK.condF ?_ ?_; focus (simp only [ev_tmp, ev_const, fset_apply, Nat.reduceEqDiff, ↓reduceIte, decide_true, decide_false, f3, f5, f6, f28, f29, f30, hju, hN6, hjr, c1, e1, e2, e3, g1, c2u, g2i, ebs_35_1, ff_13]; done)))
              refine ih2 (g.vars.length - (u + 1)) (by omega) _ ⟨u + 1, n6 + 1, (kq.trans (Kp.new n6 H6 _)).trans (Kp.new (n6 + 1) _ _), f3, f4, f5, ?_, fun _ => ⟨by omega, ?_⟩, f11, f12, f28, f29, ?_, hju, rfl⟩
              · simp only [packed, fset_apply, Nat.reduceEqDiff, ↓reduceIte, List.getD_cons_zero, List.getD_cons_succ, hgt, hnil, ff_13]
                rfl
              · rw [hgt, hnil]
                exact hset_at _ _ _
              · simp only [packed, fset_apply, Nat.reduceEqDiff, ↓reduceIte, List.getD_cons_zero, List.getD_cons_succ, huw, ff_13]
            · obtain ⟨hy1, hy2⟩ := hL hnil
              have hyn6 := live_lt hw6 (live_of hy2)
              rw [sl_pos (by simpa using hnil)] at f6
              have a1 : ∀ o, hset H6 n6 o y = _ := fun o => (hset_ne _ _ _ (by omega)).trans hy2
              have a2 : [n6].contains y = false := by simp; omega
              have a3 : ((grpTo R i u).map fun u => Value.int .i64 (u : Nat)).take (grpTo R i u).length = (grpTo R i u).map fun u => Value.int .i64 (u : Nat) := List.take_of_length_le (by simp)
              repeat (first | apply WK.seq | apply WK.block | apply WK.skipSeq | apply WK.skipBlock | apply WK.retSeq | apply WK.retBlock | apply WK.exitSeq | apply WK.exitHere | refine WK.exitOn rfl ?_ | ((first | (refine WK.rgn ?_ ?_; kernel_rfl) | refine AtCall.now ?_); simp (config := { maxSteps := 1000000 }) only [SS, forall_const, wx, tguard, acallee, top, tval, tor, tload, tload2, tload3, tstore, tstore2, tstore3, tidx, tidx2, tfa, tfa2, tlen2, tpick, textr, tbox, talloc, tmake, tbuild, tbs, tbs2, tfld, tfld2, tsl, tsl2, tsl3, tix, tix1, tix2, tap, tap2, tap3, tap4, tsrc, tsrc2, Int.reduceEq, Int.reduceNeg, Go.AM.bound, afill, Nat.reduceGT, Nat.reduceLT, still, still1, flat1, one, Go.AM.splice, Nat.reduceLeDiff, vsh, vbin, vun, vconv, fput, Nat.reduceEqDiff, ↓reduceIte, reduceCtorEq, Int.reduceToNat, Int.reduceLE, Int.reduceLT, Nat.reduceAdd, Nat.reduceMul, f3, f5, f6, f28, f29, f30, hju, hN6, hjr, c1, e1, e2, e3, g1, c2u, g2i, ebs_35_1, a1, a2, a3, hbg, List.length_map, List.drop_zero, ff_13]) | (refine WK.condT ?_ ?_; focus (simp only [ev_tmp, ev_const, fset_apply, Nat.reduceEqDiff, ↓reduceIte, decide_true, decide_false, f3, f5, f6, f28, f29, f30, hju, hN6, hjr, c1, e1, e2, e3, g1, c2u, g2i, ebs_35_1, a1, a2, a3, hbg, List.length_map, List.drop_zero, ff_13]; done)) | (refine WK.condF ?_ ?_; focus (simp only [ev_tmp, ev_const, fset_apply, Nat.reduceEqDiff, ↓reduceIte, decide_true, decide_false, f3, f5, f6, f28, f29, f30, hju, hN6, hjr, c1, e1, e2, e3, g1, c2u, g2i, ebs_35_1, a1, a2, a3, hbg, List.length_map, List.drop_zero, ff_13]; done)))
              refine ih2 (g.vars.length - (u + 1)) (by omega) _ ⟨u + 1, n6 + 1, ((kq.trans (Kp.new n6 H6 _)).set _ hy1 (by omega)).trans (Kp.new (n6 + 1) _ _), f3, f4, f5, ?_, fun _ => ⟨by omega, ?_⟩, f11, f12, f28, f29, ?_, hju, rfl⟩
              · simp only [packed, fset_apply, Nat.reduceEqDiff, ↓reduceIte, List.getD_cons_zero, List.getD_cons_succ, hgt, ff_13]
                rw [sl_pos (by simp), List.length_append]
                rfl
              · rw [hgt, List.map_append]
                exact hset_at _ _ _
              · simp only [packed, fset_apply, Nat.reduceEqDiff, ↓reduceIte, List.getD_cons_zero, List.getD_cons_succ, huw, ff_13]
        · have hue : u = g.vars.length := by omega
          subst hue
          have hln : grpTo R i g.vars.length ≠ [] := by
            intro e
            have : i ∈ grpTo R i g.vars.length := by
              unfold grpTo
              rw [List.mem_filter, List.mem_range]
              exact ⟨hjr, by unfold mut2; rw [hRi]; rfl⟩
            rw [e] at this; simp at this
          obtain ⟨hy1, hy2⟩ := hL hln
          have hyn6 := live_lt hw6 (live_of hy2)
          have hyb : nb ≤ y := by have := kp0; omega
          have hgn : groupsS R g.vars.length (i + 1) = groupsS R g.vars.length i ++ [grpTo R i g.vars.length] := by rw [groupsS_succ, hlt]; rfl
          have hll : ((grpTo R i g.vars.length).flatMap ic) = _ := flat_ic _
          rw [sl_pos (by simpa using hln)] at f6
          have low : ∀ v (hv : v < (groupsS R g.vars.length i).length), (groupsS R g.vars.length i)[v] ≠ [] → ys v < n4 + 1 ∧ H6 (ys v) = HN (ys v) := fun v hv hn => by
            have h1 := LLN (by intro e; rw [e] at hv; simp at hv)
            have h2 := h1.2.lty hwN hv hn
            exact ⟨h2, kq.keep _ h2⟩
          by_cases hgs : groupsS R g.vars.length i = []
          · rw [hgs, List.length_nil, sl_zero] at f4
            repeat (first | apply WK.seq | apply WK.block | apply WK.skipSeq | apply WK.skipBlock | apply WK.retSeq | apply WK.retBlock | apply WK.exitSeq | apply WK.exitHere | refine WK.exitOn rfl ?_ | ((first | (refine WK.rgn ?_ ?_; kernel_rfl) | refine AtCall.now ?_); simp (config := { maxSteps := 1000000 }) only [SS, forall_const, wx, tguard, acallee, top, tval, tor, tload, tload2, tload3, tstore, tstore2, tstore3, tidx, tidx2, tfa, tfa2, tlen2, tpick, textr, tbox, talloc, tmake, tbuild, tbs, tbs2, tfld, tfld2, tsl, tsl2, tsl3, tix, tix1, tix2, tap, tap2, tap3, tap4, tsrc, tsrc2, Int.reduceEq, Int.reduceNeg, Go.AM.bound, afill, Nat.reduceGT, Nat.reduceLT, still, still1, flat1, one, Go.AM.splice, Nat.reduceLeDiff, vsh, vbin, vun, vconv, fput, Nat.reduceEqDiff, ↓reduceIte, reduceCtorEq, Int.reduceToNat, Int.reduceLE, Int.reduceLT, Nat.reduceAdd, Nat.reduceMul, f4, f6, f12, f29, f30, hju, ebs_33_1, ff_13]) | (refine WK.condT ?_ ?_; focus (simp only [ev_tmp, ev_const, fset_apply, Nat.reduceEqDiff, ↓reduceIte, decide_true, decide_false, f4, f6, f12, f29, f30, hju, ebs_33_1, ff_13]; done)) | (refine WK.condF ?_ ?_; focus (simp only [ev_tmp, ev_const, fset_apply, Nat.reduceEqDiff, ↓reduceIte, decide_true, decide_false, f4, f6, f12, f29, f30, hju, ebs_33_1, ff_13]; done)))
            refine ih (g.vars.length - (i + 1)) (by omega) _ ⟨i + 1, n6 + 1, upd ys (groupsS R g.vars.length i).length y, kpN.trans ((kq.trans (Kp.new n6 H6 _)).trans (Kp.new (n6 + 1) _ _)), f3, ?_, fun _ => ⟨by omega, ?_⟩, f11, ?_, hjr, rfl⟩
            · simp only [packed, fset_apply, Nat.reduceEqDiff, ↓reduceIte, List.getD_cons_zero, List.getD_cons_succ, hgn, hgs, ff_13]
              rfl
            · rw [hgn]
              refine LL.push (fun h => (LLN h).2) (fun _ => ?_) (fun _ => hyb) (fun _ => by omega) ?_ (fun v hv hn => ?_) (fun v hv hn => ?_) (fun v hv hn => ?_)
              · rw [hll]
                exact (hset_ne _ _ _ (by omega)).trans ((hset_ne _ _ _ (by omega)).trans hy2)
              · rw [hgs, sl_pos (by simpa using hln)]
                exact hset_at _ _ _
              · have := low v hv hn; omega
              · have := low v hv hn; omega
              · have := low v hv hn
                exact (hset_ne _ _ _ (by omega)).trans ((hset_ne _ _ _ (by omega)).trans this.2)
            · simp only [packed, fset_apply, Nat.reduceEqDiff, ↓reduceIte, List.getD_cons_zero, List.getD_cons_succ, hiw, ff_13]
          · obtain ⟨hxb, hLx⟩ := LLN hgs
            have hxn := hLx.ltx hwN
            have hx6 := (kq.keep _ hxn).trans hLx.hx
            rw [sl_pos (by simpa using hgs)] at f4
            have a1 : ∀ o, hset H6 n6 o x = _ := fun o => (hset_ne _ _ _ (by omega)).trans hx6
            have a2 : [n6].contains x = false := by simp; omega
            have a3 : (llcells ys (groupsS R g.vars.length i)).take (groupsS R g.vars.length i).length = llcells ys (groupsS R g.vars.length i) := List.take_of_length_le (by rw [llcells_length]; exact Nat.le_refl _)
            have a4 : (groupsS R g.vars.length i).length + 1 ≤ bigN := by unfold bigN; omega
            repeat (first | apply WK.seq | apply WK.block | apply WK.skipSeq | apply WK.skipBlock | apply WK.retSeq | apply WK.retBlock | apply WK.exitSeq | apply WK.exitHere | refine WK.exitOn rfl ?_ | ((first | (refine WK.rgn ?_ ?_; kernel_rfl) | refine AtCall.now ?_); simp (config := { maxSteps := 1000000 }) only [SS, forall_const, wx, tguard, acallee, top, tval, tor, tload, tload2, tload3, tstore, tstore2, tstore3, tidx, tidx2, tfa, tfa2, tlen2, tpick, textr, tbox, talloc, tmake, tbuild, tbs, tbs2, tfld, tfld2, tsl, tsl2, tsl3, tix, tix1, tix2, tap, tap2, tap3, tap4, tsrc, tsrc2, Int.reduceEq, Int.reduceNeg, Go.AM.bound, afill, Nat.reduceGT, Nat.reduceLT, still, still1, flat1, one, Go.AM.splice, Nat.reduceLeDiff, vsh, vbin, vun, vconv, fput, Nat.reduceEqDiff, ↓reduceIte, reduceCtorEq, Int.reduceToNat, Int.reduceLE, Int.reduceLT, Nat.reduceAdd, Nat.reduceMul, f4, f6, f12, f29, f30, hju, ebs_33_1, a1, a2, a3, a4, llcells_length, List.drop_zero, ff_13]) | (refine WK.condT ?_ ?_; focus (simp only [ev_tmp, ev_const, fset_apply, Nat.reduceEqDiff, ↓reduceIte, decide_true, decide_false, f4, f6, f12, f29, f30, hju, ebs_33_1, a1, a2, a3, a4, llcells_length, List.drop_zero, ff_13]; done)) | (refine WK.condF ?_ ?_; focus (simp only [ev_tmp, ev_const, fset_apply, Nat.reduceEqDiff, ↓reduceIte, decide_true, decide_false, f4, f6, f12, f29, f30, hju, ebs_33_1, a1, a2, a3, a4, llcells_length, List.drop_zero, ff_13]; done)))
            refine ih (g.vars.length - (i + 1)) (by omega) _ ⟨i + 1, n6 + 1, upd ys (groupsS R g.vars.length i).length y, ((((kpN.trans kq).trans (Kp.new n6 H6 _)).set _ hxb (by omega)).trans (Kp.new (n6 + 1) _ _)), f3, ?_, fun _ => ⟨by omega, ?_⟩, f11, ?_, hjr, rfl⟩
            · simp only [packed, fset_apply, Nat.reduceEqDiff, ↓reduceIte, List.getD_cons_zero, List.getD_cons_succ, hgn, ff_13]
              rw [sl_pos (by simp), List.length_append]
              rfl
            · rw [hgn]
              refine LL.push (fun h => (LLN h).2) (fun _ => ?_) (fun _ => hyb) (fun _ => by omega) ?_ (fun v hv hn => ?_) (fun v hv hn => ?_) (fun v hv hn => ?_)
              · rw [hll]
                exact (hset_ne _ _ _ (by omega)).trans ((hset_ne _ _ _ (by omega)).trans ((hset_ne _ _ _ (by omega)).trans hy2))
              · rw [sl_pos (by simpa using hln)]
                exact hset_at _ _ _
              · have := low v hv hn; omega
              · have := low v hv hn; omega
              · have := low v hv hn
                exact (hset_ne _ _ _ (by omega)).trans ((hset_ne _ _ _ (hLx.ne v hv hn)).trans ((hset_ne _ _ _ (by omega)).trans this.2))
            · simp only [packed, fset_apply, Nat.reduceEqDiff, ↓reduceIte, List.getD_cons_zero, List.getD_cons_succ, hiw, ff_13]
      · have hlf : leader R i = false := by
          obtain ⟨u, hu, hm⟩ := htl.1 rfl
          unfold leader
          rw [Bool.and_eq_false_iff]; right
          rw [List.all_eq_false]
          exact ⟨u, List.mem_range.2 hu, by simp [hm]⟩
        simp (config := { maxSteps := 1000000 }) only [SS, forall_const, wx, tguard, acallee, top, tval, tor, tload, tload2, tload3, tstore, tstore2, tstore3, tidx, tidx2, tfa, tfa2, tlen2, tpick, textr, tbox, talloc, tmake, tbuild, tbs, tbs2, tfld, tfld2, tsl, tsl2, tsl3, tix, tix1, tix2, tap, tap2, tap3, tap4, tsrc, tsrc2, Int.reduceEq, Int.reduceNeg, Go.AM.bound, afill, Nat.reduceGT, Nat.reduceLT, still, still1, flat1, one, Go.AM.splice, Nat.reduceLeDiff, vsh, vbin, vun, vconv, fput, Nat.reduceEqDiff, ↓reduceIte, reduceCtorEq, Int.reduceToNat, Int.reduceLE, Int.reduceLT, Nat.reduceAdd, Nat.reduceMul, ff_13]
        repeat (first | apply WK.seq | apply WK.block | apply WK.skipSeq | apply WK.skipBlock | apply WK.retSeq | apply WK.retBlock | apply WK.exitSeq | apply WK.exitHere | refine WK.exitOn rfl ?_ | ((first | (refine WK.rgn ?_ ?_; kernel_rfl) | refine AtCall.now ?_); simp (config := { maxSteps := 1000000 }) only [SS, forall_const, wx, tguard, acallee, top, tval, tor, tload, tload2, tload3, tstore, tstore2, tstore3, tidx, tidx2, tfa, tfa2, tlen2, tpick, textr, tbox, talloc, tmake, tbuild, tbs, tbs2, tfld, tfld2, tsl, tsl2, tsl3, tix, tix1, tix2, tap, tap2, tap3, tap4, tsrc, tsrc2, Int.reduceEq, Int.reduceNeg, Go.AM.bound, afill, Nat.reduceGT, Nat.reduceLT, still, still1, flat1, one, Go.AM.splice, Nat.reduceLeDiff, vsh, vbin, vun, vconv, fput, Nat.reduceEqDiff, ↓reduceIte, reduceCtorEq, Int.reduceToNat, Int.reduceLE, Int.reduceLT, Nat.reduceAdd, Nat.reduceMul, f12, ff_13]) | (refine WK.condT ?_ ?_; focus (simp only [ev_tmp, ev_const, fset_apply, Nat.reduceEqDiff, ↓reduceIte, decide_true, decide_false, f12, ff_13]; done)) | (refine WK.condF ?_ ?_; focus (simp only [ev_tmp, ev_const, fset_apply, Nat.reduceEqDiff, ↓reduceIte, decide_true, decide_false, f12, ff_13]; done)))
        refine ih (g.vars.length - (i + 1)) (by omega) _ ⟨i + 1, x, ys, kpN, f3, by rw [skip hlf, sl_eq]; exact f4, by rw [skip hlf]; exact LLN, f11, ?_, hjr, rfl⟩
        simp only [packed, fset_apply, Nat.reduceEqDiff, ↓reduceIte, List.getD_cons_zero, List.getD_cons_succ, hiw, ff_13]
  · repeat (first | apply WK.seq | apply WK.block | apply WK.skipSeq | apply WK.skipBlock | apply WK.retSeq | apply WK.retBlock | apply WK.exitSeq | apply WK.exitHere | refine WK.exitOn rfl ?_ | ((first | (refine WK.rgn ?_ ?_; kernel_rfl) | refine AtCall.now ?_); simp (config := { maxSteps := 1000000 }) only [SS, forall_const, wx, tguard, acallee, top, tval, tor, tload, tload2, tload3, tstore, tstore2, tstore3, tidx, tidx2, tfa, tfa2, tlen2, tpick, textr, tbox, talloc, tmake, tbuild, tbs, tbs2, tfld, tfld2, tsl, tsl2, tsl3, tix, tix1, tix2, tap, tap2, tap3, tap4, tsrc, tsrc2, Int.reduceEq, Int.reduceNeg, Go.AM.bound, afill, Nat.reduceGT, Nat.reduceLT, still, still1, flat1, one, Go.AM.splice, Nat.reduceLeDiff, vsh, vbin, vun, vconv, fput, Nat.reduceEqDiff, ↓reduceIte, reduceCtorEq, Int.reduceToNat, Int.reduceLE, Int.reduceLT, Nat.reduceAdd, Nat.reduceMul, f4, f11, f12, hjr, ff_13]) | (refine WK.condT ?_ ?_; focus (simp only [ev_tmp, ev_const, fset_apply, Nat.reduceEqDiff, ↓reduceIte, decide_true, decide_false, f4, f11, f12, hjr, ff_13]; done)) | (refine WK.condF ?_ ?_; focus (simp only [ev_tmp, ev_const, fset_apply, Nat.reduceEqDiff, ↓reduceIte, decide_true, decide_false, f4, f11, f12, hjr, ff_13]; done)))
    (first | refine WK.retNil ⟨Or.inr rfl, _, rfl, ?_, ?_⟩ | refine WK.skipNil ⟨Or.inl rfl, _, rfl, ?_, ?_⟩)
    · exact fun y hy => (kp.keep y (by omega)).trans (kb2.keep y hy)
    · simp only [packed, fset_apply, Nat.reduceEqDiff, ↓reduceIte, List.getD_cons_zero, List.getD_cons_succ, f4, ff_13]
      have : i = g.vars.length := by omega
      subst this
      exact ⟨R, x, ys, hR, rfl, fun h => ⟨by have := (hLL h).1; omega, (hLL h).2.hx, (hLL h).2.hy, (hLL h).2.inj, fun v hv hn => by have := (hLL h).2.fy v hv hn; omega, (hLL h).2.ne⟩⟩
end Go.Proofs.Ytplnndgdklfnfaa
