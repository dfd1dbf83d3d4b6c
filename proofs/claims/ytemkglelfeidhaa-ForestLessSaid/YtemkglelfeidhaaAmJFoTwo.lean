/- A part of a proof. Its conditions: none. -/
import Derived.Test.YtemkglelfeidhaaAmJFoMore
import Derived.Test.YtemkglelfeidhaaAmD
import Derived.Test.YtemkglelfeidhaaAmJFoPlain
set_option linter.all false
namespace Go.Proofs.Ytemkglelfeidhaa
open Go.AM Go.AM.Fo Go.RowKit
set_option maxRecDepth 100000
theorem vcells_map' (m : Option Nat) : vcells (.map m) = [.map m] := rfl
def z5 : List Value := [.slice none 0 0, .slice none 0 0, .slice none 0 0, .slice none 0 0, .map none]
section
variable (pt pv pr : Option Addr) (g : Gram) (pw : Option Addr) (w : List Int) (m : Nat)
theorem z5_eq : [Value.slice none 0 0, .slice none 0 0, .slice none 0 0, .slice none 0 0, .map none] = z5 := rfl
theorem z5_1 : (AM.splice z5 0 (gcells pt pv pr g)).length = 5 := rfl
theorem z5_0 : z5.length = 5 := rfl
theorem z5_5 (v : Value) : ((AM.splice z5 0 (gcells pt pv pr g)).set 3 v).length = 5 := rfl
theorem z5_6 : ((AM.splice z5 0 (gcells pt pv pr g)).set 3 (.slice pw w.length w.length)).set 4 (.map (some m)) = foC pt pv pr g pw w m := rfl
theorem z5_7 : ((AM.splice z5 0 (gcells pt pv pr g)).set 3 (.slice pw 0 0)).set 4 (.map (some m)) = foC pt pv pr g pw [] m := rfl
theorem lt53 : ((5 : Nat) < 3) = False := by simp
theorem fo_one : (foC pt pv pr g pw w m).all one = true := rfl
theorem fo_cells : vcells (.agg (foC pt pv pr g pw w m).toArray) = foC pt pv pr g pw w m := rfl
theorem big_0 : (bigN < 0) = False := by simp
theorem lt54 : ((5 : Nat) < 4) = False := by simp
theorem lt55 : ((5 : Nat) < 5) = False := by simp
end
structure Made (H : Heap) (N fo m : Nat) (pt pv pr pw : Option Addr) (g : Gram) (w : List Int) (ks : List Nd) (rd : Nd → Nat) : Prop where
  f : FO H fo m pt pv pr pw g w
  mr : MR H m ks rd
  ok : FoOK g w rd
  bd : ∀ x, rd x ≠ 0 → x.1 < 8 ∧ rd x ≤ 2000
  n : N ≤ fo ∧ N ≤ m
theorem Made.mono {n n' N : Nat} {H H' : Heap} {fo m : Nat} {pt pv pr pw : Option Addr} {g : Gram} {w : List Int} {ks : List Nd} {rd : Nd → Nat} (h : Made H N fo m pt pv pr pw g w ks rd) (hw : WF n H) (hk : Kp n H n' H') : Made H' N fo m pt pv pr pw g w ks rd :=
  ⟨h.f.mono hw hk, h.mr.mono hw hk, h.ok, h.bd, h.n⟩
set_option maxHeartbeats 16000000 in
theorem new_gives {pt pv pr q : Option Addr} {g : Gram} {w : List Int} {n0 : Nat} {H0 : Heap} (hw0 : WF n0 H0) (hr : RR H0 pr g.rules) (hq : RS (Value.int .i64) H0 q w) (sg : Sgm g) (hwl : w.length ≤ maxL) :
    GivesD Try.prog 14 [.agg (gcells pt pv pr g).toArray, .slice q w.length w.length] n0 H0 fun v n' H' => (10 < w.length ∧ v = .pointer none) ∨ (w.length ≤ 10 ∧ ∃ (fo m : Nat) (pw : Option Addr) (ks : List Nd) (rd : Nd → Nat), v = .pointer (some ⟨fo, 0, none⟩) ∧ Made H' n0 fo m pt pv pr pw g w ks rd) := by
  refine GivesD.of orders ok14 (Nat.le_of_ble_eq_true rfl) ?_
  repeat (first | apply WKD.seq | apply WKD.block | apply WKD.skipSeq | apply WKD.skipBlock | apply WKD.retSeq | apply WKD.retBlock | apply WKD.exitSeq | apply WKD.exitHere | refine WKD.exitOn rfl ?_)
  (refine WKD.rgn ?_ ?_; kernel_rfl; simp (config := {maxSteps:=999999}) only [SS, qx27, forall_const, yx_nil, yx_true, yx_false, y1_false, y1_true, y2_none, y2_some, y3, simprocAttr, abox, box_cells, box_one, ff_14])
  have k1 := Kp.new n0 H0 (.cells (gcells pt pv pr g) 25 true)
  have hb1 := hset_at H0 n0 (.cells (gcells pt pv pr g) 25 true)
  generalize hset H0 n0 (.cells (gcells pt pv pr g) 25 true) = H1 at *
  have hw1 := k1.wf hw0
  by_cases h10 : (10 : Int) < (w.length : Int)
  · repeat (first | apply WKD.seq | apply WKD.block | apply WKD.skipSeq | apply WKD.skipBlock | apply WKD.retSeq | apply WKD.retBlock | apply WKD.exitSeq | apply WKD.exitHere | refine WKD.exitOn rfl ?_ | ((first | (refine WKD.rgn ?_ ?_; kernel_rfl) | refine AtCallY.now ?_); simp (config := {maxSteps:=999999}) only [SS, qx27, forall_const, yx_nil, yx_true, yx_false, y1_false, y1_true, y2_none, y2_some, y3, simprocAttr, h10, ff_14]) | (refine WKD.condT ?_ ?_; focus (simp only [ev_tmp, ev_const, fset_apply, Nat.reduceEqDiff, ↓reduceIte, decide_true, decide_false, h10, ff_14]; done)) | (refine WKD.condF ?_ ?_; focus (simp only [ev_tmp, ev_const, fset_apply, Nat.reduceEqDiff, ↓reduceIte, decide_true, decide_false, h10, ff_14]; done)))
    (first | refine WKD.retNil ⟨Or.inr rfl, _, rfl, ?_, ?_⟩ | refine WKD.skipNil ⟨Or.inl rfl, _, rfl, ?_, ?_⟩)
    · exact k1.keep
    · simp only [packed, fset_apply, Nat.reduceEqDiff, ↓reduceIte, List.getD_cons_zero, List.getD_cons_succ, ff_14]
      exact .inl ⟨by omega, trivial⟩
  have hl10 : w.length ≤ 10 := by omega
  have hq1 := hq.mono hw0 k1
  repeat (first | apply WKD.seq | apply WKD.block | apply WKD.skipSeq | apply WKD.skipBlock | apply WKD.retSeq | apply WKD.retBlock | apply WKD.exitSeq | apply WKD.exitHere | refine WKD.exitOn rfl ?_)
  (refine WKD.rgn ?_ ?_; kernel_rfl; simp (config := {maxSteps:=999999}) only [SS, qx27, forall_const, yx_nil, yx_true, yx_false, y1_false, y1_true, y2_none, y2_some, y3, simprocAttr, h10, ff_14])
  repeat (first | apply WKD.seq | apply WKD.block | apply WKD.skipSeq | apply WKD.skipBlock | apply WKD.retSeq | apply WKD.retBlock | apply WKD.exitSeq | apply WKD.exitHere | refine WKD.exitOn rfl ?_)
  first | (refine WKD.condT ?_ ?_; focus (simp only [ev_tmp, ev_const, fset_apply, Nat.reduceEqDiff, ↓reduceIte, decide_true, decide_false]; done)) | (refine WKD.condF ?_ ?_; focus (simp only [ev_tmp, ev_const, fset_apply, Nat.reduceEqDiff, ↓reduceIte, decide_true, decide_false]; done))
  repeat (first | apply WKD.seq | apply WKD.block | apply WKD.skipSeq | apply WKD.skipBlock | apply WKD.retSeq | apply WKD.retBlock | apply WKD.exitSeq | apply WKD.exitHere | refine WKD.exitOn rfl ?_)
  refine WKD.cut (fun s => ∃ (pw : Option Addr) (fo m : Nat), FO s.H fo m pt pv pr pw g w ∧ MR s.H m [] (fun _ => 0) ∧ Kp n0 H0 s.n s.H ∧ s.f 5 = .pointer (some ⟨fo, 0, none⟩) ∧ n0 ≤ fo ∧ n0 ≤ m) ?_ ?_
  · have hr1 := hr.mono hw0 k1
    have hw1 := k1.wf hw0
    rcases hq1 with ⟨rfl, hw⟩ | ⟨y, ky, cs, ty, own, rfl, hy, hfit, hat⟩
    · subst hw
      (refine WKD.viaWK ?_; refine WK.rgl [(0, 2)] (by kernel_rfl) ?_; simp (config := {maxSteps:=999999}) only [wl, wl1_false, wl1_true, wl2_none, wl2_some, wl3_some, wl3_none, SS, forall_const, wx, tguard, acallee, top, tval, fput, tor, vsh, vbin, tload, tload2, tload3, tlen2, tlen3, tbox, one, tbuild, afill, Go.AM.splice, tap, tap2, tap3, tap4, tsrc, tsrc2, simprocAttr, hb1, gc_all, gc_len, aop_makemap, amake, und_mn, abox, List.length_nil, big_0, box_cells, box_one, vcells_map', z5_eq, z5_0, z5_1, z5_5, z5_7, fo_one, fo_cells, lt53, lt54, lt55, ff_14])
      refine ⟨light_cons rfl rfl (lapart_rr) light_nil, ?_⟩
      refine WK.skipNil ⟨rfl, WKD.skipNil ⟨rfl, ?_⟩⟩
      have kk := (Kp.new (n0 + 1) H1 (.map [] 0 67)).trans (Kp.new (n0 + 1 + 1) _ (.cells (foC pt pv pr g none [] (n0 + 1)) 64 true))
      refine ⟨none, n0 + 1 + 1, n0 + 1, ⟨hset_at _ _ _, hr1.mono hw1 kk, fun h => absurd rfl h⟩, ⟨(hset_ne _ _ _ (by omega)).trans (hset_at _ _ _), by simp, fun x => ⟨(fun h => by cases h), fun h => absurd rfl h⟩, (fun x h => by cases h)⟩, k1.trans kk, ?_, by omega, by omega⟩
      simp only [packed, fset_apply, Nat.reduceEqDiff, ↓reduceIte, List.getD_cons_zero, List.getD_cons_succ, ff_14]
    · have hcs := RS.cells hfit hat
      have hb0 : (bigN < w.length) = False := by simp only [eq_iff_iff, iff_false]; unfold bigN; omega
      have hky : ky ≤ cs.length := by omega
      by_cases hw : w = []
      · subst hw
        (refine WKD.viaWK ?_; refine WK.rgl [(0, 2)] (by kernel_rfl) ?_; simp (config := {maxSteps:=999999}) only [wl, wl1_false, wl1_true, wl2_none, wl2_some, wl3_some, wl3_none, SS, forall_const, wx, tguard, acallee, top, tval, fput, tor, vsh, vbin, tload, tload2, tload3, tlen2, tlen3, tbox, one, tbuild, afill, Go.AM.splice, tap, tap2, tap3, tap4, tsrc, tsrc2, simprocAttr, hb1, gc_all, gc_len, aop_makemap, amake, und_mn, abox, List.length_nil, big_0, box_cells, box_one, vcells_map', z5_eq, z5_0, z5_1, z5_5, z5_7, fo_one, fo_cells, lt53, lt54, lt55, hy, hky, ff_14])
        refine ⟨light_cons rfl rfl (lapart_rr) light_nil, ?_⟩
        refine WK.skipNil ⟨rfl, WKD.skipNil ⟨rfl, ?_⟩⟩
        have kk := (Kp.new (n0 + 1) H1 (.map [] 0 67)).trans (Kp.new (n0 + 1 + 1) _ (.cells (foC pt pv pr g none [] (n0 + 1)) 64 true))
        refine ⟨none, n0 + 1 + 1, n0 + 1, ⟨hset_at _ _ _, hr1.mono hw1 kk, fun h => absurd rfl h⟩, ⟨(hset_ne _ _ _ (by omega)).trans (hset_at _ _ _), by simp, fun x => ⟨(fun h => by cases h), fun h => absurd rfl h⟩, (fun x h => by cases h)⟩, k1.trans kk, ?_, by omega, by omega⟩
        simp only [packed, fset_apply, Nat.reduceEqDiff, ↓reduceIte, List.getD_cons_zero, List.getD_cons_succ, ff_14]
      · have hw0' : (w.length = 0) = False := by simp [hw]
        (refine WKD.viaWK ?_; refine WK.rgl [(0, 2)] (by kernel_rfl) ?_; simp (config := {maxSteps:=999999}) only [wl, wl1_false, wl1_true, wl2_none, wl2_some, wl3_some, wl3_none, SS, forall_const, wx, tguard, acallee, top, tval, fput, tor, vsh, vbin, tload, tload2, tload3, tlen2, tlen3, tbox, one, tbuild, afill, Go.AM.splice, tap, tap2, tap3, tap4, tsrc, tsrc2, simprocAttr, hb1, gc_all, gc_len, aop_makemap, amake, und_mn, abox, List.length_nil, big_0, hb0, hw0', hcs, hfit, box_cells, box_one, vcells_map', z5_eq, z5_0, z5_1, z5_5, z5_6, fo_one, fo_cells, lt53, lt54, lt55, hy, hky, ff_14])
        refine ⟨light_cons rfl rfl (lapart_rr) light_nil, ?_⟩
        refine WK.skipNil ⟨rfl, WKD.skipNil ⟨rfl, ?_⟩⟩
        have kk := ((Kp.new (n0 + 1) H1 (.cells (w.map (Value.int .i64)) 3 true)).trans (Kp.new (n0 + 1 + 1) _ (.map [] 0 67))).trans (Kp.new (n0 + 1 + 1 + 1) _ (.cells (foC pt pv pr g (some ⟨n0 + 1, 0, none⟩) w (n0 + 1 + 1)) 64 true))
        refine ⟨some ⟨n0 + 1, 0, none⟩, n0 + 1 + 1 + 1, n0 + 1 + 1, ⟨hset_at _ _ _, hr1.mono hw1 kk, fun _ => ⟨n0 + 1, 0, _, 3, true, rfl, (hset_ne _ _ _ (by omega)).trans ((hset_ne _ _ _ (by omega)).trans (hset_at _ _ _)), fun i y e => by rw [Nat.zero_add, List.getElem?_map, e]; rfl⟩⟩, ⟨(hset_ne _ _ _ (by omega)).trans (hset_at _ _ _), by simp, fun x => ⟨(fun h => by cases h), fun h => absurd rfl h⟩, (fun x h => by cases h)⟩, k1.trans kk, ?_, by omega, by omega⟩
        simp only [packed, fset_apply, Nat.reduceEqDiff, ↓reduceIte, List.getD_cons_zero, List.getD_cons_succ, ff_14]
  rintro ⟨f, n2, H2⟩ ⟨pw, fo, m, hf, hm, k2, f5, hfn, hmn⟩
  simp only at hf hm k2 f5
  repeat (first | apply WKD.seq | apply WKD.block | apply WKD.skipSeq | apply WKD.skipBlock | apply WKD.retSeq | apply WKD.retBlock | apply WKD.exitSeq | apply WKD.exitHere | refine WKD.exitOn rfl ?_ | ((first | (refine WKD.rgn ?_ ?_; kernel_rfl) | refine AtCallY.now ?_); simp (config := {maxSteps:=999999}) only [SS, qx27, forall_const, yx_nil, yx_true, yx_false, y1_false, y1_true, y2_none, y2_some, y3, simprocAttr, f5, ff_14]) | (refine WKD.condT ?_ ?_; focus (simp only [ev_tmp, ev_const, fset_apply, Nat.reduceEqDiff, ↓reduceIte, decide_true, decide_false, f5, ff_14]; done)) | (refine WKD.condF ?_ ?_; focus (simp only [ev_tmp, ev_const, fset_apply, Nat.reduceEqDiff, ↓reduceIte, decide_true, decide_false, f5, ff_14]; done)))
  have nb : ∀ (ks : List Nd) (rd : Nd → Nat) (r : Nat) (H : Heap), MR H m ks rd → RI g w r rd → ks.length ≤ 968 := fun ks rd r H h1 h2 => by
    have := nodes_len (k := 8) (L := 10) h1.nd fun x hx => by
      obtain ⟨v0, v1, v2, v3, _⟩ := h2.val x ((h1.mem x).1 hx)
      have := sg.vars
      exact ⟨v0, by omega, by omega, by omega⟩
    omega
  refine WKD.loop (fun kk s => ∃ (r : Nat) (ks : List Nd) (rd : Nd → Nat) (b : Bool), FO s.H fo m pt pv pr pw g w ∧ MR s.H m ks rd ∧ Kp n0 H0 s.n s.H ∧ RI g w r rd ∧ 0 < r ∧ r ≤ ks.length + 2 ∧ (b = true → r ≤ ks.length + 1) ∧ (b = false → ∀ x, rd x = 0 → ¬ Fnd g w rd x) ∧
    s.f 5 = .pointer (some ⟨fo, 0, none⟩) ∧ s.f 6 = .int .i64 (r : Nat) ∧ s.f 7 = .bool b ∧ kk = 2 * (968 - ks.length) + (if b then 1 else 0)) (2 * 968 + 1) ?_ ?_
  · exact ⟨1, [], fun _ => 0, true, hf, hm, k2, RI.start g w, by omega, by omega, (fun _ => by simp), (fun h => by cases h), f5, rfl, rfl, rfl⟩
  clear hf hm k2 f5
  rintro kk ⟨f, n3, H3⟩ ⟨r, ks, rd, b, hf, hm, k3, ri, hr0, hr1, hr2, hno, f5, f6, f7, rfl⟩ ih
  simp only at hf hm k3 f5 f6 f7 ih
  have hw3 := k3.wf hw0
  have hks := nb ks rd r H3 hm ri
  have hle3 := k3.le
  cases b with
  | false =>
    repeat (first | apply WKD.seq | apply WKD.block | apply WKD.skipSeq | apply WKD.skipBlock | apply WKD.retSeq | apply WKD.retBlock | apply WKD.exitSeq | apply WKD.exitHere | refine WKD.exitOn rfl ?_ | ((first | (refine WKD.rgn ?_ ?_; kernel_rfl) | refine AtCallY.now ?_); simp (config := {maxSteps:=999999}) only [SS, qx27, forall_const, yx_nil, yx_true, yx_false, y1_false, y1_true, y2_none, y2_some, y3, simprocAttr, f5, f7, ff_14]) | (refine WKD.condT ?_ ?_; focus (simp only [ev_tmp, ev_const, fset_apply, Nat.reduceEqDiff, ↓reduceIte, decide_true, decide_false, f5, f7, ff_14]; done)) | (refine WKD.condF ?_ ?_; focus (simp only [ev_tmp, ev_const, fset_apply, Nat.reduceEqDiff, ↓reduceIte, decide_true, decide_false, f5, f7, ff_14]; done)))
    (first | refine WKD.retNil ⟨Or.inr rfl, _, rfl, ?_, ?_⟩ | refine WKD.skipNil ⟨Or.inl rfl, _, rfl, ?_, ?_⟩)
    · exact k3.keep
    · simp only [packed, fset_apply, Nat.reduceEqDiff, ↓reduceIte, List.getD_cons_zero, List.getD_cons_succ, ff_14]
      refine .inr ⟨hl10, fo, m, pw, ks, rd, ?_, hf, hm, ri.over (hno rfl), fun x hx => ?_, hfn, hmn⟩
      · rfl
      · obtain ⟨v0, v1, v2, v3, v4⟩ := ri.val x hx
        have := sg.vars
        omega
  | true =>
    have hwr : IntKind.i64.wrap ((r : Int) + 1) = ((r + 1 : Nat) : Int) := by rw [wrap_in (by omega) (by omega)]; rfl
    repeat (first | apply WKD.seq | apply WKD.block | apply WKD.skipSeq | apply WKD.skipBlock | apply WKD.retSeq | apply WKD.retBlock | apply WKD.exitSeq | apply WKD.exitHere | refine WKD.exitOn rfl ?_ | ((first | (refine WKD.rgn ?_ ?_; kernel_rfl) | refine AtCallY.now ?_); simp (config := {maxSteps:=999999}) only [SS, qx27, forall_const, yx_nil, yx_true, yx_false, y1_false, y1_true, y2_none, y2_some, y3, simprocAttr, f5, f6, f7, ff_14]) | (refine WKD.condT ?_ ?_; focus (simp only [ev_tmp, ev_const, fset_apply, Nat.reduceEqDiff, ↓reduceIte, decide_true, decide_false, f5, f6, f7, ff_14]; done)) | (refine WKD.condF ?_ ?_; focus (simp only [ev_tmp, ev_const, fset_apply, Nat.reduceEqDiff, ↓reduceIte, decide_true, decide_false, f5, f6, f7, ff_14]; done)))
    refine AtCallY.byXD (more_gives hw3 hf hm hl10 sg hr0 (by omega)) ?_
    rintro v n4 H4 k4 ⟨ks', rd', b, rfl, hf4, hm4, h1, h2, hsub, h3, h4⟩
    have hw4 := k4.wf hw3
    simp (config := {maxSteps:=999999}) only [SS, qx27, forall_const, yx_nil, yx_true, yx_false, y1_false, y1_true, y2_none, y2_some, y3, simprocAttr, ff_14]
    repeat (first | apply WKD.seq | apply WKD.block | apply WKD.skipSeq | apply WKD.skipBlock | apply WKD.retSeq | apply WKD.retBlock | apply WKD.exitSeq | apply WKD.exitHere | refine WKD.exitOn rfl ?_ | ((first | (refine WKD.rgn ?_ ?_; kernel_rfl) | refine AtCallY.now ?_); simp (config := {maxSteps:=999999}) only [SS, qx27, forall_const, yx_nil, yx_true, yx_false, y1_false, y1_true, y2_none, y2_some, y3, simprocAttr, f6, hwr, ff_14]) | (refine WKD.condT ?_ ?_; focus (simp only [ev_tmp, ev_const, fset_apply, Nat.reduceEqDiff, ↓reduceIte, decide_true, decide_false, f6, hwr, ff_14]; done)) | (refine WKD.condF ?_ ?_; focus (simp only [ev_tmp, ev_const, fset_apply, Nat.reduceEqDiff, ↓reduceIte, decide_true, decide_false, f6, hwr, ff_14]; done)))
    have k04 : Kp n0 H0 n4 H4 := ((k3.kx (X := fun z => z = m)).trans k4).kp fun z hz e => by omega
    have ri' := ri.step (rd' := rd') sg.ing hr0 h1 fun x hx h => ⟨(h2 x hx).2 h, (h2 x hx).1.1 h⟩
    have hks' := nb ks' rd' (r + 1) H4 hm4 ri'
    have hr2' := hr2 rfl
    refine ih (2 * (968 - ks'.length) + (if b then 1 else 0)) (by cases b with
      | true => have := h3 rfl; simp; omega
      | false => simp; omega) _ ?_
    refine ⟨r + 1, ks', rd', b, hf4, hm4, k04, ri', by omega, by omega, (fun hb => by subst hb; have := h3 rfl; omega), fun hb x hx hF => ?_, f5, ?_, ?_, rfl⟩
    · have e : rd' = rd := by
        funext y
        by_cases hy : rd y = 0
        · rw [hy]
          exact Classical.byContradiction fun hn => h4 hb y hy ((h2 y hy).1.1 hn)
        · exact h1 y hy
      subst e
      exact h4 hb x hx hF
    · simp only [packed, fset_apply, Nat.reduceEqDiff, ↓reduceIte, List.getD_cons_zero, List.getD_cons_succ, ff_14]
    · simp only [packed, fset_apply, Nat.reduceEqDiff, ↓reduceIte, List.getD_cons_zero, List.getD_cons_succ, ff_14]
end Go.Proofs.Ytemkglelfeidhaa

namespace Go.Proofs.Ytemkglelfeidhaa
open Go.AM Go.AM.Fo Go.RowKit
set_option maxRecDepth 100000
theorem pt_cells (a : Option Addr) : vcells (.pointer a) = [.pointer a] := rfl
def plI (g : Gram) (w : List Int) (rd : Nd → Nat) (x : Nd) (o : Nat) (vs : List Fo.Way) (y n1 : Nat) (H1 : Heap) : Prop := y = o ∧ o < n1 ∧
  match vs.getLast? with
  | none => H1 o = .cells [.slice none 0 0] 26 true
  | some y0 => ∃ v, H1 o = .cells [v] 26 true ∧ FI H1 o v (byL g w rd x y0 (-1) [])
theorem FI.mono {n n' N : Nat} {H H' : Heap} {v : Value} {l : List Int} (h : FI H N v l) (hw : WF n H) (k : Kp n H n' H') : FI H' N v l := by
  obtain ⟨z, h1, h2, h3⟩ := h
  exact ⟨z, h1, h2, (k.keep z (live_m hw (by rw [h3]; intro e; cases e))).trans h3⟩
theorem plI.mono {g : Gram} {w : List Int} {rd : Nd → Nat} {x : Nd} {o : Nat} {vs : List Fo.Way} {y n n' : Nat} {H H' : Heap} (h : plI g w rd x o vs y n H) (hw : WF n H) (k : Kp n H n' H') : plI g w rd x o vs y n' H' := by
  obtain ⟨h1, h2, h3⟩ := h
  refine ⟨h1, Nat.lt_of_lt_of_le h2 k.le, ?_⟩
  cases hv : vs.getLast? with
  | none =>
    rw [hv] at h3
    exact (k.keep o h2).trans h3
  | some y0 =>
    rw [hv] at h3
    obtain ⟨v, h4, h5⟩ := h3
    exact ⟨v, (k.keep o h2).trans h4, h5.mono hw k⟩
theorem by_small {g : Gram} {w : List Int} {rd : Nd → Nat} (fo : FoOK g w rd) (sg : Sgm g) (hwl : w.length ≤ 10) {x : Nd} {y : Fo.Way} (h0 : rd x ≠ 0) (hy : y ∈ waysL g w rd 0 x) : (byL g w rd x y (-1) []).length ≤ bigN := by
  have h := fo.by_len sg.ing (sg.sml hwl) hy
  obtain ⟨v1, v2, v3⟩ := fo.val x h0
  unfold vM vC at h
  unfold bigN
  omega
theorem ways_weak {g : Gram} {w : List Int} {rd : Nd → Nat} {ah : Nat} {x : Nd} {y : Fo.Way} (h : y ∈ waysL g w rd ah x) : y ∈ waysL g w rd 0 x := by
  have hm := mem_ways.1 h
  exact mem_ways.2 ⟨hm.1, hm.2.1, hm.2.2.weak⟩
section
variable {fo m n0 N0 : Nat} {pt pv pr pw : Option Addr} {g : Gram} {w : List Int} {ks : List Nd} {rd : Nd → Nat} {H0 : Heap}
set_option maxHeartbeats 16000000 in
theorem plain1_doc (hw0 : WF n0 H0) (md : Made H0 N0 fo m pt pv pr pw g w ks rd) (hwl : w.length ≤ 10) (sg : Sgm g) {x : Nd} (h0 : rd x ≠ 0)
    (ih : ∀ z, rd z < rd x → rd z ≠ 0 → ∀ n H, Kp n0 H0 n H → Gives Try.prog 36 [.pointer (some ⟨fo, 0, none⟩), ndV z] n H fun v n2 H2 => FI H2 n v (pl g w rd z))
    {n : Nat} {H : Heap} (hk : Kp n0 H0 n H) {H2 : Heap} (k2 : Kp n H (n + 1 + 1) H2) (hbf : H2 n = .cells [.pointer (some ⟨fo, 0, none⟩)] 40 true) (hbx : H2 (n + 1) = .cells (ndC x) 67 true) :
    DoC (n + 1 + 1) H2 57 [.pointer (some ⟨n, 0, none⟩), .pointer (some ⟨n + 1, 0, none⟩), .pointer (some ⟨n + 1 + 1, 0, none⟩)] (n + 1 + 1) (plI g w rd x (n + 1 + 1)) (fun _ => false) (fun y => y ∈ waysL g w rd (rd x) x) := by
  refine ⟨fun vs y n H n' H' h hw k => h.mono hw k, fun vs y n1 H1 h => ⟨Nat.le_refl _, h.2.1, by rw [h.1]; exact Nat.le_refl _, by rw [h.1]; exact h.2.1⟩, ?_⟩
  intro vs y n1 H1 yw p hw1 hbase hN hI _ hgood hp hpb
  obtain ⟨rfl, hon, hIo⟩ := hI
  refine GivesX.of orders ok57 (Nat.le_of_ble_eq_true rfl) ?_
  have kx := Kp.new n1 H1 (.cells (wyC p yw) 82 true)
  have q1 : ∀ ob, hset H1 n1 ob n = H1 n := fun ob => hset_ne _ _ _ (by omega)
  have q2 : ∀ ob, hset H1 n1 ob (n + 1) = H1 (n + 1) := fun ob => hset_ne _ _ _ (by omega)
  have b1 := (hbase n (by omega)).trans hbf
  have b2 := (hbase (n + 1) (by omega)).trans hbx
  have kb : Kp (n + 1 + 1) H2 n1 H1 := ⟨hN, hbase, fun _ => hw1⟩
  have hw := hk.wf hw0
  have kn := hk.trans (k2.trans kb)
  have hm := mem_ways.1 hgood
  have hyl := Seg.len hm.2.2
  repeat (first | refine qqn rfl ?_ | ((first | (refine WK.rgn ?_ ?_; kernel_rfl) | refine AtCall.now ?_); simp (config := {maxSteps:=999999}) only [SS, qg0, qgl, qgs, forall_const, Go.AM.splice, one, tbox, simprocAttr, q1, q2, b1, b2, wy_cells, wy_one, wy_all, wy_len, ndC_all, ndC_len, hset_at, ff_57]) | refine qqj rfl ?_ | refine qqk rfl ?_)
  have hcell : ∃ c, H1 (n + 1 + 1) = .cells [c] 26 true := by
    cases hv : vs.getLast? with
    | none => rw [hv] at hIo; exact ⟨_, hIo⟩
    | some y0 =>
      rw [hv] at hIo
      obtain ⟨v, h4, _⟩ := hIo
      exact ⟨v, h4⟩
  obtain ⟨c, hc⟩ := hcell
  have kx' := kn.trans kx
  have hby := by_gives (x := x) (wh := -1) (ov := .slice none 0 0) (own := []) (kx.wf hw1) (md.f.mono hw0 kx') sg hm.1 hyl (hp.mono hw1 kx) (.inl (by omega)) (fun i z hz hi hz0 n' H' k' => by
    obtain ⟨_, _, _, q⟩ := Seg.kid hm.2.2 i z hz
    rcases q with ⟨_, _, q1, q2⟩ | ⟨q, _⟩
    · exact ih z (by omega) (by omega) n' H' (kx'.trans k')
    · omega) (by_small md.ok sg hwl h0 (ways_weak hgood))
  refine AtCall.by hby ?_
  rintro v n3 H3 k3 ⟨z, rfl, hz0, hz⟩
  have hle3 := k3.le
  have hc3 := (k3.keep (n + 1 + 1) (by omega)).trans ((kx.keep (n + 1 + 1) hon).trans hc)
  simp (config := {maxSteps:=999999}) only [SS, qg0, qgl, qgs, forall_const, Go.AM.splice, one, tbox, simprocAttr, hc3, ff_57]
  repeat (first | refine qqn rfl ?_ | ((first | (refine WK.rgn ?_ ?_; kernel_rfl) | refine AtCall.now ?_); simp (config := {maxSteps:=999999}) only [SS, qg0, qgl, qgs, forall_const, Go.AM.splice, one, tbox, simprocAttr, ff_57]) | refine qqj rfl ?_ | refine qqk rfl ?_)
  (first | refine WK.retNil ⟨Or.inr rfl, _, rfl, ?_, ?_⟩ | refine WK.skipNil ⟨Or.inl rfl, _, rfl, ?_, ?_⟩)
  · intro q hq hX
    exact (hset_ne _ _ _ (by omega)).trans ((k3.keep q (by omega)).trans (kx.keep q hq))
  · simp only [packed, fset_apply, Nat.reduceEqDiff, ↓reduceIte, List.getD_cons_zero, List.getD_cons_succ, ff_57]
    refine ⟨n + 1 + 1, .inl rfl, ⟨rfl, by omega, ?_⟩, trivial⟩
    rw [List.getLast?_append, List.getLast?_singleton]
    exact ⟨_, hset_at _ _ _, z, rfl, by omega, (hset_ne _ _ _ (by omega)).trans hz⟩
set_option maxHeartbeats 16000000 in
theorem plain_gives (hw0 : WF n0 H0) (md : Made H0 N0 fo m pt pv pr pw g w ks rd) (hwl : w.length ≤ 10) (sg : Sgm g) :
    ∀ (k : Nat) (x : Nd), rd x ≤ k → rd x ≠ 0 → ∀ n H, Kp n0 H0 n H → Gives Try.prog 36 [.pointer (some ⟨fo, 0, none⟩), ndV x] n H fun v n2 H2 => FI H2 n v (pl g w rd x) := by
  intro k
  induction k with
  | zero => intro x h h0; omega
  | succ k ihk =>
    intro x hxk h0 n H hk
    refine Gives.of orders ok36 (Nat.le_of_ble_eq_true rfl) ?_
    have hw := hk.wf hw0
    have hfo := (md.f.mono hw0 hk).f
    have hfn := live_m hw (z := fo) (by rw [hfo]; intro e; cases e)
    have hmr := md.mr.mono hw0 hk
    have hmn := live_m hw (z := m) (by rw [hmr.m]; intro e; cases e)
    have hsx := hmr.sm x ((hmr.mem x).2 h0)
    have k1 := Kp.new n H (.cells [.pointer (some ⟨fo, 0, none⟩)] 40 true)
    have k2 := k1.trans (Kp.new (n + 1) (hset H n (.cells [.pointer (some ⟨fo, 0, none⟩)] 40 true)) (.cells (ndC x) 67 true))
    have b1 : hset (hset H n (.cells [.pointer (some ⟨fo, 0, none⟩)] 40 true)) (n + 1) (.cells (ndC x) 67 true) n = .cells [.pointer (some ⟨fo, 0, none⟩)] 40 true := (hset_ne _ _ _ (by omega)).trans (hset_at _ _ _)
    have b2 := hset_at (hset H n (.cells [.pointer (some ⟨fo, 0, none⟩)] 40 true)) (n + 1) (.cells (ndC x) 67 true)
    repeat (first | refine qqn rfl ?_)
    (refine WK.rgn ?_ ?_; kernel_rfl; simp (config := {maxSteps:=999999}) only [SS, qx37, forall_const, simprocAttr, abox, ndC_cells, ndC_one, pt_cells, ndV, ff_36])
    generalize hset (hset H n (.cells [.pointer (some ⟨fo, 0, none⟩)] 40 true)) (n + 1) (.cells (ndC x) 67 true) = H2 at *
    have hw2 := k2.wf hw
    have kq := Kp.new (n + 1 + 1) H2 (.cells [.slice none 0 0] 26 true)
    have b13 := (kq.keep n (by omega)).trans b1
    have b23 := (kq.keep (n + 1) (by omega)).trans b2
    have bo := hset_at H2 (n + 1 + 1) (.cells [.slice none 0 0] 26 true)
    repeat (first | refine qqn rfl ?_)
    (refine WK.rgn ?_ ?_; kernel_rfl; simp (config := {maxSteps:=999999}) only [SS, qx37, forall_const, simprocAttr, ff_36])
    repeat (first | refine qqn rfl ?_)
    generalize hset H2 (n + 1 + 1) (.cells [.slice none 0 0] 26 true) = H3 at *
    have hw3 := kq.wf hw2
    have hfo3 := ((k2.trans kq).keep fo hfn).trans hfo
    have hlk := (hmr.mono hw (k2.trans kq)).look hsx
    have e6 : ndV x = .agg (ndC x).toArray := rfl
    rw [e6] at hlk
    (refine WK.rgs [true, true, true, true, true, true, true, true, true, false] (by kernel_rfl) (by kernel_rfl) ?_; simp (config := {maxSteps:=999999}) only [wz, SS, forall_const, wx, tguard, acallee, top, tval, fput, tload, tload2, tload3, tfa, tfa2, tbox, one, talloc, still, still1, flat1, simprocAttr, b13, b23, hfo3, fo_4, aop_nc, tnc, aop_look, hlk, ndC_all, ndC_len, ff_36])
    obtain ⟨v1, v2, v3⟩ := md.ok.val x h0
    obtain ⟨yw, hyw⟩ := md.ok.sound x h0
    have dc := plain1_doc hw0 md hwl sg h0 (fun z h1 h2 => ihk z (by omega) h2) hk k2 b1 b2
    have hcall := ways_gives hw2 (md.f.mono hw0 (hk.trans k2)) (md.mr.mono hw0 (hk.trans k2)) hwl sg dc v2 v3 (ah := rd x) (by have := (md.bd x h0).2; omega) (vs := []) (y := n + 1 + 1) hw3 kq.le (fun z hz => kq.keep z hz) ⟨rfl, by omega, bo⟩ (.inr rfl) (fun v hv => hv)
    refine AtCall.byX hcall ?_
    rintro v n4 H4 k4 ⟨y', _, hI⟩
    obtain ⟨y1, ys, hL⟩ : ∃ y1 ys, waysL g w rd (rd x) x = y1 :: ys := by
      cases hL : waysL g w rd (rd x) x with
      | nil => rw [hL] at hyw; cases hyw
      | cons y1 ys => exact ⟨_, _, rfl⟩
    rw [hL] at hI
    obtain ⟨_, _, v', hv', hil⟩ : y' = n + 1 + 1 ∧ n + 1 + 1 < n4 ∧ ∃ v, H4 (n + 1 + 1) = .cells [v] 26 true ∧ FI H4 (n + 1 + 1) v (byL g w rd x y1 (-1) []) := hI
    rw [← pl_eq h0 hL] at hil
    simp (config := {maxSteps:=999999}) only [SS, qx37, forall_const, simprocAttr, wz, ff_36]
    repeat (first | refine qqn rfl ?_ | ((first | (refine WK.rgn ?_ ?_; kernel_rfl) | refine AtCall.now ?_); simp (config := {maxSteps:=999999}) only [SS, qx37, forall_const, simprocAttr, hv', ff_36]) | refine qqj rfl ?_ | refine qqk rfl ?_)
    (first | refine WK.retNil ⟨Or.inr rfl, _, rfl, ?_, ?_⟩ | refine WK.skipNil ⟨Or.inl rfl, _, rfl, ?_, ?_⟩)
    · intro q hq
      exact (k4.keep q (by omega) (by omega)).trans ((kq.keep q (by omega)).trans (k2.keep q hq))
    · simp only [packed, fset_apply, Nat.reduceEqDiff, ↓reduceIte, List.getD_cons_zero, List.getD_cons_succ, ff_36]
      exact hil.weak (by omega)
end
end Go.Proofs.Ytemkglelfeidhaa

namespace Go.Proofs.Ytemkglelfeidhaa
open Go.AM Go.AM.Fo Go.RowKit
set_option maxRecDepth 100000
def WL (H : Heap) (N : Nat) (v : Value) (vs : List Fo.Way) : Prop := (vs = [] ∧ v = .slice none 0 0) ∨ ∃ (z : Nat) (qs : List (Option Addr × Fo.Way)), qs.map (·.2) = vs ∧ vs ≠ [] ∧ v = .slice (some ⟨z, 0, none⟩) vs.length vs.length ∧ N ≤ z ∧ H z = .cells (qs.flatMap fun q => wyC q.1 q.2) 82 true ∧ ∀ q ∈ qs, RS (fun c : Nat => Value.int .i64 (c : Int)) H q.1 q.2.2
def wyI (o : Nat) (vs : List Fo.Way) (y n1 : Nat) (H1 : Heap) : Prop := o ≤ y ∧ o < n1 ∧ y < n1 ∧
  ((vs = [] ∧ y = o ∧ H1 o = .cells [.slice none 0 0] 77 true) ∨
   ∃ (qs : List (Option Addr × Fo.Way)), qs.map (·.2) = vs ∧ vs ≠ [] ∧ y ≠ o ∧ H1 o = .cells [.slice (some ⟨y, 0, none⟩) vs.length vs.length] 77 true ∧ H1 y = .cells (qs.flatMap fun q => wyC q.1 q.2) 82 true ∧ ∀ q ∈ qs, RS (fun c : Nat => Value.int .i64 (c : Int)) H1 q.1 q.2.2 ∧ ∀ b, q.1 = some b → b.block < n1 ∧ b.block ≠ o ∧ b.block ≠ y)
theorem wyI.mono {o : Nat} {vs : List Fo.Way} {y n n' : Nat} {H H' : Heap} (h : wyI o vs y n H) (hw : WF n H) (k : Kp n H n' H') : wyI o vs y n' H' := by
  obtain ⟨h1, h2, h3, h4⟩ := h
  have hle := k.le
  refine ⟨h1, by omega, by omega, ?_⟩
  rcases h4 with ⟨e1, e2, e3⟩ | ⟨qs, e1, e2, e3, e4, e5, e6⟩
  · exact .inl ⟨e1, e2, (k.keep o h2).trans e3⟩
  · exact .inr ⟨qs, e1, e2, e3, (k.keep o h2).trans e4, (k.keep y h3).trans e5, fun q hq => ⟨(e6 q hq).1.mono hw k, fun b hb => by obtain ⟨q1, q2, q3⟩ := (e6 q hq).2 b hb; exact ⟨by omega, q2, q3⟩⟩⟩
theorem wys_len (qs : List (Option Addr × Fo.Way)) : (qs.flatMap fun q => wyC q.1 q.2).length = qs.length * 2 := by
  induction qs with
  | nil => rfl
  | cons x l ih => rw [List.flatMap_cons, List.length_append, ih, wy_len, List.length_cons]; omega
theorem visit_take (l : List Fo.Way) : (visit (fun vs => decide (vs.length < 2)) [] l).1 = l.take 2 := by
  cases l with
  | nil => rfl
  | cons a l =>
    cases l with
    | nil => rfl
    | cons b l => rfl
section
variable {fo m n0 N0 : Nat} {pt pv pr pw : Option Addr} {g : Gram} {w : List Int} {ks : List Nd} {rd : Nd → Nat} {H0 : Heap}
set_option maxHeartbeats 16000000 in
theorem first1_doc {N : Nat} {H2 : Heap} :
    DoC N H2 67 [.pointer (some ⟨N, 0, none⟩)] N (wyI N) (fun vs => decide (vs.length < 2)) (fun _ => True) := by
  refine ⟨fun vs y n H n' H' h hw k => h.mono hw k, fun vs y n1 H1 h => ⟨Nat.le_refl _, h.2.1, h.1, h.2.2.1⟩, ?_⟩
  intro vs y n1 H1 yw p hw1 hbase hN hI hok _ hp hpb
  have hvl : vs.length ≤ 1 := by
    rcases hok with h | h
    · have : vs.length < 2 := by simpa using h
      omega
    · rw [h]; simp
  obtain ⟨hoy, hon, hyn, hI⟩ := hI
  refine GivesX.of orders ok67 (Nat.le_of_ble_eq_true rfl) ?_
  have kx := Kp.new n1 H1 (.cells (wyC p yw) 82 true)
  have q1 : ∀ (H : Heap) ob, hset H n1 ob N = H N := fun H ob => hset_ne _ _ _ (by omega)
  have q2 : ∀ (H : Heap) ob, hset H (n1 + 1) ob N = H N := fun H ob => hset_ne _ _ _ (by omega)
  have q3 : ∀ (H : Heap) ob, hset H (n1 + 1 + 1) ob N = H N := fun H ob => hset_ne _ _ _ (by omega)
  have hb1 : (bigN < 1) = False := by simp [bigN]
  have h10 : ((1 : Nat) = 0) = False := by simp
  have spw : AM.splice [Value.int IntKind.i64 (Int.ofNat 0), Value.slice none 0 0] 0 (wyC p yw) = wyC p yw := rfl
  have tw : List.take 2 (wyC p yw) = wyC p yw := rfl
  rcases hI with ⟨rfl, rfl, ho⟩ | ⟨qs, hqv, hne, hyo, ho, hy, hqs⟩
  · repeat (first | refine qqn rfl ?_ | ((first | (refine WK.rgn ?_ ?_; kernel_rfl) | refine AtCall.now ?_); simp (config := {maxSteps:=999999}) only [SS, qg0, qgb, qgl, qgs, qgz, qge, forall_const, tor, Go.AM.splice, one, tlen2, tlen3, tbox, Int.reduceEq, Int.reduceNeg, Nat.reduceGT, Nat.reduceLT, Nat.reduceLeDiff, Nat.reduceEqDiff, ↓reduceIte, reduceCtorEq, Int.reduceToNat, Int.reduceLE, Int.reduceLT, Nat.reduceAdd, Nat.reduceMul, q1, q2, q3, ho, wy_cells, wy_one, wy_all, wy_len, hset_at, hb1, h10, spw, tw, ff_67]) | refine qqj rfl ?_ | refine qqk rfl ?_)
    (first | refine WK.retNil ⟨Or.inr rfl, _, rfl, ?_, ?_⟩ | refine WK.skipNil ⟨Or.inl rfl, _, rfl, ?_, ?_⟩)
    · intro q hq hX
      exact (hset_ne _ _ _ (by omega)).trans ((hset_ne _ _ _ (by omega)).trans ((hset_ne _ _ _ (by omega)).trans (hset_ne _ _ _ (by omega))))
    · simp only [packed, fset_apply, Nat.reduceEqDiff, ↓reduceIte, List.getD_cons_zero, List.getD_cons_succ, ff_67]
      refine ⟨n1 + 1 + 1, by omega, ⟨by omega, by omega, by omega, .inr ⟨[(p, yw)], rfl, by simp, by omega, hset_at _ _ _, (hset_ne _ _ _ (by omega)).trans (hset_at _ _ _), fun q hq => ?_⟩⟩, rfl⟩
      obtain rfl : q = (p, yw) := by simpa using hq
      refine ⟨RS.keep hp fun b hb => ?_, fun b hb => ?_⟩
      · obtain ⟨e1, e2, e3⟩ := hpb b hb
        exact (hset_ne _ _ _ (by omega)).trans ((hset_ne _ _ _ (by omega)).trans ((hset_ne _ _ _ (by omega)).trans (hset_ne _ _ _ (by omega))))
      · obtain ⟨e1, e2, e3⟩ := hpb b hb
        exact ⟨by omega, e2, by omega⟩
  · have hv1 : vs.length = 1 := by have := List.length_pos_iff.2 hne; omega
    have hql : qs.length = 1 := by rw [← hqv, List.length_map] at hv1; exact hv1
    have hC2 : (qs.flatMap fun q => wyC q.1 q.2).length = 2 := by rw [wys_len]; omega
    have hCt : (qs.flatMap fun q => wyC q.1 q.2).take 2 = qs.flatMap fun q => wyC q.1 q.2 := List.take_of_length_le (by omega)
    rw [hv1] at ho
    have hCe : (qs ++ [(p, yw)]).flatMap (fun q => wyC q.1 q.2) = (qs.flatMap fun q => wyC q.1 q.2) ++ wyC p yw := by rw [List.flatMap_append]; simp
    generalize hCg : (qs.flatMap fun q => wyC q.1 q.2) = C at *
    have q4 : ∀ (H : Heap) ob, hset H n1 ob y = H y := fun H ob => hset_ne _ _ _ (by omega)
    have q5 : ∀ (H : Heap) ob, hset H (n1 + 1) ob y = H y := fun H ob => hset_ne _ _ _ (by omega)
    have q6 : ∀ (H : Heap) ob, hset H y ob N = H N := fun H ob => hset_ne _ _ _ (by omega)
    have hct : [n1 + 1].contains y = false := by simp; omega
    have hb2 : 2 ≤ bigN := by unfold bigN; omega
    repeat (first | refine qqn rfl ?_ | ((first | (refine WK.rgn ?_ ?_; kernel_rfl) | refine AtCall.now ?_); simp (config := {maxSteps:=999999}) only [SS, qg0, qgb, qgl, qgs, qgz, qge, forall_const, tor, Go.AM.splice, one, tlen2, tlen3, tbox, Int.reduceEq, Int.reduceNeg, Nat.reduceGT, Nat.reduceLT, Nat.reduceLeDiff, Nat.reduceEqDiff, ↓reduceIte, reduceCtorEq, Int.reduceToNat, Int.reduceLE, Int.reduceLT, Nat.reduceAdd, Nat.reduceMul, q1, q2, q3, q4, q5, q6, ho, hy, wy_cells, wy_one, wy_all, wy_len, hset_at, hb1, hb2, h10, spw, tw, hC2, hCt, hct, List.drop_zero, ff_67]) | refine qqj rfl ?_ | refine qqk rfl ?_)
    (first | refine WK.retNil ⟨Or.inr rfl, _, rfl, ?_, ?_⟩ | refine WK.skipNil ⟨Or.inl rfl, _, rfl, ?_, ?_⟩)
    · intro q hq hX
      exact (hset_ne _ _ _ (by omega)).trans ((hset_ne _ _ _ (by omega)).trans ((hset_ne _ _ _ (by omega)).trans ((hset_ne _ _ _ (by omega)).trans (hset_ne _ _ _ (by omega)))))
    · simp only [packed, fset_apply, Nat.reduceEqDiff, ↓reduceIte, List.getD_cons_zero, List.getD_cons_succ, ff_67]
      have hle : (vs ++ [yw]).length = 2 := by simp; omega
      refine ⟨n1 + 1 + 1, by omega, ⟨by omega, by omega, by omega, .inr ⟨qs ++ [(p, yw)], by rw [List.map_append, hqv]; rfl, by simp, by omega, ?_, ?_, fun q hq => ?_⟩⟩, ?_⟩
      · rw [hle]; exact hset_at _ _ _
      · rw [hCe]; exact (hset_ne _ _ _ (by omega)).trans (hset_at _ _ _)
      · rcases List.mem_append.1 hq with hq | hq
        · obtain ⟨h1, h2⟩ := hqs q hq
          refine ⟨RS.keep h1 fun b hb => ?_, fun b hb => ?_⟩
          · obtain ⟨e1, e2, e3⟩ := h2 b hb
            exact (hset_ne _ _ _ (by omega)).trans ((hset_ne _ _ _ (by omega)).trans ((hset_ne _ _ _ (by omega)).trans ((hset_ne _ _ _ (by omega)).trans (hset_ne _ _ _ (by omega)))))
          · obtain ⟨e1, e2, e3⟩ := h2 b hb
            exact ⟨by omega, e2, by omega⟩
        obtain rfl : q = (p, yw) := by simpa using hq
        refine ⟨RS.keep hp fun b hb => ?_, fun b hb => ?_⟩
        · obtain ⟨e1, e2, e3⟩ := hpb b hb
          exact (hset_ne _ _ _ (by omega)).trans ((hset_ne _ _ _ (by omega)).trans ((hset_ne _ _ _ (by omega)).trans ((hset_ne _ _ _ (by omega)).trans (hset_ne _ _ _ (by omega)))))
        · obtain ⟨e1, e2, e3⟩ := hpb b hb
          exact ⟨by omega, e2, by omega⟩
      · rw [hle]; rfl
set_option maxHeartbeats 16000000 in
theorem first_gives (hw0 : WF n0 H0) (hf0 : FO H0 fo m pt pv pr pw g w) (hm0 : MR H0 m ks rd) (hwl : w.length ≤ 10) (sg : Sgm g) {x : Nd} (hx1 : x.2.1 ≤ x.2.2) (hx2 : x.2.2 ≤ w.length) :
    Gives Try.prog 41 [.pointer (some ⟨fo, 0, none⟩), ndV x] n0 H0 fun v n2 H2 => WL H2 n0 v ((waysL g w rd 0 x).take 2) := by
  refine Gives.of orders ok41 (Nat.le_of_ble_eq_true rfl) ?_
  have hfo := hf0.f
  have k2 := Kp.new n0 H0 (.cells (ndC x) 67 true)
  have b1 := hset_at H0 n0 (.cells (ndC x) 67 true)
  repeat (first | refine qqn rfl ?_)
  (refine WK.rgn ?_ ?_; kernel_rfl; simp (config := {maxSteps:=999999}) only [SS, qx32, forall_const, Int.reduceEq, Int.reduceNeg, Nat.reduceGT, Nat.reduceLT, Nat.reduceLeDiff, Nat.reduceEqDiff, ↓reduceIte, reduceCtorEq, Int.reduceToNat, Int.reduceLE, Int.reduceLT, Nat.reduceAdd, Nat.reduceMul, abox, ndC_cells, ndC_one, ndV, ff_41])
  repeat (first | refine qqn rfl ?_)
  generalize hset H0 n0 (.cells (ndC x) 67 true) = H2 at *
  have hw2 := k2.wf hw0
  have kq := Kp.new (n0 + 1) H2 (.cells [.slice none 0 0] 77 true)
  have b13 := (kq.keep n0 (by omega)).trans b1
  have bo := hset_at H2 (n0 + 1) (.cells [.slice none 0 0] 77 true)
  (refine WK.rgn ?_ ?_; kernel_rfl; simp (config := {maxSteps:=999999}) only [SS, qx32, forall_const, Int.reduceEq, Int.reduceNeg, Nat.reduceGT, Nat.reduceLT, Nat.reduceLeDiff, Nat.reduceEqDiff, ↓reduceIte, reduceCtorEq, Int.reduceToNat, Int.reduceLE, Int.reduceLT, Nat.reduceAdd, Nat.reduceMul, ff_41])
  generalize hset H2 (n0 + 1) (.cells [.slice none 0 0] 77 true) = H3 at *
  have hw3 := kq.wf hw2
  have hcall := ways_gives (vs := []) (y := n0 + 1) hw2 (hf0.mono hw0 k2) (hm0.mono hw0 k2) hwl sg (first1_doc (N := n0 + 1) (H2 := H2)) hx1 hx2 (ah := 0) (by omega) hw3 kq.le (fun z hz => kq.keep z hz) ⟨Nat.le_refl _, by omega, by omega, .inl ⟨rfl, rfl, bo⟩⟩ (.inr rfl) (fun _ _ => trivial)
  rw [visit_take] at hcall
  repeat (first | refine qqn rfl ?_ | ((first | (refine WK.rgn ?_ ?_; kernel_rfl) | refine AtCall.now ?_); simp (config := {maxSteps:=999999}) only [SS, qx32, forall_const, Int.reduceEq, Int.reduceNeg, Nat.reduceGT, Nat.reduceLT, Nat.reduceLeDiff, Nat.reduceEqDiff, ↓reduceIte, reduceCtorEq, Int.reduceToNat, Int.reduceLE, Int.reduceLT, Nat.reduceAdd, Nat.reduceMul, b13, ndC_all, ndC_len, ff_41]) | refine qqj rfl ?_ | refine qqk rfl ?_)
  refine AtCall.byX hcall ?_
  rintro v n4 H4 k4 ⟨y', hy', ho1, ho2, ho3, hI⟩
  rcases hI with ⟨h1, h2, ho⟩ | ⟨qs, h1, h2, h3, ho, hy, hqs⟩
  · simp (config := {maxSteps:=999999}) only [SS, qx32, forall_const, Int.reduceEq, Int.reduceNeg, Nat.reduceGT, Nat.reduceLT, Nat.reduceLeDiff, Nat.reduceEqDiff, ↓reduceIte, reduceCtorEq, Int.reduceToNat, Int.reduceLE, Int.reduceLT, Nat.reduceAdd, Nat.reduceMul, ff_41]
    repeat (first | refine qqn rfl ?_ | ((first | (refine WK.rgn ?_ ?_; kernel_rfl) | refine AtCall.now ?_); simp (config := {maxSteps:=999999}) only [SS, qx32, forall_const, Int.reduceEq, Int.reduceNeg, Nat.reduceGT, Nat.reduceLT, Nat.reduceLeDiff, Nat.reduceEqDiff, ↓reduceIte, reduceCtorEq, Int.reduceToNat, Int.reduceLE, Int.reduceLT, Nat.reduceAdd, Nat.reduceMul, ho, ff_41]) | refine qqj rfl ?_ | refine qqk rfl ?_)
    (first | refine WK.retNil ⟨Or.inr rfl, _, rfl, ?_, ?_⟩ | refine WK.skipNil ⟨Or.inl rfl, _, rfl, ?_, ?_⟩)
    · intro q hq
      exact (k4.keep q (by omega) (by omega)).trans ((kq.keep q (by omega)).trans (k2.keep q hq))
    · simp only [packed, fset_apply, Nat.reduceEqDiff, ↓reduceIte, List.getD_cons_zero, List.getD_cons_succ, ff_41]
      exact .inl ⟨h1, rfl⟩
  · simp (config := {maxSteps:=999999}) only [SS, qx32, forall_const, Int.reduceEq, Int.reduceNeg, Nat.reduceGT, Nat.reduceLT, Nat.reduceLeDiff, Nat.reduceEqDiff, ↓reduceIte, reduceCtorEq, Int.reduceToNat, Int.reduceLE, Int.reduceLT, Nat.reduceAdd, Nat.reduceMul, ff_41]
    repeat (first | refine qqn rfl ?_ | ((first | (refine WK.rgn ?_ ?_; kernel_rfl) | refine AtCall.now ?_); simp (config := {maxSteps:=999999}) only [SS, qx32, forall_const, Int.reduceEq, Int.reduceNeg, Nat.reduceGT, Nat.reduceLT, Nat.reduceLeDiff, Nat.reduceEqDiff, ↓reduceIte, reduceCtorEq, Int.reduceToNat, Int.reduceLE, Int.reduceLT, Nat.reduceAdd, Nat.reduceMul, ho, ff_41]) | refine qqj rfl ?_ | refine qqk rfl ?_)
    (first | refine WK.retNil ⟨Or.inr rfl, _, rfl, ?_, ?_⟩ | refine WK.skipNil ⟨Or.inl rfl, _, rfl, ?_, ?_⟩)
    · intro q hq
      exact (k4.keep q (by omega) (by omega)).trans ((kq.keep q (by omega)).trans (k2.keep q hq))
    · simp only [packed, fset_apply, Nat.reduceEqDiff, ↓reduceIte, List.getD_cons_zero, List.getD_cons_succ, ff_41]
      exact .inr ⟨y', qs, h1, h2, rfl, by omega, hy, fun q hq => (hqs q hq).1⟩
end
end Go.Proofs.Ytemkglelfeidhaa
