/- A part of a proof. Its conditions: none. -/
import Derived.Test.YtemkglelfeidhaaAmJFoRep
import Derived.Test.YtemkglelfeidhaaAmD
import Derived.Test.YtemkglelfeidhaaAmC
set_option linter.all false
namespace Go.Proofs.Ytemkglelfeidhaa
open Go.AM Go.AM.Fo Go.RowKit
set_option maxRecDepth 100000
def natE (c : Nat) : Value := .int .i64 (c : Int)
theorem und_mb : Try.prog.underlying 93 = some (.map 3 4) := by kernel_rfl
theorem und_int0 : Try.prog.underlying 3 = some (.int .i64) := by kernel_rfl
theorem gkC : GK Try.prog 3 natE (fun c => c ≤ 1000000) where
  wide := (gkI und_int0).wide
  ok := fun c h => (gkI und_int0).ok (c : Int) (by unfold inI; omega)
  inj := fun a b _ _ e => by unfold natE at e; simp at e; omega
def tru (_ : Nat) : Value := .bool true
def ST (H : Heap) (y : Nat) (cs : List Nat) : Prop := H y = .map (vE natE tru cs 0) cs.length 3
def rlC (r : GRule) (p : Option Addr) : List Value := [.int .i64 r.left, .slice p r.right.length r.right.length, .float .f64 r.weight]
theorem rl_1 (r : GRule) (p : Option Addr) : (rlC r p)[1]? = some (.slice p r.right.length r.right.length) := rfl
theorem rl_0 (r : GRule) (p : Option Addr) : (rlC r p)[0]? = some (.int .i64 r.left) := rfl
theorem rl_cells (r : GRule) (p : Option Addr) : vcells (.agg (rlC r p).toArray) = rlC r p := rfl
theorem rl_one (r : GRule) (p : Option Addr) : (rlC r p).all one = true := rfl
theorem rl_len (r : GRule) (p : Option Addr) : (rlC r p).length = 3 := rfl
theorem rl_all (r : GRule) (p : Option Addr) : ((rlC r p).drop 0).take 3 = rlC r p := rfl
set_option maxHeartbeats 8000000 in
theorem ends_gives {fo m : Nat} {pt pv pr pw p : Option Addr} {g : Gram} {w : List Int} {ks : List Nd} {rd : Nd → Nat} {n0 : Nat} {H0 : Heap} (hw0 : WF n0 H0) (hf0 : FO H0 fo m pt pv pr pw g w) (hm0 : MR H0 m ks rd) (hwl : w.length ≤ 10)
    {r : GRule} (hr8 : r.right.length ≤ 8) (hrs : ∀ s ∈ r.right, -100 ≤ s ∧ s < 8) (hp0 : RA (Value.int .i64) H0 p r.right) {a : Nat} (ha : a ≤ w.length) :
    GivesD Try.prog 55 [.pointer (some ⟨fo, 0, none⟩), .agg (rlC r p).toArray, .int .i64 (a : Nat)] n0 H0 fun v n' H' => ∃ (y : Nat) (cs : List Nat), v = .map (some y) ∧ ST H' y cs ∧ cs.Nodup ∧ ∀ c, c ∈ cs ↔ c ≤ w.length ∧ Fo.Ends w rd r.right a c := by
  refine GivesD.of orders ok55 (Nat.le_of_ble_eq_true rfl) ?_
  repeat (first | apply WKD.seq | apply WKD.block | apply WKD.skipSeq | apply WKD.skipBlock | apply WKD.retSeq | apply WKD.retBlock | apply WKD.exitSeq | apply WKD.exitHere | refine WKD.exitOn rfl ?_)
  (refine WKD.rgn ?_ ?_; kernel_rfl; simp (config := {maxSteps:=999999}) only [SS, qx9, forall_const, yx_nil, yx_true, yx_false, y1_false, y1_true, y2_none, y2_some, y3, simprocAttr, abox, rl_cells, rl_one, ff_55])
  have k1 := Kp.new n0 H0 (.cells (rlC r p) 49 true)
  have hb1 := hset_at H0 n0 (.cells (rlC r p) 49 true)
  generalize hset H0 n0 (.cells (rlC r p) 49 true) = H1 at *
  repeat (first | apply WKD.seq | apply WKD.block | apply WKD.skipSeq | apply WKD.skipBlock | apply WKD.retSeq | apply WKD.retBlock | apply WKD.exitSeq | apply WKD.exitHere | refine WKD.exitOn rfl ?_)
  have hput : amapset Try.prog 93 (hset H1 (n0 + 1) (.map [] 0 3)) (.map (some (n0 + 1))) (.int .i64 (a : Nat)) (.bool true) = some { v := undef, wr := some (n0 + 1, .map (vE natE tru [a] 0) 1 3) } :=
    gkC.vput (val := tru) (val' := tru) (k := a) (ks := []) (by omega) (fun _ h => by cases h) (by simp) und_mb (hset_at _ _ _) (fun _ h => by cases h)
  have q1 : ∀ (H' : Heap) ob, hset H' (n0 + 1) ob n0 = H' n0 := fun H' ob => hset_ne _ _ _ (by omega)
  repeat (first | apply WKD.seq | apply WKD.block | apply WKD.skipSeq | apply WKD.skipBlock | apply WKD.retSeq | apply WKD.retBlock | apply WKD.exitSeq | apply WKD.exitHere | refine WKD.exitOn rfl ?_ | ((first | (refine WKD.rgn ?_ ?_; kernel_rfl) | refine AtCallY.now ?_); simp (config := {maxSteps:=999999}) only [SS, qx9, forall_const, yx_nil, yx_true, yx_false, y1_false, y1_true, y2_none, y2_some, y3, simprocAttr, aop_makemap, amake, und_mb, hput, aop_insert, q1, hb1, rl_1, ff_55]) | (refine WKD.condT ?_ ?_; focus (simp only [ev_tmp, ev_const, fset_apply, Nat.reduceEqDiff, ↓reduceIte, decide_true, decide_false, aop_makemap, amake, und_mb, hput, aop_insert, q1, hb1, rl_1, ff_55]; done)) | (refine WKD.condF ?_ ?_; focus (simp only [ev_tmp, ev_const, fset_apply, Nat.reduceEqDiff, ↓reduceIte, decide_true, decide_false, aop_makemap, amake, und_mb, hput, aop_insert, q1, hb1, rl_1, ff_55]; done)))
  have k2 := (Kp.new (n0 + 1) H1 (.map [] 0 3)).set (x := n0 + 1) (.map (vE natE tru [a] 0) 1 3) (Nat.le_refl _) (by omega)
  have hy2 : ST (hset (hset H1 (n0 + 1) (.map [] 0 3)) (n0 + 1) (.map (vE natE tru [a] 0) 1 3)) (n0 + 1) [a] := hset_at _ _ _
  rw [hset_hset] at k2 hy2
  have k12 := k1.trans k2
  have hb2 := (k2.keep n0 (by omega)).trans hb1
  generalize hset H1 (n0 + 1) (.map (vE natE tru [a] 0) 1 3) = H2 at *
  refine WKD.loop (fun kk s => ∃ (i y : Nat) (cs : List Nat), i ≤ r.right.length ∧ Kp n0 H0 s.n s.H ∧ n0 < y ∧ ST s.H y cs ∧ cs.Nodup ∧ (∀ c, c ∈ cs ↔ c ≤ w.length ∧ Fo.Ends w rd (r.right.take i) a c) ∧ s.H n0 = .cells (rlC r p) 49 true ∧
    s.f 0 = .pointer (some ⟨fo, 0, none⟩) ∧ s.f 7 = .map (some y) ∧ s.f 17 = .slice p r.right.length r.right.length ∧ s.f 18 = .int .i64 (r.right.length : Nat) ∧ s.f 19 = .int .i64 (i : Nat) ∧ kk = r.right.length - i) r.right.length ?_ ?_
  · refine ⟨0, n0 + 1, [a], Nat.zero_le _, k12, by omega, hy2, by simp, fun c => ?_, hb2, rfl, rfl, rfl, rfl, rfl, rfl⟩
    rw [List.take_zero, ends_nil]
    simp only [List.mem_singleton]
    omega
  clear hy2 hb2 k12 k2 H2 hput hb1 k1 H1
  rintro kk ⟨f, n3, H3⟩ ⟨i, y, cs, hi, k3, hy, hst, hnd, hmem, hb3, f0, f7, f17, f18, f19, rfl⟩ ih
  simp only at k3 hst hb3 f0 f7 f17 f18 f19 ih
  have hw3 := k3.wf hw0
  have hle3 := k3.le
  by_cases hil : i < r.right.length
  case neg =>
    have hil' : ((i : Int) < (r.right.length : Int)) = False := by simp only [eq_iff_iff, iff_false]; omega
    repeat (first | apply WKD.seq | apply WKD.block | apply WKD.skipSeq | apply WKD.skipBlock | apply WKD.retSeq | apply WKD.retBlock | apply WKD.exitSeq | apply WKD.exitHere | refine WKD.exitOn rfl ?_ | ((first | (refine WKD.rgn ?_ ?_; kernel_rfl) | refine AtCallY.now ?_); simp (config := {maxSteps:=999999}) only [SS, qx9, forall_const, yx_nil, yx_true, yx_false, y1_false, y1_true, y2_none, y2_some, y3, simprocAttr, f7, f18, f19, hil', ff_55]) | (refine WKD.condT ?_ ?_; focus (simp only [ev_tmp, ev_const, fset_apply, Nat.reduceEqDiff, ↓reduceIte, decide_true, decide_false, f7, f18, f19, hil', ff_55]; done)) | (refine WKD.condF ?_ ?_; focus (simp only [ev_tmp, ev_const, fset_apply, Nat.reduceEqDiff, ↓reduceIte, decide_true, decide_false, f7, f18, f19, hil', ff_55]; done)))
    (first | refine WKD.retNil ⟨Or.inr rfl, _, rfl, ?_, ?_⟩ | refine WKD.skipNil ⟨Or.inl rfl, _, rfl, ?_, ?_⟩)
    · exact k3.keep
    · simp only [packed, fset_apply, Nat.reduceEqDiff, ↓reduceIte, List.getD_cons_zero, List.getD_cons_succ, f7, ff_55]
      refine ⟨y, cs, rfl, hst, hnd, fun c => ?_⟩
      rw [hmem c, List.take_of_length_le (by omega)]
  have hil' : ((i : Int) < (r.right.length : Int)) = True := by simp only [eq_iff_iff, iff_true]; omega
  have h0i : (0 : Int) ≤ (i : Int) := Int.natCast_nonneg i
  obtain ⟨x, k, xs, xty, xown, rfl, hx, ex⟩ := (hp0.mono hw0 k3).at hil
  obtain ⟨s, hs⟩ : ∃ s, r.right[i] = s := ⟨_, rfl⟩
  have hsm := hrs s (by rw [← hs]; exact List.getElem_mem hil)
  rw [hs] at ex
  have hcl : ∀ c, c ∈ cs → c ≤ w.length := fun c hc => ((hmem c).1 hc).1
  have hclen : cs.length ≤ 11 := by have := nodup_bnd hnd hcl; omega
  have hyn : y < n3 := live_lt hw3 (by rw [hst]; intro e; cases e)
  have hle3' : n0 < n3 := by omega
  repeat (first | apply WKD.seq | apply WKD.block | apply WKD.skipSeq | apply WKD.skipBlock | apply WKD.retSeq | apply WKD.retBlock | apply WKD.exitSeq | apply WKD.exitHere | refine WKD.exitOn rfl ?_ | ((first | (refine WKD.rgn ?_ ?_; kernel_rfl) | refine AtCallY.now ?_); simp (config := {maxSteps:=999999}) only [SS, qx9, forall_const, yx_nil, yx_true, yx_false, y1_false, y1_true, y2_none, y2_some, y3, simprocAttr, f7, f17, f18, f19, hil', hil, h0i, hx, ex, aop_makemap, amake, und_mb, Int.toNat_natCast, ff_55]) | (refine WKD.condT ?_ ?_; focus (simp only [ev_tmp, ev_const, fset_apply, Nat.reduceEqDiff, ↓reduceIte, decide_true, decide_false, f7, f17, f18, f19, hil', hil, h0i, hx, ex, aop_makemap, amake, und_mb, Int.toNat_natCast, ff_55]; done)) | (refine WKD.condF ?_ ?_; focus (simp only [ev_tmp, ev_const, fset_apply, Nat.reduceEqDiff, ↓reduceIte, decide_true, decide_false, f7, f17, f18, f19, hil', hil, h0i, hx, ex, aop_makemap, amake, und_mb, Int.toNat_natCast, ff_55]; done)))
  have hst4 : hset H3 n3 (.map [] 0 3) y = .map (vE natE tru cs 0) cs.length 3 := (hset_ne _ _ _ (by omega)).trans hst
  refine AtRange.by und_mb hst4 ?_
  simp (config := {maxSteps:=999999}) only [SS, qx9, forall_const, yx_nil, yx_true, yx_false, y1_false, y1_true, y2_none, y2_some, y3, simprocAttr, ff_55]
  repeat (first | apply WKD.seq | apply WKD.block | apply WKD.skipSeq | apply WKD.skipBlock | apply WKD.retSeq | apply WKD.retBlock | apply WKD.exitSeq | apply WKD.exitHere | refine WKD.exitOn rfl ?_)
  have k4 := (Kp.new n3 H3 (.map [] 0 3)).trans (Kp.new (n3 + 1) _ (.iter y cs.length [] cs.length))
  have hit : hset (hset H3 n3 (.map [] 0 3)) (n3 + 1) (.iter y cs.length [] cs.length) (n3 + 1) = .iter y cs.length [] cs.length := hset_at _ _ _
  have hst4 : ST (hset (hset H3 n3 (.map [] 0 3)) (n3 + 1) (.iter y cs.length [] cs.length)) y cs := (k4.keep y hyn).trans hst
  have hds : ST (hset (hset H3 n3 (.map [] 0 3)) (n3 + 1) (.iter y cs.length [] cs.length)) n3 [] := (hset_ne _ _ _ (by omega)).trans (hset_at _ _ _)
  have hb4 := (k4.keep n0 (by omega)).trans hb3
  replace k4 := k3.trans k4
  generalize hset (hset H3 n3 (.map [] 0 3)) (n3 + 1) (.iter y cs.length [] cs.length) = H4 at *
  refine WKD.loop (fun kk s' => ∃ (sn ds : List Nat), Kp n0 H0 s'.n s'.H ∧ n3 + 1 < s'.n ∧ s'.H (n3 + 1) = .iter y cs.length sn cs.length ∧ ST s'.H y cs ∧ ST s'.H n3 ds ∧ ds.Nodup ∧ (∀ c, c ∈ ds ↔ c ≤ w.length ∧ ∃ j b, j ∈ sn ∧ cs[j]? = some b ∧ b ≤ c ∧ fit w rd 0 s b c = true) ∧ sn.Nodup ∧ (∀ j, j ∈ sn → j < cs.length) ∧
    s'.H n0 = .cells (rlC r (some ⟨x, k, none⟩)) 49 true ∧ s'.f 0 = .pointer (some ⟨fo, 0, none⟩) ∧ s'.f 9 = .int .i64 s ∧ s'.f 10 = .map (some n3) ∧ s'.f 17 = .slice (some ⟨x, k, none⟩) r.right.length r.right.length ∧ s'.f 18 = .int .i64 (r.right.length : Nat) ∧ s'.f 19 = .int .i64 (i : Nat) ∧ s'.f 25 = .pointer (some ⟨n3 + 1, 0, none⟩) ∧ kk = cs.length - sn.length) cs.length ?_ ?_
  · refine ⟨[], [], k4, by simp, hit, hst4, hds, by simp, fun c => ?_, by simp, (fun j hj => by cases hj), hb4, f0, rfl, rfl, f17, f18, f19, rfl, by simp⟩
    constructor
    · intro h; cases h
    · rintro ⟨_, j, b, hj, _⟩; cases hj
  clear hit hst4 hds hb4 k4 H4 f0 f7 f17 f18 f19 hx ex hb3 hst
  rintro kk ⟨f, n5, H5⟩ ⟨sn, ds, k5, hn5, hit, hst, hds, hdn, hdm, hsn, hsl, hb5, f0, f9, f10, f17, f18, f19, f25, rfl⟩ ih2
  simp only at k5 hn5 hit hst hds hb5 f0 f9 f10 f17 f18 f19 f25 ih ih2
  have hw5 := k5.wf hw0
  repeat (first | apply WKD.seq | apply WKD.block | apply WKD.skipSeq | apply WKD.skipBlock | apply WKD.retSeq | apply WKD.retBlock | apply WKD.exitSeq | apply WKD.exitHere | refine WKD.exitOn rfl ?_)
  (refine WKD.rgn ?_ ?_; kernel_rfl; simp (config := {maxSteps:=999999}) only [SS, qx9, forall_const, yx_nil, yx_true, yx_false, y1_false, y1_true, y2_none, y2_some, y3, simprocAttr, f25, ff_55])
  refine AtNext.by hit hst vE_lt (Nat.le_refl _) (fun hall => ?_) (fun e he hen => ?_)
  · simp (config := {maxSteps:=999999}) only [SS, qx9, forall_const, yx_nil, yx_true, yx_false, y1_false, y1_true, y2_none, y2_some, y3, simprocAttr, ff_55]
    repeat (first | apply WKD.seq | apply WKD.block | apply WKD.skipSeq | apply WKD.skipBlock | apply WKD.retSeq | apply WKD.retBlock | apply WKD.exitSeq | apply WKD.exitHere | refine WKD.exitOn rfl ?_ | ((first | (refine WKD.rgn ?_ ?_; kernel_rfl) | refine AtCallY.now ?_); simp (config := {maxSteps:=999999}) only [SS, qx9, forall_const, yx_nil, yx_true, yx_false, y1_false, y1_true, y2_none, y2_some, y3, simprocAttr, f10, f19, ff_55]) | (refine WKD.condT ?_ ?_; focus (simp only [ev_tmp, ev_const, fset_apply, Nat.reduceEqDiff, ↓reduceIte, decide_true, decide_false, f10, f19, ff_55]; done)) | (refine WKD.condF ?_ ?_; focus (simp only [ev_tmp, ev_const, fset_apply, Nat.reduceEqDiff, ↓reduceIte, decide_true, decide_false, f10, f19, ff_55]; done)))
    refine ih (r.right.length - (i + 1)) (by omega) _ ?_
    refine ⟨i + 1, n3, ds, hil, k5, by omega, hds, hdn, fun c => ?_, hb5, f0, ?_, f17, f18, ?_, rfl⟩
    · rw [hdm c, List.take_succ_eq_append_getElem hil, hs, ends_snoc]
      refine and_congr_right fun hc => ⟨?_, ?_⟩
      · rintro ⟨j, b, hj, hjb, h1, h2⟩
        exact ⟨b, ((hmem b).1 (List.mem_of_getElem? hjb)).2, h1, h2⟩
      · rintro ⟨b, h1, h2, h3⟩
        have hbm := (hmem b).2 ⟨by omega, h1⟩
        obtain ⟨j, hj, he⟩ := List.getElem_of_mem hbm
        have hjb : cs[j]? = some b := by rw [List.getElem?_eq_getElem hj, he]
        exact ⟨j, b, hall _ (vE_in hjb), hjb, h2, h3⟩
    · simp only [packed, fset_apply, Nat.reduceEqDiff, ↓reduceIte, List.getD_cons_zero, List.getD_cons_succ, f10, ff_55]
    · simp only [packed, fset_apply, Nat.reduceEqDiff, ↓reduceIte, List.getD_cons_zero, List.getD_cons_succ, f19, wrap_up hil (show r.right.length ≤ maxL by unfold maxL; omega), ff_55]
  · obtain ⟨j, b, hj, rfl⟩ := vE_mem he
    simp only at hen
    have hjl : j < cs.length := (List.getElem?_eq_some_iff.1 hj).1
    have hbl := hcl b (List.mem_of_getElem? hj)
    simp (config := {maxSteps:=999999}) only [SS, qx9, forall_const, yx_nil, yx_true, yx_false, y1_false, y1_true, y2_none, y2_some, y3, simprocAttr, natE, tru, ff_55]
    repeat (first | apply WKD.seq | apply WKD.block | apply WKD.skipSeq | apply WKD.skipBlock | apply WKD.retSeq | apply WKD.retBlock | apply WKD.exitSeq | apply WKD.exitHere | refine WKD.exitOn rfl ?_)
    first | (refine WKD.condT ?_ ?_; focus (simp only [ev_tmp, ev_const, fset_apply, Nat.reduceEqDiff, ↓reduceIte, decide_true, decide_false]; done)) | (refine WKD.condF ?_ ?_; focus (simp only [ev_tmp, ev_const, fset_apply, Nat.reduceEqDiff, ↓reduceIte, decide_true, decide_false]; done))
    repeat (first | apply WKD.seq | apply WKD.block | apply WKD.skipSeq | apply WKD.skipBlock | apply WKD.retSeq | apply WKD.retBlock | apply WKD.exitSeq | apply WKD.exitHere | refine WKD.exitOn rfl ?_)
    have hit6 := hset_at H5 (n3 + 1) (.iter y cs.length (sn ++ [j]) cs.length)
    have k6 := k5.set (x := n3 + 1) (.iter y cs.length (sn ++ [j]) cs.length) (by omega) hn5
    have hst6 : ST (hset H5 (n3 + 1) (.iter y cs.length (sn ++ [j]) cs.length)) y cs := (hset_ne _ _ _ (by omega)).trans hst
    have hds6 : ST (hset H5 (n3 + 1) (.iter y cs.length (sn ++ [j]) cs.length)) n3 ds := (hset_ne _ _ _ (by omega)).trans hds
    have hb6 := (hset_ne H5 (n3 + 1) (.iter y cs.length (sn ++ [j]) cs.length) (x := n0) (by omega)).trans hb5
    generalize hset H5 (n3 + 1) (.iter y cs.length (sn ++ [j]) cs.length) = H6 at *
    (refine WKD.rgn ?_ ?_; kernel_rfl; simp (config := {maxSteps:=999999}) only [SS, qx9, forall_const, yx_nil, yx_true, yx_false, y1_false, y1_true, y2_none, y2_some, y3, simprocAttr, f25, ff_55])
    refine AtEntry.by (e := ⟨natE b, tru b, j⟩) hit6 hst6 he (vE_nodup ..) ?_
    simp (config := {maxSteps:=999999}) only [SS, qx9, forall_const, yx_nil, yx_true, yx_false, y1_false, y1_true, y2_none, y2_some, y3, simprocAttr, natE, tru, ff_55]
    repeat (first | apply WKD.seq | apply WKD.block | apply WKD.skipSeq | apply WKD.skipBlock | apply WKD.retSeq | apply WKD.retBlock | apply WKD.exitSeq | apply WKD.exitHere | refine WKD.exitOn rfl ?_ | ((first | (refine WKD.rgn ?_ ?_; kernel_rfl) | refine AtCallY.now ?_); simp (config := {maxSteps:=999999}) only [SS, qx9, forall_const, yx_nil, yx_true, yx_false, y1_false, y1_true, y2_none, y2_some, y3, simprocAttr, ff_55]) | (refine WKD.condT ?_ ?_; focus (simp only [ev_tmp, ev_const, fset_apply, Nat.reduceEqDiff, ↓reduceIte, decide_true, decide_false, ff_55]; done)) | (refine WKD.condF ?_ ?_; focus (simp only [ev_tmp, ev_const, fset_apply, Nat.reduceEqDiff, ↓reduceIte, decide_true, decide_false, ff_55]; done)))
    have hlt5 : sn.length < cs.length := by
      have h1 : (sn ++ [j]).Nodup := by
        rw [List.nodup_append]
        refine ⟨hsn, by simp, fun a ha b' hb' e => ?_⟩
        have : b' = j := by simpa using hb'
        subst this e
        exact hen ha
      have := nodup_bnd (k := cs.length - 1) h1 fun q hq => by
        rcases List.mem_append.1 hq with hq | hq
        · have := hsl q hq; omega
        · have : q = j := by simpa using hq
          omega
      rw [List.length_append, List.length_singleton] at this
      omega
    refine WKD.loop (fun kk s' => ∃ (c : Nat) (es : List Nat), b ≤ c ∧ c ≤ w.length + 1 ∧ Kp n0 H0 s'.n s'.H ∧ n3 + 1 < s'.n ∧ s'.H (n3 + 1) = .iter y cs.length (sn ++ [j]) cs.length ∧ ST s'.H y cs ∧ ST s'.H n3 es ∧ es.Nodup ∧ (∀ q, q ∈ es ↔ q ≤ w.length ∧ (q ∈ ds ∨ (b ≤ q ∧ q < c ∧ fit w rd 0 s b q = true))) ∧
      s'.H n0 = .cells (rlC r (some ⟨x, k, none⟩)) 49 true ∧ s'.f 0 = .pointer (some ⟨fo, 0, none⟩) ∧ s'.f 9 = .int .i64 s ∧ s'.f 10 = .map (some n3) ∧ s'.f 11 = .int .i64 (b : Nat) ∧ s'.f 12 = .int .i64 (c : Nat) ∧ s'.f 17 = .slice (some ⟨x, k, none⟩) r.right.length r.right.length ∧ s'.f 18 = .int .i64 (r.right.length : Nat) ∧ s'.f 19 = .int .i64 (i : Nat) ∧ s'.f 25 = .pointer (some ⟨n3 + 1, 0, none⟩) ∧ kk = w.length + 1 - c) (w.length + 1 - b) ?_ ?_
    · refine ⟨b, ds, Nat.le_refl _, by omega, k6, hn5, hit6, hst6, hds6, hdn, fun q => ?_, hb6, f0, f9, f10, rfl, rfl, f17, f18, f19, f25, rfl⟩
      constructor
      · intro h; exact ⟨((hdm q).1 h).1, .inl h⟩
      · rintro ⟨_, h | h⟩
        · exact h
        · omega
    clear hit6 k6 hst6 hds6 hb6 H6 f0 f9 f10 f17 f18 f19 f25 hit hst hds hb5
    rintro kk ⟨f, n7, H7⟩ ⟨c, es, hbc, hcw, k7, hn7, hit7, hst7, hes, hen7, hem, hb7, f0, f9, f10, f11, f12, f17, f18, f19, f25, rfl⟩ ih3
    simp only at k7 hn7 hit7 hst7 hes hb7 f0 f9 f10 f11 f12 f17 f18 f19 f25 ih ih2 ih3
    have hf7 := hf0.mono hw0 k7
    have hm7 := hm0.mono hw0 k7
    have hfo := hf7.f
    have hw7 := k7.wf hw0
    by_cases hc : c ≤ w.length
    case neg =>
      have hc' : ((c : Int) ≤ (w.length : Int)) = False := by simp only [eq_iff_iff, iff_false]; omega
      repeat (first | apply WKD.seq | apply WKD.block | apply WKD.skipSeq | apply WKD.skipBlock | apply WKD.retSeq | apply WKD.retBlock | apply WKD.exitSeq | apply WKD.exitHere | refine WKD.exitOn rfl ?_ | ((first | (refine WKD.rgn ?_ ?_; kernel_rfl) | refine AtCallY.now ?_); simp (config := {maxSteps:=999999}) only [SS, qx9, forall_const, yx_nil, yx_true, yx_false, y1_false, y1_true, y2_none, y2_some, y3, simprocAttr, f0, f12, hfo, fo_3, aop_nc, tnc, hc', ff_55]) | (refine WKD.condT ?_ ?_; focus (simp only [ev_tmp, ev_const, fset_apply, Nat.reduceEqDiff, ↓reduceIte, decide_true, decide_false, f0, f12, hfo, fo_3, aop_nc, tnc, hc', ff_55]; done)) | (refine WKD.condF ?_ ?_; focus (simp only [ev_tmp, ev_const, fset_apply, Nat.reduceEqDiff, ↓reduceIte, decide_true, decide_false, f0, f12, hfo, fo_3, aop_nc, tnc, hc', ff_55]; done)))
      refine ih2 (cs.length - (sn ++ [j]).length) (by rw [List.length_append, List.length_singleton]; omega) _ ?_
      refine ⟨sn ++ [j], es, k7, hn7, hit7, hst7, hes, hen7, fun q => ?_, ?_, ?_, hb7, f0, f9, f10, f17, f18, f19, f25, rfl⟩
      · rw [hem q]
        refine and_congr_right fun hq => ⟨?_, ?_⟩
        · rintro (h | ⟨h1, h2, h3⟩)
          · obtain ⟨_, j', b', q1, q2⟩ := (hdm q).1 h
            exact ⟨j', b', List.mem_append_left _ q1, q2⟩
          · exact ⟨j, b, by simp, hj, h1, h3⟩
        · rintro ⟨j', b', q1, q2, q3, q4⟩
          rcases List.mem_append.1 q1 with q1 | q1
          · exact .inl ((hdm q).2 ⟨hq, j', b', q1, q2, q3, q4⟩)
          · have : j' = j := by simpa using q1
            subst this
            rw [hj] at q2
            cases q2
            exact .inr ⟨q3, by omega, q4⟩
      · rw [List.nodup_append]
        refine ⟨hsn, by simp, fun a' ha' b' hb' e => ?_⟩
        have : b' = j := by simpa using hb'
        subst this e
        exact hen ha'
      · intro q hq
        rcases List.mem_append.1 hq with hq | hq
        · exact hsl q hq
        · have : q = j := by simpa using hq
          omega
    have hc' : ((c : Int) ≤ (w.length : Int)) = True := by simp only [eq_iff_iff, iff_true]; omega
    have hw1 : IntKind.i64.wrap ((c : Int) + 1) = ((c + 1 : Nat) : Int) := by rw [wrap_in (by omega) (by omega)]; rfl
    repeat (first | apply WKD.seq | apply WKD.block | apply WKD.skipSeq | apply WKD.skipBlock | apply WKD.retSeq | apply WKD.retBlock | apply WKD.exitSeq | apply WKD.exitHere | refine WKD.exitOn rfl ?_ | ((first | (refine WKD.rgn ?_ ?_; kernel_rfl) | refine AtCallY.now ?_); simp (config := {maxSteps:=999999}) only [SS, qx9, forall_const, yx_nil, yx_true, yx_false, y1_false, y1_true, y2_none, y2_some, y3, simprocAttr, f0, f9, f11, f12, hfo, fo_3, aop_nc, tnc, hc', ff_55]) | (refine WKD.condT ?_ ?_; focus (simp only [ev_tmp, ev_const, fset_apply, Nat.reduceEqDiff, ↓reduceIte, decide_true, decide_false, f0, f9, f11, f12, hfo, fo_3, aop_nc, tnc, hc', ff_55]; done)) | (refine WKD.condF ?_ ?_; focus (simp only [ev_tmp, ev_const, fset_apply, Nat.reduceEqDiff, ↓reduceIte, decide_true, decide_false, f0, f9, f11, f12, hfo, fo_3, aop_nc, tnc, hc', ff_55]; done)))
    refine AtCallY.by (fits_gives (ah := 0) hf7 hm7 hwl hsm.1 hsm.2 hbc hc (by omega)) ?_
    rintro v n' H' _ ⟨rfl, rfl, rfl⟩
    have hesl : ∀ q, q ∈ es → q ≤ 1000000 := fun q hq => by have := ((hem q).1 hq).1; omega
    cases hft : fit w rd 0 s b c with
    | false =>
      simp (config := {maxSteps:=999999}) only [SS, qx9, forall_const, yx_nil, yx_true, yx_false, y1_false, y1_true, y2_none, y2_some, y3, simprocAttr, ff_55]
      repeat (first | apply WKD.seq | apply WKD.block | apply WKD.skipSeq | apply WKD.skipBlock | apply WKD.retSeq | apply WKD.retBlock | apply WKD.exitSeq | apply WKD.exitHere | refine WKD.exitOn rfl ?_ | ((first | (refine WKD.rgn ?_ ?_; kernel_rfl) | refine AtCallY.now ?_); simp (config := {maxSteps:=999999}) only [SS, qx9, forall_const, yx_nil, yx_true, yx_false, y1_false, y1_true, y2_none, y2_some, y3, simprocAttr, f12, hw1, ff_55]) | (refine WKD.condT ?_ ?_; focus (simp only [ev_tmp, ev_const, fset_apply, Nat.reduceEqDiff, ↓reduceIte, decide_true, decide_false, f12, hw1, ff_55]; done)) | (refine WKD.condF ?_ ?_; focus (simp only [ev_tmp, ev_const, fset_apply, Nat.reduceEqDiff, ↓reduceIte, decide_true, decide_false, f12, hw1, ff_55]; done)))
      refine ih3 (w.length + 1 - (c + 1)) (by omega) _ ?_
      refine ⟨c + 1, es, by omega, by omega, k7, hn7, hit7, hst7, hes, hen7, fun q => ?_, hb7, f0, f9, f10, f11, rfl, f17, f18, f19, f25, rfl⟩
      rw [hem q]
      refine and_congr_right fun hq => or_congr_right ⟨?_, ?_⟩
      · rintro ⟨h1, h2, h3⟩; exact ⟨h1, by omega, h3⟩
      · rintro ⟨h1, h2, h3⟩
        refine ⟨h1, ?_, h3⟩
        rcases Nat.lt_or_ge q c with h | h
        · exact h
        · obtain rfl : q = c := by omega
          rw [hft] at h3; cases h3
    | true =>
      have e1 : natE c = .int .i64 (c : Int) := rfl
      have e2 : tru c = .bool true := rfl
      by_cases hce : c ∈ es
      · have hput := gkC.vsame (val := tru) (k := c) (by omega) hesl hce und_mb hes
        rw [e1, e2] at hput
        have hself : hset H' n3 (.map (vE natE tru es 0) es.length 3) = H' := by
          funext z
          by_cases hz : z = n3
          · subst hz; rw [hset_at]; exact hes.symm
          · rw [hset_ne _ _ _ hz]
        simp (config := {maxSteps:=999999}) only [SS, qx9, forall_const, yx_nil, yx_true, yx_false, y1_false, y1_true, y2_none, y2_some, y3, simprocAttr, ff_55]
        repeat (first | apply WKD.seq | apply WKD.block | apply WKD.skipSeq | apply WKD.skipBlock | apply WKD.retSeq | apply WKD.retBlock | apply WKD.exitSeq | apply WKD.exitHere | refine WKD.exitOn rfl ?_ | ((first | (refine WKD.rgn ?_ ?_; kernel_rfl) | refine AtCallY.now ?_); simp (config := {maxSteps:=999999}) only [SS, qx9, forall_const, yx_nil, yx_true, yx_false, y1_false, y1_true, y2_none, y2_some, y3, simprocAttr, f10, f12, hw1, aop_mapset, hput, hself, ff_55]) | (refine WKD.condT ?_ ?_; focus (simp only [ev_tmp, ev_const, fset_apply, Nat.reduceEqDiff, ↓reduceIte, decide_true, decide_false, f10, f12, hw1, aop_mapset, hput, hself, ff_55]; done)) | (refine WKD.condF ?_ ?_; focus (simp only [ev_tmp, ev_const, fset_apply, Nat.reduceEqDiff, ↓reduceIte, decide_true, decide_false, f10, f12, hw1, aop_mapset, hput, hself, ff_55]; done)))
        refine ih3 (w.length + 1 - (c + 1)) (by omega) _ ?_
        refine ⟨c + 1, es, by omega, by omega, k7, hn7, hit7, hst7, hes, hen7, fun q => ?_, hb7, f0, f9, f10, f11, rfl, f17, f18, f19, f25, rfl⟩
        rw [hem q]
        refine and_congr_right fun hq => ⟨?_, ?_⟩
        · rintro (h | ⟨h1, h2, h3⟩)
          · exact .inl h
          · exact .inr ⟨h1, by omega, h3⟩
        · rintro (h | ⟨h1, h2, h3⟩)
          · exact .inl h
          · rcases Nat.lt_or_ge q c with h | h
            · exact .inr ⟨h1, h, h3⟩
            · obtain rfl : q = c := by omega
              exact ((hem q).1 hce).2
      · have hput := gkC.vput (val := tru) (val' := tru) (k := c) (by omega) hesl hce und_mb hes (fun _ _ => rfl)
        rw [e1, e2] at hput
        simp (config := {maxSteps:=999999}) only [SS, qx9, forall_const, yx_nil, yx_true, yx_false, y1_false, y1_true, y2_none, y2_some, y3, simprocAttr, ff_55]
        repeat (first | apply WKD.seq | apply WKD.block | apply WKD.skipSeq | apply WKD.skipBlock | apply WKD.retSeq | apply WKD.retBlock | apply WKD.exitSeq | apply WKD.exitHere | refine WKD.exitOn rfl ?_ | ((first | (refine WKD.rgn ?_ ?_; kernel_rfl) | refine AtCallY.now ?_); simp (config := {maxSteps:=999999}) only [SS, qx9, forall_const, yx_nil, yx_true, yx_false, y1_false, y1_true, y2_none, y2_some, y3, simprocAttr, f10, f12, hw1, aop_mapset, hput, ff_55]) | (refine WKD.condT ?_ ?_; focus (simp only [ev_tmp, ev_const, fset_apply, Nat.reduceEqDiff, ↓reduceIte, decide_true, decide_false, f10, f12, hw1, aop_mapset, hput, ff_55]; done)) | (refine WKD.condF ?_ ?_; focus (simp only [ev_tmp, ev_const, fset_apply, Nat.reduceEqDiff, ↓reduceIte, decide_true, decide_false, f10, f12, hw1, aop_mapset, hput, ff_55]; done)))
        refine ih3 (w.length + 1 - (c + 1)) (by omega) _ ?_
        refine ⟨c + 1, es ++ [c], by omega, by omega, k7.set _ (by omega) (by omega), hn7, (hset_ne _ _ _ (by omega)).trans hit7, (hset_ne _ _ _ (by omega)).trans hst7, hset_at _ _ _, ?_, fun q => ?_, (hset_ne _ _ _ (by omega)).trans hb7, f0, f9, f10, f11, rfl, f17, f18, f19, f25, rfl⟩
        · rw [List.nodup_append]
          refine ⟨hen7, by simp, fun a' ha' b' hb' e => ?_⟩
          have : b' = c := by simpa using hb'
          subst this e
          exact hce ha'
        · rw [List.mem_append, hem q]
          constructor
          · rintro (⟨hq, h⟩ | h)
            · refine ⟨hq, ?_⟩
              rcases h with h | ⟨h1, h2, h3⟩
              · exact .inl h
              · exact .inr ⟨h1, by omega, h3⟩
            · have : q = c := by simpa using h
              subst this
              exact ⟨hc, .inr ⟨hbc, by omega, hft⟩⟩
          · rintro ⟨hq, h | ⟨h1, h2, h3⟩⟩
            · exact .inl ⟨hq, .inl h⟩
            · rcases Nat.lt_or_ge q c with h | h
              · exact .inl ⟨hq, .inr ⟨h1, h, h3⟩⟩
              · obtain rfl : q = c := by omega
                exact .inr (by simp)
end Go.Proofs.Ytemkglelfeidhaa
