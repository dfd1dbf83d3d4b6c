/- A part of a proof. Its conditions: none. -/
import Derived.Test.YtemkglelfeidhaaAmJFoFlat
import Derived.Test.YtemkglelfeidhaaAmC
import Derived.Test.YtemkglelfeidhaaAmJFacts
set_option linter.all false
namespace Go.Proofs.Ytemkglelfeidhaa
open Go.AM Go.AM.Fo Go.RowKit
set_option maxRecDepth 100000
theorem row_get {C1 C2 xs : List Value} {kr k L : Nat} (h1 : (xs.drop kr).take (k * 3) = C1) (h2 : (xs.drop (kr + (k + 1) * 3)).take ((L - (k + 1)) * 3) = C2) (hl : C1.length = k * 3) {i c : Nat} (hi : i + 1 < L) (hk : k < L) (hc : c < 3) : (C1 ++ C2)[i * 3 + c]? = xs[kr + upN k i * 3 + c]? := by
  unfold upN
  by_cases h : k ≤ i
  · rw [if_pos h, List.getElem?_append_right (by omega), ← h2, List.getElem?_take, if_pos (by omega), List.getElem?_drop]
    congr 1; omega
  · rw [if_neg h, List.getElem?_append_left (by omega), ← h1, List.getElem?_take, if_pos (by omega), List.getElem?_drop]
    congr 1; omega
theorem rr_less {H H' : Heap} {kr z k : Nat} {xs C1 C2 : List Value} {g : Gram} (hk : k < g.rules.length) (hrows : ∀ (i : Nat) r, g.rules[i]? = some r → ∃ p, xs[kr + i * 3]? = some (.int .i64 r.left) ∧ xs[kr + i * 3 + 1]? = some (.slice p r.right.length r.right.length) ∧ xs[kr + i * 3 + 2]? = some (.float .f64 r.weight) ∧ RS (Value.int .i64) H p r.right)
    (hm : ∀ p l, RS (Value.int .i64) H p l → RS (Value.int .i64) H' p l) (h1 : (xs.drop kr).take (k * 3) = C1) (h2 : (xs.drop (kr + (k + 1) * 3)).take ((g.rules.length - (k + 1)) * 3) = C2) (hl : C1.length = k * 3) {ty : TypeId} (hz : H' z = .cells (C1 ++ C2) ty true) : RR H' (some ⟨z, 0, none⟩) (lessG g k).rules :=
  fun _ => ⟨z, 0, _, ty, true, rfl, hz, fun i r e => by
    have hi := (List.getElem?_eq_some_iff.1 e).1
    have hll := less_len hk
    rw [less_get hk] at e
    obtain ⟨p, c0, c1, c2, c3⟩ := hrows _ r e
    have hg := fun c hc => row_get h1 h2 hl (i := i) (c := c) (by omega) hk hc
    refine ⟨p, ?_, ?_, ?_, hm _ _ c3⟩
    · rw [Nat.zero_add]; exact (hg 0 (by omega)).trans c0
    · rw [Nat.zero_add]; exact (hg 1 (by omega)).trans c1
    · rw [Nat.zero_add]; exact (hg 2 (by omega)).trans c2⟩
theorem mem_less {g : Gram} {k : Nat} {r : GRule} (h : r ∈ (lessG g k).rules) : r ∈ g.rules := by
  unfold lessG at h
  rcases List.mem_append.1 h with h | h
  · exact List.mem_of_mem_take h
  · exact List.mem_of_mem_drop h
theorem wg_less {g : Gram} {k : Nat} (wg : WG g) (hk : k < g.rules.length) : WG (lessG g k) where
  terms := wg.terms
  vars := wg.vars
  rules := by have := less_len hk; have := wg.rules; omega
  left := fun r hr => wg.left r (mem_less hr)
  right := fun r hr => wg.right r (mem_less hr)
  weight := fun r hr => wg.weight r (mem_less hr)
  size := wg.size
theorem sg_less {g : Gram} {k : Nat} (sg : Sgm g) (hk : k < g.rules.length) (ok : RightOK (lessG g k)) : Sgm (lessG g k) :=
  ⟨ok_inG ok, by have := less_len hk; have := sg.rules; omega, sg.vars, fun r hr => sg.r8 r (mem_less hr), sg.t6, ok_up ok⟩
theorem dv_small {g : Gram} (hg : InG g) {K : Int} (hK : (g.terms.length : Int) ≤ K) {l d w : List Int} (h : Dv g l d w) : (∀ s ∈ l, s < 0 → -s - 1 < K) → ∀ t ∈ w, t < K := by
  induction h with
  | nil => intro _ t ht; cases ht
  | @term s l d w hs _ ih =>
    intro hl t ht
    rcases List.mem_cons.1 ht with rfl | ht
    · exact hl _ (by simp) hs
    · exact ih (fun s hs => hl s (by simp [hs])) t ht
  | @var i l d1 d2 w1 w2 h _ _ ih1 ih2 =>
    intro hl t ht
    rcases List.mem_append.1 ht with ht | ht
    · refine ih1 (fun s hs h0 => ?_) t ht
      rw [rgF_eq h] at hs
      have := hg.rightT _ (List.getElem_mem h) s hs h0
      omega
    · exact ih2 (fun s hs => hl s (by simp [hs])) t ht
theorem dv_rules {g : Gram} {l d w : List Int} (h : Dv g l d w) : ∀ r ∈ d, 0 ≤ r ∧ r < g.rules.length := by
  induction h with
  | nil => intro r hr; cases hr
  | term _ _ ih => exact ih
  | @var i l d1 d2 w1 w2 h _ _ ih1 ih2 =>
    intro r hr
    rcases List.mem_cons.1 hr with rfl | hr
    · omega
    · rcases List.mem_append.1 hr with hr | hr
      · exact ih1 r hr
      · exact ih2 r hr
set_option maxHeartbeats 16000000 in
theorem lessLaw_gives {v : Value} {g : Gram} {pa : Option Addr} {w : List Int} {kk : Int} {n : Nat} {H : Heap} (hw : WF n H) (hg : RG H v g) (wg : WG g) (hro : AllRO H) (hq : RS (Value.int .i64) H pa w) :
    GivesD Try.prog 5 [v, .slice pa w.length w.length, .int .i64 kk] n H fun v _ _ => v = .bool true := by
  have hg0 := hg
  obtain ⟨pt, pv, pr, rfl, ht, hv, hr⟩ := hg
  have hr0 := hr
  have hq' := hq
  refine GivesD.of orders ok5 (Nat.le_of_ble_eq_true rfl) ?_
  have k1 := Kp.new n H (.cells (gcells pt pv pr g) 25 true)
  have hb1 := hset_at H n (.cells (gcells pt pv pr g) 25 true)
  repeat (first | apply WKD.seq | apply WKD.block | apply WKD.skipSeq | apply WKD.skipBlock | apply WKD.retSeq | apply WKD.retBlock | apply WKD.exitSeq | apply WKD.exitHere | refine WKD.exitOn rfl ?_)
  (refine WKD.rgn ?_ ?_; kernel_rfl; simp (config := {maxSteps:=999999}) only [SS, qx4, forall_const, yx_nil, yx_true, yx_false, y1_false, y1_true, y2_none, y2_some, y3, vun, simprocAttr, abox, box_cells, box_one, ff_5])
  generalize hset H n (.cells (gcells pt pv pr g) 25 true) = H1 at *
  have hw1 := k1.wf hw
  repeat (first | apply WKD.seq | apply WKD.block | apply WKD.skipSeq | apply WKD.skipBlock | apply WKD.retSeq | apply WKD.retBlock | apply WKD.exitSeq | apply WKD.exitHere | refine WKD.exitOn rfl ?_ | ((first | (refine WKD.rgn ?_ ?_; kernel_rfl) | refine AtCallY.now ?_); simp (config := {maxSteps:=999999}) only [SS, qx4, forall_const, yx_nil, yx_true, yx_false, y1_false, y1_true, y2_none, y2_some, y3, vun, simprocAttr, ff_5]) | (refine WKD.condT ?_ ?_; focus (simp only [ev_tmp, ev_const, fset_apply, Nat.reduceEqDiff, ↓reduceIte, decide_true, decide_false, ff_5]; done)) | (refine WKD.condF ?_ ?_; focus (simp only [ev_tmp, ev_const, fset_apply, Nat.reduceEqDiff, ↓reduceIte, decide_true, decide_false, ff_5]; done)))
  refine AtCallY.byD (alive_gives hw1) ?_
  rintro v n2 H2 k2 rfl
  have hw2 := k2.wf hw1
  have hle1 := k1.le
  have hle2 := k2.le
  have hb2 := (k2.keep n (by omega)).trans hb1
  have hg2 := (hg0.mono hw k1).mono hw1 k2
  simp (config := {maxSteps:=999999}) only [SS, qx4, forall_const, yx_nil, yx_true, yx_false, y1_false, y1_true, y2_none, y2_some, y3, vun, simprocAttr, ff_5]
  repeat (first | apply WKD.seq | apply WKD.block | apply WKD.skipSeq | apply WKD.skipBlock | apply WKD.retSeq | apply WKD.retBlock | apply WKD.exitSeq | apply WKD.exitHere | refine WKD.exitOn rfl ?_ | ((first | (refine WKD.rgn ?_ ?_; kernel_rfl) | refine AtCallY.now ?_); simp (config := {maxSteps:=999999}) only [SS, qx4, forall_const, yx_nil, yx_true, yx_false, y1_false, y1_true, y2_none, y2_some, y3, vun, simprocAttr, hb2, gc_all, gc_len, ff_5]) | (refine WKD.condT ?_ ?_; focus (simp only [ev_tmp, ev_const, fset_apply, Nat.reduceEqDiff, ↓reduceIte, decide_true, decide_false, hb2, gc_all, gc_len, ff_5]; done)) | (refine WKD.condF ?_ ?_; focus (simp only [ev_tmp, ev_const, fset_apply, Nat.reduceEqDiff, ↓reduceIte, decide_true, decide_false, hb2, gc_all, gc_len, ff_5]; done)))
  refine AtCallY.by (few_gives hw2 hg2 wg) ?_
  rintro v n3 H3 k3 rfl
  have hw3 := k3.wf hw2
  have hle3 := k3.le
  have hb3 := (k3.keep n (by omega)).trans hb2
  have hg3 := hg2.mono hw2 k3
  have kk3 : ∀ z, z < n → H3 z = H z := fun z hz => (k3.keep z (by omega)).trans ((k2.keep z (by omega)).trans (k1.keep z hz))
  cases hf : few g with
  | false =>
    simp (config := {maxSteps:=999999}) only [SS, qx4, forall_const, yx_nil, yx_true, yx_false, y1_false, y1_true, y2_none, y2_some, y3, vun, simprocAttr, Bool.not_false, ff_5]
    repeat (first | apply WKD.seq | apply WKD.block | apply WKD.skipSeq | apply WKD.skipBlock | apply WKD.retSeq | apply WKD.retBlock | apply WKD.exitSeq | apply WKD.exitHere | refine WKD.exitOn rfl ?_ | ((first | (refine WKD.rgn ?_ ?_; kernel_rfl) | refine AtCallY.now ?_); simp (config := {maxSteps:=999999}) only [SS, qx4, forall_const, yx_nil, yx_true, yx_false, y1_false, y1_true, y2_none, y2_some, y3, vun, simprocAttr, ff_5]) | (refine WKD.condT ?_ ?_; focus (simp only [ev_tmp, ev_const, fset_apply, Nat.reduceEqDiff, ↓reduceIte, decide_true, decide_false, ff_5]; done)) | (refine WKD.condF ?_ ?_; focus (simp only [ev_tmp, ev_const, fset_apply, Nat.reduceEqDiff, ↓reduceIte, decide_true, decide_false, ff_5]; done)))
    (first | refine WKD.retNil ⟨Or.inr rfl, _, rfl, ?_, ?_⟩ | refine WKD.skipNil ⟨Or.inl rfl, _, rfl, ?_, ?_⟩)
    · exact kk3
    · simp only [packed, fset_apply, Nat.reduceEqDiff, ↓reduceIte, List.getD_cons_zero, List.getD_cons_succ, ff_5]
  | true =>
    simp (config := {maxSteps:=999999}) only [SS, qx4, forall_const, yx_nil, yx_true, yx_false, y1_false, y1_true, y2_none, y2_some, y3, vun, simprocAttr, Bool.not_true, hb3, gc_all, gc_len, ff_5]
    refine AtCallY.by (right_gives hw3 hg3 wg) ?_
    rintro v n4 H4 k4 ⟨t, rfl, hok⟩
    have hw4 := k4.wf hw3
    have hle4 := k4.le
    have hb4 := (k4.keep n (by omega)).trans hb3
    have hg4 := hg3.mono hw3 k4
    have kk4 : ∀ z, z < n → H4 z = H z := fun z hz => (k4.keep z (by omega)).trans (kk3 z hz)
    cases t with
    | false =>
      simp (config := {maxSteps:=999999}) only [SS, qx4, forall_const, yx_nil, yx_true, yx_false, y1_false, y1_true, y2_none, y2_some, y3, vun, simprocAttr, Bool.not_false, ff_5]
      repeat (first | apply WKD.seq | apply WKD.block | apply WKD.skipSeq | apply WKD.skipBlock | apply WKD.retSeq | apply WKD.retBlock | apply WKD.exitSeq | apply WKD.exitHere | refine WKD.exitOn rfl ?_ | ((first | (refine WKD.rgn ?_ ?_; kernel_rfl) | refine AtCallY.now ?_); simp (config := {maxSteps:=999999}) only [SS, qx4, forall_const, yx_nil, yx_true, yx_false, y1_false, y1_true, y2_none, y2_some, y3, vun, simprocAttr, ff_5]) | (refine WKD.condT ?_ ?_; focus (simp only [ev_tmp, ev_const, fset_apply, Nat.reduceEqDiff, ↓reduceIte, decide_true, decide_false, ff_5]; done)) | (refine WKD.condF ?_ ?_; focus (simp only [ev_tmp, ev_const, fset_apply, Nat.reduceEqDiff, ↓reduceIte, decide_true, decide_false, ff_5]; done)))
      (first | refine WKD.retNil ⟨Or.inr rfl, _, rfl, ?_, ?_⟩ | refine WKD.skipNil ⟨Or.inl rfl, _, rfl, ?_, ?_⟩)
      · exact kk4
      · simp only [packed, fset_apply, Nat.reduceEqDiff, ↓reduceIte, List.getD_cons_zero, List.getD_cons_succ, ff_5]
    | true =>
      have ok := hok rfl
      by_cases hal : (8 : Int) < (w.length : Int)
      · simp (config := {maxSteps:=999999}) only [SS, qx4, forall_const, yx_nil, yx_true, yx_false, y1_false, y1_true, y2_none, y2_some, y3, vun, simprocAttr, Bool.not_true, hal, decide_true, ff_5]
        repeat (first | apply WKD.seq | apply WKD.block | apply WKD.skipSeq | apply WKD.skipBlock | apply WKD.retSeq | apply WKD.retBlock | apply WKD.exitSeq | apply WKD.exitHere | refine WKD.exitOn rfl ?_ | ((first | (refine WKD.rgn ?_ ?_; kernel_rfl) | refine AtCallY.now ?_); simp (config := {maxSteps:=999999}) only [SS, qx4, forall_const, yx_nil, yx_true, yx_false, y1_false, y1_true, y2_none, y2_some, y3, vun, simprocAttr, ff_5]) | (refine WKD.condT ?_ ?_; focus (simp only [ev_tmp, ev_const, fset_apply, Nat.reduceEqDiff, ↓reduceIte, decide_true, decide_false, ff_5]; done)) | (refine WKD.condF ?_ ?_; focus (simp only [ev_tmp, ev_const, fset_apply, Nat.reduceEqDiff, ↓reduceIte, decide_true, decide_false, ff_5]; done)))
        (first | refine WKD.retNil ⟨Or.inr rfl, _, rfl, ?_, ?_⟩ | refine WKD.skipNil ⟨Or.inl rfl, _, rfl, ?_, ?_⟩)
        · exact kk4
        · simp only [packed, fset_apply, Nat.reduceEqDiff, ↓reduceIte, List.getD_cons_zero, List.getD_cons_succ, ff_5]
      have hne : 0 < g.rules.length := by
        have h1 := ok.count 0 (by have := ok.vars1; omega)
        apply Classical.byContradiction
        intro h
        have : g.rules = [] := List.length_eq_zero_iff.1 (by omega)
        rw [this] at h1
        exact h1 rfl
      have hL0 : ((g.rules.length : Int) = 0) = False := by simp only [eq_iff_iff, iff_false]; omega
      obtain ⟨j, hj, hjw⟩ := low_bits kk
      have sg := ok_sgm ok hf
      obtain ⟨k, hk⟩ : ∃ k, j % g.rules.length = k := ⟨_, rfl⟩
      have hkl : k < g.rules.length := by rw [← hk]; exact Nat.mod_lt _ hne
      have hrest : ((j : Int).tmod (g.rules.length : Int)) = (k : Int) := by rw [rest_nat, hk]
      have gc_2 : (gcells pt pv pr g)[2]? = some (.slice pr g.rules.length g.rules.length) := rfl
      have spg : AM.splice [Value.slice none 0 0, Value.slice none 0 0, Value.slice none 0 0] 0 (gcells pt pv pr g) = gcells pt pv pr g := rfl
      simp (config := {maxSteps:=999999}) only [SS, qx4, forall_const, yx_nil, yx_true, yx_false, y1_false, y1_true, y2_none, y2_some, y3, vun, simprocAttr, Bool.not_true, hal, decide_true, decide_false, ff_5]
      repeat (first | apply WKD.seq | apply WKD.block | apply WKD.skipSeq | apply WKD.skipBlock | apply WKD.retSeq | apply WKD.retBlock | apply WKD.exitSeq | apply WKD.exitHere | refine WKD.exitOn rfl ?_)
      first | (refine WKD.condT ?_ ?_; focus (simp only [ev_tmp, ev_const, fset_apply, Nat.reduceEqDiff, ↓reduceIte, decide_true, decide_false]; done)) | (refine WKD.condF ?_ ?_; focus (simp only [ev_tmp, ev_const, fset_apply, Nat.reduceEqDiff, ↓reduceIte, decide_true, decide_false]; done))
      repeat (first | apply WKD.seq | apply WKD.block | apply WKD.skipSeq | apply WKD.skipBlock | apply WKD.retSeq | apply WKD.retBlock | apply WKD.exitSeq | apply WKD.exitHere | refine WKD.exitOn rfl ?_)
      (refine WKD.rgn ?_ ?_; kernel_rfl; simp (config := {maxSteps:=999999}) only [SS, qx4, forall_const, yx_nil, yx_true, yx_false, y1_false, y1_true, y2_none, y2_some, y3, vun, simprocAttr, hb4, gc_2, hL0, hjw, hrest, ff_5])
      repeat (first | apply WKD.seq | apply WKD.block | apply WKD.skipSeq | apply WKD.skipBlock | apply WKD.retSeq | apply WKD.retBlock | apply WKD.exitSeq | apply WKD.exitHere | refine WKD.exitOn rfl ?_)
      (refine WKD.rgn ?_ ?_; kernel_rfl; simp (config := {maxSteps:=999999}) only [SS, qx4, forall_const, yx_nil, yx_true, yx_false, y1_false, y1_true, y2_none, y2_some, y3, vun, simprocAttr, hb4, gc_all, gc_len, box_cells, box_one, spg, hset_at, ff_5])
      repeat (first | apply WKD.seq | apply WKD.block | apply WKD.skipSeq | apply WKD.skipBlock | apply WKD.retSeq | apply WKD.retBlock | apply WKD.exitSeq | apply WKD.exitHere | refine WKD.exitOn rfl ?_)
      have k5 := Kp.new n4 H4 (.cells (gcells pt pv pr g) 25 true)
      have hh5 := hset_at H4 n4 (.cells (gcells pt pv pr g) 25 true)
      have hb5 := (k5.keep n (by omega)).trans hb4
      generalize hset H4 n4 (.cells (gcells pt pv pr g) 25 true) = H5 at *
      have hw5 := k5.wf hw4
      have kA := k1.trans (k2.trans (k3.trans (k4.trans k5)))
      obtain ⟨xr, kr, xs, xty, xown, rfl, hxr0, hrows⟩ := hr (by intro e; rw [e] at hne; simp at hne)
      obtain rfl := hro _ _ _ _ hxr0
      have hlen : kr + g.rules.length * 3 ≤ xs.length := by
        obtain ⟨_, _, _, c2, _⟩ := hrows (g.rules.length - 1) _ (List.getElem?_eq_getElem (by omega))
        have := (List.getElem?_eq_some_iff.1 c2).1
        omega
      have hkle : k ≤ g.rules.length := by omega
      have hkle1 : k + 1 ≤ g.rules.length := by omega
      have hs1 : kr + k * 3 ≤ xs.length := by omega
      have hs2 : kr + (k + 1) * 3 + (g.rules.length - (k + 1)) * 3 ≤ xs.length := by omega
      obtain ⟨C1, hC1⟩ : ∃ C1, (xs.drop kr).take (k * 3) = C1 := ⟨_, rfl⟩
      obtain ⟨C2, hC2⟩ : ∃ C2, (xs.drop (kr + (k + 1) * 3)).take ((g.rules.length - (k + 1)) * 3) = C2 := ⟨_, rfl⟩
      have hl1 : C1.length = k * 3 := by rw [← hC1, List.length_take, List.length_drop]; omega
      have hb1' : 0 + k ≤ bigN := by have := sg.rules; unfold bigN; omega
      have hb1'' : k ≤ bigN := by have := sg.rules; unfold bigN; omega
      have hb2' : k + (g.rules.length - (k + 1)) ≤ bigN := by have := sg.rules; unfold bigN; omega
      have ht1 : C1.take (k * 3) = C1 := List.take_of_length_le (by omega)
      have hxr := (kA.keep xr (live_m hw (by rw [hxr0]; intro e; cases e))).trans hxr0
      have q1 : ∀ (H : Heap) ob, hset H (n4 + 1) ob n = H n := fun H ob => hset_ne _ _ _ (by omega)
      have q2 : ∀ (H : Heap) ob, hset H (n4 + 1) ob n4 = H n4 := fun H ob => hset_ne _ _ _ (by omega)
      have xrn := live_m hw (z := xr) (by rw [hxr0]; intro e; cases e)
      have hle := kA.le
      have q3 : ∀ (H : Heap) ob, hset H (n4 + 1) ob xr = H xr := fun H ob => hset_ne _ _ _ (by omega)
      have q4 : ∀ (H : Heap) ob, hset H (n4 + 1 + 1) ob n = H n := fun H ob => hset_ne _ _ _ (by omega)
      have q5 : ∀ (H : Heap) ob, hset H (n4 + 1 + 1) ob n4 = H n4 := fun H ob => hset_ne _ _ _ (by omega)
      have q6 : ∀ (H : Heap) ob, hset H (n4 + 1 + 1) ob xr = H xr := fun H ob => hset_ne _ _ _ (by omega)
      have q7 : ∀ (H : Heap) ob, hset H (n4 + 1 + 1 + 1) ob n4 = H n4 := fun H ob => hset_ne _ _ _ (by omega)
      have hct1 : [xr].contains (n4 + 1) = false := by simp; omega
      have hct2 : [xr].contains (n4 + 1 + 1) = false := by simp; omega
      have hg3 : (gcells pt pv (some ⟨xr, kr, none⟩) g).length = 3 := rfl
      have wk1 : IntKind.i64.wrap ((k : Int) + 1) = ((k + 1 : Nat) : Int) := by have := sg.rules; rw [wrap_in (by omega) (by omega)]; rfl
      (refine WKD.viaWK ?_; refine WK.rgl [(5, 7), (5, 10)] (by kernel_rfl) ?_; simp (config := {maxSteps:=999999}) only [wl, wl1_false, wl1_true, wl2_none, wl2_some, wl3_some, wl3_none, SS, forall_const, wx, tguard, acallee, top, tval, fput, tor, vsh, vbin, vun, tload, tload2, tload3, tstore, tstore2, tstore3, Go.AM.splice, one, tidx, tidx2, tidx3, tfa, tfa2, tlen2, tlen3, tpick, textr, tbox, talloc, still, still1, flat1, tbs, tbs2, afill, tsl, tsl2, tsl3, tsl4, tsl5, Go.AM.bound, tap, tap2, tap3, tap4, tsrc, tsrc2, simprocAttr, hb5, gc_2, q1, q2, q3, q4, q5, q6, q7, hct1, hct2, hg3, hxr, hh5, wk1, hset_at, hkle, hkle1, hs1, hs2, hC1, hC2, hl1, hb1', hb1'', hb2', ht1, Bool.false_eq_true, false_imp_iff, and_true, Int.toNat_natCast, Nat.zero_add, List.length_nil, List.take_nil, List.drop_nil, List.nil_append, Nat.zero_mul, Nat.le_refl, ff_5])
      refine ⟨light_cons rfl rfl (lapart_wr (by simp; omega)) (light_cons rfl rfl (lapart_wr (by simp; omega)) light_nil), ?_⟩
      refine WK.skipNil ⟨rfl, ?_⟩
      rw [List.drop_zero, ht1]
      have hll := less_len hkl
      have hgl : k + (g.rules.length - (k + 1)) = (lessG g k).rules.length := by omega
      have hgs : (gcells pt pv (some ⟨xr, kr, none⟩) g).set 2 (.slice (some ⟨n4 + 1 + 1 + 1, 0, none⟩) (k + (g.rules.length - (k + 1))) (k + (g.rules.length - (k + 1)))) = gcells pt pv (some ⟨n4 + 1 + 1 + 1, 0, none⟩) (lessG g k) := by rw [hgl]; rfl
      rw [hgs]
      have k6 : Kp n4 H4 (n4 + 1 + 1 + 1 + 1) (hset (hset (hset (hset H5 (n4 + 1) .dead) (n4 + 1 + 1) .dead) (n4 + 1 + 1 + 1) (.cells (C1 ++ C2) 49 true)) n4 (.cells (gcells pt pv (some ⟨n4 + 1 + 1 + 1, 0, none⟩) (lessG g k)) 25 true)) :=
        (((k5.trans ((Kp.new (n4 + 1) H5 .dead).trans (Kp.new (n4 + 1 + 1) _ .dead))).trans (Kp.new (n4 + 1 + 1 + 1) _ (.cells (C1 ++ C2) 49 true))).set (x := n4) _ (Nat.le_refl _) (by omega))
      have hz6 : (hset (hset (hset (hset H5 (n4 + 1) .dead) (n4 + 1 + 1) .dead) (n4 + 1 + 1 + 1) (.cells (C1 ++ C2) 49 true)) n4 (.cells (gcells pt pv (some ⟨n4 + 1 + 1 + 1, 0, none⟩) (lessG g k)) 25 true)) (n4 + 1 + 1 + 1) = .cells (C1 ++ C2) 49 true := (hset_ne _ _ _ (by omega)).trans (hset_at _ _ _)
      have hh6 := hset_at (hset (hset (hset H5 (n4 + 1) .dead) (n4 + 1 + 1) .dead) (n4 + 1 + 1 + 1) (.cells (C1 ++ C2) 49 true)) n4 (.cells (gcells pt pv (some ⟨n4 + 1 + 1 + 1, 0, none⟩) (lessG g k)) 25 true)
      generalize hset (hset (hset (hset H5 (n4 + 1) .dead) (n4 + 1 + 1) .dead) (n4 + 1 + 1 + 1) (.cells (C1 ++ C2) 49 true)) n4 (.cells (gcells pt pv (some ⟨n4 + 1 + 1 + 1, 0, none⟩) (lessG g k)) 25 true) = H6 at *
      have hw6 := k6.wf hw4
      have kB := k1.trans (k2.trans (k3.trans (k4.trans k6)))
      have hb6 := (k6.keep n (by omega)).trans hb4
      have hrr := rr_less hkl hrows (fun p l h => h.mono hw kB) hC1 hC2 hl1 hz6
      have hgh : RG H6 (.agg (gcells pt pv (some ⟨n4 + 1 + 1 + 1, 0, none⟩) (lessG g k)).toArray) (lessG g k) := ⟨pt, pv, _, rfl, ht.mono hw kB, hv.mono hw kB, hrr⟩
      have wgh := wg_less wg hkl
      have gh_all := gc_all pt pv (some ⟨n4 + 1 + 1 + 1, 0, none⟩) (lessG g k)
      have gh_len := gc_len pt pv (some ⟨n4 + 1 + 1 + 1, 0, none⟩) (lessG g k)
      repeat (first | apply WKD.seq | apply WKD.block | apply WKD.skipSeq | apply WKD.skipBlock | apply WKD.retSeq | apply WKD.retBlock | apply WKD.exitSeq | apply WKD.exitHere | refine WKD.exitOn rfl ?_ | ((first | (refine WKD.rgn ?_ ?_; kernel_rfl) | refine AtCallY.now ?_); simp (config := {maxSteps:=999999}) only [SS, qx4, forall_const, yx_nil, yx_true, yx_false, y1_false, y1_true, y2_none, y2_some, y3, vun, simprocAttr, hh6, gh_all, gh_len, ff_5]) | (refine WKD.condT ?_ ?_; focus (simp only [ev_tmp, ev_const, fset_apply, Nat.reduceEqDiff, ↓reduceIte, decide_true, decide_false, hh6, gh_all, gh_len, ff_5]; done)) | (refine WKD.condF ?_ ?_; focus (simp only [ev_tmp, ev_const, fset_apply, Nat.reduceEqDiff, ↓reduceIte, decide_true, decide_false, hh6, gh_all, gh_len, ff_5]; done)))
      refine AtCallY.by (right_gives hw6 hgh wgh) ?_
      rintro v n7 H7 k7 ⟨t, rfl, hokh⟩
      have hw7 := k7.wf hw6
      have hh7 := (k7.keep n4 (by omega)).trans hh6
      have hb7 := (k7.keep n (by omega)).trans hb6
      have hle7 := k7.le
      have kC := kB.trans k7
      cases t with
      | false =>
        simp (config := {maxSteps:=999999}) only [SS, qx4, forall_const, yx_nil, yx_true, yx_false, y1_false, y1_true, y2_none, y2_some, y3, vun, simprocAttr, Bool.not_false, ff_5]
        repeat (first | apply WKD.seq | apply WKD.block | apply WKD.skipSeq | apply WKD.skipBlock | apply WKD.retSeq | apply WKD.retBlock | apply WKD.exitSeq | apply WKD.exitHere | refine WKD.exitOn rfl ?_ | ((first | (refine WKD.rgn ?_ ?_; kernel_rfl) | refine AtCallY.now ?_); simp (config := {maxSteps:=999999}) only [SS, qx4, forall_const, yx_nil, yx_true, yx_false, y1_false, y1_true, y2_none, y2_some, y3, vun, simprocAttr, ff_5]) | (refine WKD.condT ?_ ?_; focus (simp only [ev_tmp, ev_const, fset_apply, Nat.reduceEqDiff, ↓reduceIte, decide_true, decide_false, ff_5]; done)) | (refine WKD.condF ?_ ?_; focus (simp only [ev_tmp, ev_const, fset_apply, Nat.reduceEqDiff, ↓reduceIte, decide_true, decide_false, ff_5]; done)))
        (first | refine WKD.retNil ⟨Or.inr rfl, _, rfl, ?_, ?_⟩ | refine WKD.skipNil ⟨Or.inl rfl, _, rfl, ?_, ?_⟩)
        · exact kC.keep
        · simp only [packed, fset_apply, Nat.reduceEqDiff, ↓reduceIte, List.getD_cons_zero, List.getD_cons_succ, ff_5]
      | true =>
        have okh := hokh rfl
        have sgh := sg_less sg hkl okh
        simp (config := {maxSteps:=999999}) only [SS, qx4, forall_const, yx_nil, yx_true, yx_false, y1_false, y1_true, y2_none, y2_some, y3, vun, simprocAttr, Bool.not_true, ff_5]
        repeat (first | apply WKD.seq | apply WKD.block | apply WKD.skipSeq | apply WKD.skipBlock | apply WKD.retSeq | apply WKD.retBlock | apply WKD.exitSeq | apply WKD.exitHere | refine WKD.exitOn rfl ?_ | ((first | (refine WKD.rgn ?_ ?_; kernel_rfl) | refine AtCallY.now ?_); simp (config := {maxSteps:=999999}) only [SS, qx4, forall_const, yx_nil, yx_true, yx_false, y1_false, y1_true, y2_none, y2_some, y3, vun, simprocAttr, hh7, gh_all, gh_len, ff_5]) | (refine WKD.condT ?_ ?_; focus (simp only [ev_tmp, ev_const, fset_apply, Nat.reduceEqDiff, ↓reduceIte, decide_true, decide_false, hh7, gh_all, gh_len, ff_5]; done)) | (refine WKD.condF ?_ ?_; focus (simp only [ev_tmp, ev_const, fset_apply, Nat.reduceEqDiff, ↓reduceIte, decide_true, decide_false, hh7, gh_all, gh_len, ff_5]; done)))
        have hwl10 : w.length ≤ 10 := by omega
        obtain ⟨th, hth⟩ := tn_ex (lessG g k) w
        obtain ⟨tg, htg⟩ := tn_ex g w
        have hle : (tg < th) = False := by
          have := hth.less hkl htg
          simp only [eq_iff_iff, iff_false]; omega
        have hr7 := hr0.mono hw kC
        have hq7 := hq.mono hw kC
        have hrr7 := hrr.mono hw6 k7
        refine AtCall.by (trees_flat hw7 hrr7 hq7 sgh hwl10 hth) ?_
        rintro v n8 H8 _ ⟨rfl, rfl, rfl⟩
        simp (config := {maxSteps:=999999}) only [SS, qx4, forall_const, yx_nil, yx_true, yx_false, y1_false, y1_true, y2_none, y2_some, y3, vun, simprocAttr, hb7, gc_all, gc_len, ff_5]
        refine AtCall.by (trees_flat hw7 hr7 hq7 sg hwl10 htg) ?_
        rintro v n8 H8 _ ⟨rfl, rfl, rfl⟩
        simp (config := {maxSteps:=999999}) only [SS, qx4, forall_const, yx_nil, yx_true, yx_false, y1_false, y1_true, y2_none, y2_some, y3, vun, simprocAttr, ff_5]
        repeat (first | apply WKD.seq | apply WKD.block | apply WKD.skipSeq | apply WKD.skipBlock | apply WKD.retSeq | apply WKD.retBlock | apply WKD.exitSeq | apply WKD.exitHere | refine WKD.exitOn rfl ?_ | ((first | (refine WKD.rgn ?_ ?_; kernel_rfl) | refine AtCallY.now ?_); simp (config := {maxSteps:=999999}) only [SS, qx4, forall_const, yx_nil, yx_true, yx_false, y1_false, y1_true, y2_none, y2_some, y3, vun, simprocAttr, hle, decide_false, hh7, gh_all, gh_len, ff_5]) | (refine WKD.condT ?_ ?_; focus (simp only [ev_tmp, ev_const, fset_apply, Nat.reduceEqDiff, ↓reduceIte, decide_true, decide_false, hle, decide_false, hh7, gh_all, gh_len, ff_5]; done)) | (refine WKD.condF ?_ ?_; focus (simp only [ev_tmp, ev_const, fset_apply, Nat.reduceEqDiff, ↓reduceIte, decide_true, decide_false, hle, decide_false, hh7, gh_all, gh_len, ff_5]; done)))
        refine AtCallY.byD (new_gives hw7 hrr7 hq7 sgh (by unfold maxL; omega)) ?_
        rintro v n8 H8 k8 hv8
        rcases hv8 with ⟨h, _⟩ | ⟨_, fo, m, pw, ks, rd, rfl, md⟩
        · omega
        have hw8 := k8.wf hw7
        have kD := kC.trans k8
        simp (config := {maxSteps:=999999}) only [SS, qx4, forall_const, yx_nil, yx_true, yx_false, y1_false, y1_true, y2_none, y2_some, y3, vun, simprocAttr, ff_5]
        refine AtCallY.by (one_gives hw8 md hwl10 sgh (Kp.refl _ _)) ?_
        rintro v n9 H9 k9 hv9
        have hw9 := k9.wf hw8
        have kE := kD.trans k9
        rcases hv9 with ⟨_, rfl⟩ | ⟨hrd, u, rfl, hu⟩
        · simp (config := {maxSteps:=999999}) only [SS, qx4, forall_const, yx_nil, yx_true, yx_false, y1_false, y1_true, y2_none, y2_some, y3, vun, simprocAttr, ff_5]
          repeat (first | apply WKD.seq | apply WKD.block | apply WKD.skipSeq | apply WKD.skipBlock | apply WKD.retSeq | apply WKD.retBlock | apply WKD.exitSeq | apply WKD.exitHere | refine WKD.exitOn rfl ?_ | ((first | (refine WKD.rgn ?_ ?_; kernel_rfl) | refine AtCallY.now ?_); simp (config := {maxSteps:=999999}) only [SS, qx4, forall_const, yx_nil, yx_true, yx_false, y1_false, y1_true, y2_none, y2_some, y3, vun, simprocAttr, ff_5]) | (refine WKD.condT ?_ ?_; focus (simp only [ev_tmp, ev_const, fset_apply, Nat.reduceEqDiff, ↓reduceIte, decide_true, decide_false, ff_5]; done)) | (refine WKD.condF ?_ ?_; focus (simp only [ev_tmp, ev_const, fset_apply, Nat.reduceEqDiff, ↓reduceIte, decide_true, decide_false, ff_5]; done)))
          (first | refine WKD.retNil ⟨Or.inr rfl, _, rfl, ?_, ?_⟩ | refine WKD.skipNil ⟨Or.inl rfl, _, rfl, ?_, ?_⟩)
          · exact kE.keep
          · simp only [packed, fset_apply, Nat.reduceEqDiff, ↓reduceIte, List.getD_cons_zero, List.getD_cons_succ, ff_5]
        have hd := tn_pl md.ok sgh.ing hrd
        generalize pl (lessG g k) w rd (root w) = d at *
        obtain ⟨zd, rfl, _, hzd⟩ := hu
        by_cases hdl : (200 : Int) < (d.length : Int)
        · simp (config := {maxSteps:=999999}) only [SS, qx4, forall_const, yx_nil, yx_true, yx_false, y1_false, y1_true, y2_none, y2_some, y3, vun, simprocAttr, ff_5]
          repeat (first | apply WKD.seq | apply WKD.block | apply WKD.skipSeq | apply WKD.skipBlock | apply WKD.retSeq | apply WKD.retBlock | apply WKD.exitSeq | apply WKD.exitHere | refine WKD.exitOn rfl ?_ | ((first | (refine WKD.rgn ?_ ?_; kernel_rfl) | refine AtCallY.now ?_); simp (config := {maxSteps:=999999}) only [SS, qx4, forall_const, yx_nil, yx_true, yx_false, y1_false, y1_true, y2_none, y2_some, y3, vun, simprocAttr, hdl, decide_true, ff_5]) | (refine WKD.condT ?_ ?_; focus (simp only [ev_tmp, ev_const, fset_apply, Nat.reduceEqDiff, ↓reduceIte, decide_true, decide_false, hdl, decide_true, ff_5]; done)) | (refine WKD.condF ?_ ?_; focus (simp only [ev_tmp, ev_const, fset_apply, Nat.reduceEqDiff, ↓reduceIte, decide_true, decide_false, hdl, decide_true, ff_5]; done)))
          (first | refine WKD.retNil ⟨Or.inr rfl, _, rfl, ?_, ?_⟩ | refine WKD.skipNil ⟨Or.inl rfl, _, rfl, ?_, ?_⟩)
          · exact kE.keep
          · simp only [packed, fset_apply, Nat.reduceEqDiff, ↓reduceIte, List.getD_cons_zero, List.getD_cons_succ, ff_5]
        simp (config := {maxSteps:=999999}) only [SS, qx4, forall_const, yx_nil, yx_true, yx_false, y1_false, y1_true, y2_none, y2_some, y3, vun, simprocAttr, ff_5]
        repeat (first | apply WKD.seq | apply WKD.block | apply WKD.skipSeq | apply WKD.skipBlock | apply WKD.retSeq | apply WKD.retBlock | apply WKD.exitSeq | apply WKD.exitHere | refine WKD.exitOn rfl ?_ | ((first | (refine WKD.rgn ?_ ?_; kernel_rfl) | refine AtCallY.now ?_); simp (config := {maxSteps:=999999}) only [SS, qx4, forall_const, yx_nil, yx_true, yx_false, y1_false, y1_true, y2_none, y2_some, y3, vun, simprocAttr, hdl, decide_false, ff_5]) | (refine WKD.condT ?_ ?_; focus (simp only [ev_tmp, ev_const, fset_apply, Nat.reduceEqDiff, ↓reduceIte, decide_true, decide_false, hdl, decide_false, ff_5]; done)) | (refine WKD.condF ?_ ?_; focus (simp only [ev_tmp, ev_const, fset_apply, Nat.reduceEqDiff, ↓reduceIte, decide_true, decide_false, hdl, decide_false, ff_5]; done)))
        have kY := Kp.new n9 H9 (.cells [] 3 true)
        have hY := hset_at H9 n9 (.cells [] 3 true)
        have hzdn : zd < n9 := live_m hw9 (by rw [hzd]; intro e; cases e)
        generalize hset H9 n9 (.cells [] 3 true) = HY at *
        have hb9 := ((k8.trans k9).keep n (by have := k7.le; have := k6.le; omega)).trans hb7
        have hle9 : n + 1 ≤ n9 := by have := k6.le; have := k7.le; have := k8.le; have := k9.le; omega
        have hrul := dv_rules hd
        have hll' := less_len hkl
        have hr24 := sg.rules
        have hin : ∀ t ∈ w, inI t ∧ inI (-t - 1) := fun t ht => by
          have h1 := hd.pos sgh.ing t ht
          have h2 := dv_small sgh.ing (K := 6) (by have := sgh.t6; omega) hd (fun s hs h0 => by simp at hs; omega) t ht
          unfold inI
          omega
        refine WKD.loop (fun kq s => ∃ (q y : Nat) (o : List Int), Kp n9 H9 s.n s.H ∧ s.f 1 = .slice pa w.length w.length ∧ s.f 2 = .int .i64 (k : Nat) ∧ s.f 3 = .pointer (some ⟨n, 0, none⟩) ∧ s.f 10 = .slice (some ⟨y, 0, none⟩) o.length o.length ∧ s.f 73 = .slice (some ⟨zd, 0, none⟩) d.length d.length ∧ s.f 74 = .int .i64 (d.length : Nat) ∧ s.f 75 = .int .i64 (q : Nat) ∧
          s.H y = .cells (o.map (Value.int .i64)) 3 true ∧ n9 ≤ y ∧ o = (d.take q).map (up k) ∧ q ≤ d.length ∧ kq = d.length - q) d.length ?_ ?_
        · exact ⟨0, n9, [], kY, rfl, rfl, rfl, rfl, rfl, rfl, rfl, hY, Nat.le_refl _, rfl, Nat.zero_le _, rfl⟩
        clear hY kY
        rintro kq ⟨f, n10, H10⟩ ⟨q, y, o, kp, f1, f2, f3, f10, f73, f74, f75, hy, hy9, ho, hq, rfl⟩ ih
        simp only at f1 f2 f3 f10 f73 f74 f75 kp hy ih
        have hw10 := kp.wf hw9
        have hyn : y < n10 := live_m hw10 (by rw [hy]; intro e; cases e)
        have hzd10 := (kp.keep zd hzdn).trans hzd
        have hb10 := (kp.keep n (by omega)).trans hb9
        have hol : o.length = q := by rw [ho, List.length_map, List.length_take]; omega
        by_cases hlt : q < d.length
        · have hqw : IntKind.i64.wrap ((q : Int) + 1) = ((q + 1 : Nat) : Int) := by rw [wrap_in (by omega) (by omega)]; rfl
          have htq : (d.take (q + 1)).map (up k) = o ++ [up k d[q]] := by rw [List.take_succ_eq_append_getElem hlt, List.map_append, ← ho]; rfl
          have hdq : (d.map (Value.int .i64))[q]? = some (.int .i64 d[q]) := by rw [List.getElem?_map, List.getElem?_eq_getElem hlt]; rfl
          obtain ⟨hr0, hr1⟩ := hrul _ (List.getElem_mem hlt)
          generalize d[q] = r at *
          obtain ⟨r', hup⟩ : ∃ r', up k r = r' := ⟨_, rfl⟩
          rw [hup] at htq
          have u1 : vcells (Value.int .i64 r') = [Value.int .i64 r'] := rfl
          have u3 : ([Value.int .i64 r'] : List Value).all one = true := rfl
          have u4 : Go.AM.splice [Value.int IntKind.i64 (Int.ofNat 0)] 0 [Value.int .i64 r'] = [Value.int .i64 r'] := rfl
          have u5 : ([Value.int .i64 r'] : List Value).take 1 = [Value.int .i64 r'] := rfl
          have kA := Kp.new n10 H10 (.cells [.int .i64 r'] 3 true)
          have bA := hset_at H10 n10 (.cells [.int .i64 r'] 3 true)
          have yA := (kA.keep y hyn).trans hy
          generalize hA : hset H10 n10 (.cells [.int .i64 r'] 3 true) = HA at *
          have kA' := (kp.trans kA).set (x := y) .dead hy9 (by omega)
          generalize hA1 : hset HA y .dead = HA1 at *
          have kB := Kp.new (n10 + 1) HA1 (.cells (o.map (.int .i64) ++ [.int .i64 r']) 3 true)
          have bB := hset_at HA1 (n10 + 1) (.cells (o.map (.int .i64) ++ [.int .i64 r']) 3 true)
          have z1 : o.length + 1 ≤ bigN := by unfold bigN; omega
          have z2 : [n10].contains y = false := by simp; omega
          have z3 : (o.map (Value.int .i64)).take o.length = o.map (.int .i64) := List.take_of_length_le (by simp)
          by_cases hkr : (k : Int) ≤ r
          · have hrw : IntKind.i64.wrap (r + 1) = r' := by rw [wrap_in (by omega) (by omega), ← hup]; unfold up; rw [if_pos hkr]
            repeat (first | apply WKD.seq | apply WKD.block | apply WKD.skipSeq | apply WKD.skipBlock | apply WKD.retSeq | apply WKD.retBlock | apply WKD.exitSeq | apply WKD.exitHere | refine WKD.exitOn rfl ?_ | ((first | (refine WKD.rgn ?_ ?_; kernel_rfl) | refine AtCallY.now ?_); simp (config := {maxSteps:=999999}) only [SS, qx4, forall_const, yx_nil, yx_true, yx_false, y1_false, y1_true, y2_none, y2_some, y3, vun, simprocAttr, f1, f2, f3, f10, f73, f74, f75, hlt, hzd10, hdq, hkr, hrw, hA, bA, u1, u3, u4, u5, yA, z1, z2, z3, hA1, hqw, List.drop_zero, List.length_map, Nat.zero_add, Nat.mul_one, ff_5]) | (refine WKD.condT ?_ ?_; focus (simp only [ev_tmp, ev_const, fset_apply, Nat.reduceEqDiff, ↓reduceIte, decide_true, decide_false, f1, f2, f3, f10, f73, f74, f75, hlt, hzd10, hdq, hkr, hrw, hA, bA, u1, u3, u4, u5, yA, z1, z2, z3, hA1, hqw, List.drop_zero, List.length_map, Nat.zero_add, Nat.mul_one, ff_5]; done)) | (refine WKD.condF ?_ ?_; focus (simp only [ev_tmp, ev_const, fset_apply, Nat.reduceEqDiff, ↓reduceIte, decide_true, decide_false, f1, f2, f3, f10, f73, f74, f75, hlt, hzd10, hdq, hkr, hrw, hA, bA, u1, u3, u4, u5, yA, z1, z2, z3, hA1, hqw, List.drop_zero, List.length_map, Nat.zero_add, Nat.mul_one, ff_5]; done)))
            refine ih (d.length - (q + 1)) (by omega) _ ?_
            exact ⟨q + 1, n10 + 1, o ++ [r'], kA'.trans kB, f1, f2, f3, by rw [List.length_append]; rfl, f73, f74, rfl, by rw [List.map_append]; exact bB, by have := kp.le; omega, htq.symm, hlt, rfl⟩
          · have hrw : r = r' := by rw [← hup]; unfold up; rw [if_neg hkr]
            subst hrw
            repeat (first | apply WKD.seq | apply WKD.block | apply WKD.skipSeq | apply WKD.skipBlock | apply WKD.retSeq | apply WKD.retBlock | apply WKD.exitSeq | apply WKD.exitHere | refine WKD.exitOn rfl ?_ | ((first | (refine WKD.rgn ?_ ?_; kernel_rfl) | refine AtCallY.now ?_); simp (config := {maxSteps:=999999}) only [SS, qx4, forall_const, yx_nil, yx_true, yx_false, y1_false, y1_true, y2_none, y2_some, y3, vun, simprocAttr, f1, f2, f3, f10, f73, f74, f75, hlt, hzd10, hdq, hkr, hA, bA, u1, u3, u4, u5, yA, z1, z2, z3, hA1, hqw, List.drop_zero, List.length_map, Nat.zero_add, Nat.mul_one, ff_5]) | (refine WKD.condT ?_ ?_; focus (simp only [ev_tmp, ev_const, fset_apply, Nat.reduceEqDiff, ↓reduceIte, decide_true, decide_false, f1, f2, f3, f10, f73, f74, f75, hlt, hzd10, hdq, hkr, hA, bA, u1, u3, u4, u5, yA, z1, z2, z3, hA1, hqw, List.drop_zero, List.length_map, Nat.zero_add, Nat.mul_one, ff_5]; done)) | (refine WKD.condF ?_ ?_; focus (simp only [ev_tmp, ev_const, fset_apply, Nat.reduceEqDiff, ↓reduceIte, decide_true, decide_false, f1, f2, f3, f10, f73, f74, f75, hlt, hzd10, hdq, hkr, hA, bA, u1, u3, u4, u5, yA, z1, z2, z3, hA1, hqw, List.drop_zero, List.length_map, Nat.zero_add, Nat.mul_one, ff_5]; done)))
            refine ih (d.length - (q + 1)) (by omega) _ ?_
            exact ⟨q + 1, n10 + 1, o ++ [r], kA'.trans kB, f1, f2, f3, by rw [List.length_append]; rfl, f73, f74, rfl, by rw [List.map_append]; exact bB, by have := kp.le; omega, htq.symm, hlt, rfl⟩
        · rw [List.take_of_length_le (by omega)] at ho
          have kG := kE.trans kp
          have hyl := yields_dv (g := g) (q := some ⟨y, 0, none⟩) (u := pa) (rules := o) (w := w) hw10 (hg0.mono hw kG) wg ok (rs_new hy).ra (hq'.mono hw kG).ra (by rw [ho]; exact hd.less hkl) (by rw [ho, List.length_map]; omega) (by omega) hin
          repeat (first | apply WKD.seq | apply WKD.block | apply WKD.skipSeq | apply WKD.skipBlock | apply WKD.retSeq | apply WKD.retBlock | apply WKD.exitSeq | apply WKD.exitHere | refine WKD.exitOn rfl ?_ | ((first | (refine WKD.rgn ?_ ?_; kernel_rfl) | refine AtCallY.now ?_); simp (config := {maxSteps:=999999}) only [SS, qx4, forall_const, yx_nil, yx_true, yx_false, y1_false, y1_true, y2_none, y2_some, y3, vun, simprocAttr, f1, f2, f3, f10, f73, f74, f75, hlt, hb10, gc_all, gc_len, ff_5]) | (refine WKD.condT ?_ ?_; focus (simp only [ev_tmp, ev_const, fset_apply, Nat.reduceEqDiff, ↓reduceIte, decide_true, decide_false, f1, f2, f3, f10, f73, f74, f75, hlt, hb10, gc_all, gc_len, ff_5]; done)) | (refine WKD.condF ?_ ?_; focus (simp only [ev_tmp, ev_const, fset_apply, Nat.reduceEqDiff, ↓reduceIte, decide_true, decide_false, f1, f2, f3, f10, f73, f74, f75, hlt, hb10, gc_all, gc_len, ff_5]; done)))
          refine AtCallY.by hyl ?_
          rintro v n11 H11 k11 rfl
          simp (config := {maxSteps:=999999}) only [SS, qx4, forall_const, yx_nil, yx_true, yx_false, y1_false, y1_true, y2_none, y2_some, y3, vun, simprocAttr, ff_5]
          repeat (first | apply WKD.seq | apply WKD.block | apply WKD.skipSeq | apply WKD.skipBlock | apply WKD.retSeq | apply WKD.retBlock | apply WKD.exitSeq | apply WKD.exitHere | refine WKD.exitOn rfl ?_ | ((first | (refine WKD.rgn ?_ ?_; kernel_rfl) | refine AtCallY.now ?_); simp (config := {maxSteps:=999999}) only [SS, qx4, forall_const, yx_nil, yx_true, yx_false, y1_false, y1_true, y2_none, y2_some, y3, vun, simprocAttr, ff_5]) | (refine WKD.condT ?_ ?_; focus (simp only [ev_tmp, ev_const, fset_apply, Nat.reduceEqDiff, ↓reduceIte, decide_true, decide_false, ff_5]; done)) | (refine WKD.condF ?_ ?_; focus (simp only [ev_tmp, ev_const, fset_apply, Nat.reduceEqDiff, ↓reduceIte, decide_true, decide_false, ff_5]; done)))
          (first | refine WKD.retNil ⟨Or.inr rfl, _, rfl, ?_, ?_⟩ | refine WKD.skipNil ⟨Or.inl rfl, _, rfl, ?_, ?_⟩)
          · exact (kG.trans k11).keep
          · simp only [packed, fset_apply, Nat.reduceEqDiff, ↓reduceIte, List.getD_cons_zero, List.getD_cons_succ, ff_5]
end Go.Proofs.Ytemkglelfeidhaa

namespace Go.Proofs.Ytemkglelfeidhaa
open Go.AM
set_option maxRecDepth 100000
theorem und_26 : Try.prog.underlying 26 = some (.slice 3) := by kernel_rfl
theorem und_22 : Try.prog.underlying 22 = some (.slice 9) := by kernel_rfl
theorem und_23 : Try.prog.underlying 23 = some (.slice 49) := by kernel_rfl
theorem und_25 : ∃ f1 f2 f3 : Field, Try.prog.underlying 25 = some (.struct #[f1, f2, f3]) ∧ f1.type = 22 ∧ f1.offset = 0 ∧ f2.type = 22 ∧ f2.offset = 1 ∧ f3.type = 23 ∧ f3.offset = 2 :=
  ⟨{ name := "Terms", type := 22, offset := 0, embedded := false, tag := "", pkgPath := "", byteOffset := 0 }, { name := "Vars", type := 22, offset := 1, embedded := false, tag := "", pkgPath := "", byteOffset := 24 },
    { name := "Rules", type := 23, offset := 2, embedded := false, tag := "", pkgPath := "", byteOffset := 48 }, by kernel_rfl, rfl, rfl, rfl, rfl, rfl, rfl⟩
theorem und_49 : ∃ f1 f2 f3 : Field, Try.prog.underlying 49 = some (.struct #[f1, f2, f3]) ∧ f1.type = 3 ∧ f1.offset = 0 ∧ f2.type = 26 ∧ f2.offset = 1 ∧ f3.type = 47 ∧ f3.offset = 2 :=
  ⟨{ name := "Left", type := 3, offset := 0, embedded := false, tag := "", pkgPath := "", byteOffset := 0 }, { name := "Right", type := 26, offset := 1, embedded := false, tag := "", pkgPath := "", byteOffset := 8 },
    { name := "Weight", type := 47, offset := 2, embedded := false, tag := "", pkgPath := "", byteOffset := 32 }, by kernel_rfl, rfl, rfl, rfl, rfl, rfl, rfl⟩
theorem gramT : GramT Try.prog 25 49 3 9 22 23 26 47 := ⟨und_25, und_49, und_3, und_9, und_22, und_23, und_26, und_47, csz_3, csz_9, csz_22, csz_23, csz_26, csz_47, csz_49, csz_25⟩
theorem own : ownKnob Try.prog.godebug = none := by kernel_rfl
theorem laid : laidOutB Try.prog = true := by kernel_rfl
theorem plain_all : ([25, 3, 26].all fun t => plainT Try.prog 10 t && Try.prog.readableRec t && decide (t < Try.prog.types.size)) = true := by kernel_rfl
theorem plain_of {t : TypeId} (h : t ∈ [25, 3, 26]) : plainT Try.prog 10 t = true ∧ Try.prog.readableRec t = true ∧ t < Try.prog.types.size := by
  have := List.all_eq_true.1 plain_all t h
  simp only [Bool.and_eq_true, decide_eq_true_eq] at this
  exact ⟨this.1.1, this.1.2, this.2⟩
end Go.Proofs.Ytemkglelfeidhaa
