/- A part of a proof. Its conditions: none. -/
import Derived.Test.YtpdlmpbhohinpaaAmCChCw
import Derived.Test.YtpdlmpbhohinpaaAmC
import Derived.Test.YtpdlmpbhohinpaaAmCChSp
import Derived.Test.YtpdlmpbhohinpaaAmCLfFix
import Derived.Test.YtpdlmpbhohinpaaAmCLfPrice
import Derived.Test.YtpdlmpbhohinpaaAmD
set_option linter.all false
namespace Go.Proofs.Ytpdlmpbhohinpaa
open Go.AM Go.RowKit
set_option maxRecDepth 100000
theorem bP_get {n : Nat} {p : Int → Prop} {y : Int} (h0 : 0 ≤ y) : (bP n p).getD y.toNat false = true ↔ y < (n : Int) ∧ p y := by
  unfold bP
  rw [List.getD_eq_getElem?_getD, List.getElem?_map]
  by_cases h : y.toNat < n
  · rw [List.getElem?_range h]
    simp only [Option.map_some, Option.getD_some, decide_eq_true_eq]
    have e : ((y.toNat : Nat) : Int) = y := Int.toNat_of_nonneg h0
    rw [e]
    constructor
    · intro hp; exact ⟨by omega, hp⟩
    · intro hp; exact hp.2
  · rw [List.getElem?_eq_none (by simp; omega)]
    simp
    intro h1; omega
theorem knows {g : Gram} (ok : RightOK g) : Knows g (gdG g) (emG g) := by
  have hg := ok.inG
  refine ⟨hg, fun r hr hp => ?_, fun y h0 => ?_⟩
  · rw [List.getD_eq_getElem?_getD, List.getElem?_eq_getElem (by rw [gdG_len]; exact hr), Option.getD_some, gdG_at hr]
    refine prdB_hold.2 fun s hs h0 => ⟨h0, ?_⟩
    unfold wdG
    rw [bP_get h0]
    exact ⟨hg.right _ (List.getElem_mem hr) s hs, hp s (by rw [rgt_eq hr]; exact hs) h0⟩
  · unfold emG
    rw [bP_get h0]
    constructor
    · exact fun h => h.2
    · intro h
      refine ⟨?_, h⟩
      cases h with
      | mk i hi _ _ => exact hg.left1 _ (List.getElem_mem hi)
theorem run_fine {g : Gram} (ok : RightOK g) : ∀ (u : List Int) (sets : List (List It)), runS g u = some sets → Fine g (gdG g) (emG g) u sets := by
  have K := knows ok
  have hem : ∀ y : Int, 0 ≤ y → (emG g).getD y.toNat false = true → Nul g y := fun y h0 h => (K.em y h0).1 h
  refine snocInd ?_ ?_
  · intro sets h; cases h; exact .new hem
  · intro u t ih sets h
    rw [runS_snoc] at h
    cases hr : runS g u with
    | none => rw [hr] at h; cases h
    | some s => rw [hr] at h; exact (ih s hr).push hem h
theorem push_some {g : Gram} {gd em : List Bool} {sets : List (List It)} {t : Int} : (pushS g gd em sets t).isSome = true ↔ 0 ≤ t ∧ ∃ p ∈ lastS sets, nx g p = some (-t - 1) := by
  unfold pushS
  constructor
  · intro h
    split at h
    · cases h
    · rename_i x l hl
      obtain ⟨h0, p, h1, h2, _⟩ := (pushL_mem (y := x) (lastS sets)).1 (by rw [hl]; simp)
      exact ⟨h0, p, h1, h2⟩
  · rintro ⟨h0, p, h1, h2⟩
    have := (pushL_mem (g := g) (t := t) (y := upI p) (lastS sets)).2 ⟨h0, p, h1, h2, rfl⟩
    split
    · rename_i hl; rw [hl] at this; cases this
    · rfl
theorem run_some {g : Gram} (ok : RightOK g) : ∀ (u v : List Int), Yd g [0] (u ++ v) → (runS g u).isSome = true := by
  refine snocInd ?_ ?_
  · intro v _; rfl
  · intro u t ih v h
    rw [List.append_assoc, List.singleton_append] at h
    obtain ⟨sets, hs⟩ := Option.isSome_iff_exists.1 (ih _ h)
    have hf := run_fine ok u sets hs
    rw [runS_snoc, hs]
    refine push_some.2 ⟨h.pos t (by simp), ?_⟩
    rw [hf.last]
    exact next_word hf (knows ok) h
theorem accR_iff {g : Gram} (ok : RightOK g) {u : List Int} (h : (runS g u).isSome = true) : accR g u = true ↔ Yd g [0] u := by
  obtain ⟨sets, hs⟩ := Option.isSome_iff_exists.1 h
  unfold accR
  rw [hs, Option.getD_some]
  exact acc_iff (run_fine ok u sets hs) (knows ok)
theorem shortR_le {g : Gram} (ok : RightOK g) {c : Nat → Nat} {b : Nat → Int} (hc : CostOK g c b) {u v : List Int} (hv : Yd g [0] (u ++ v)) (hl : v.length < farN) : shortR g c u ≤ v.length := by
  obtain ⟨sets, hs⟩ := Option.isSome_iff_exists.1 (run_some ok u v hv)
  unfold shortR
  rw [hs, Option.getD_some]
  exact short_le (run_fine ok u sets hs) (knows ok) hc hv hl
theorem shortR_word {g : Gram} (ok : RightOK g) {c : Nat → Nat} {b : Nat → Int} (hc : CostOK g c b) {u : List Int} (h : (runS g u).isSome = true) (hl : shortR g c u < farN) : ∃ v, v.length = shortR g c u ∧ Yd g [0] (u ++ v) := by
  obtain ⟨sets, hs⟩ := Option.isSome_iff_exists.1 h
  unfold shortR at hl ⊢
  rw [hs, Option.getD_some] at hl ⊢
  exact short_word (run_fine ok u sets hs) (knows ok) hc hl
theorem shortR_far {g : Gram} {c : Nat → Nat} {u : List Int} : shortR g c u ≤ farN := by
  unfold shortR shortL
  exact (short_at _ _).1
theorem nextC_mem {g : Gram} {t : Int} : ∀ (ps : List It), t ∈ nextC g ps ↔ 0 ≤ t ∧ ∃ p ∈ ps, nx g p = some (-t - 1) := by
  suffices ∀ (ps : List It) (out : List Int), t ∈ ps.foldl (nextS g) out ↔ t ∈ out ∨ (0 ≤ t ∧ ∃ p ∈ ps, nx g p = some (-t - 1)) by
    intro ps
    have := this ps []
    unfold nextC
    simpa using this
  intro ps
  induction ps with
  | nil => intro out; simp
  | cons p ps ih =>
    intro out
    rw [List.foldl_cons, ih]
    have hs : t ∈ nextS g out p ↔ t ∈ out ∨ (0 ≤ t ∧ nx g p = some (-t - 1)) := by
      unfold nextS
      cases hn : nx g p with
      | none => simp
      | some y =>
        simp only
        split
        · rename_i hc
          rw [List.mem_append, List.mem_singleton]
          constructor
          · rintro (h | h)
            · exact .inl h
            · exact .inr ⟨by omega, by congr 1; omega⟩
          · rintro (h | ⟨h0, h⟩)
            · exact .inl h
            · injection h with h; exact .inr (by omega)
        · rename_i hc
          constructor
          · exact .inl
          · rintro (h | ⟨h0, h⟩)
            · exact h
            · injection h with h
              apply Classical.byContradiction
              intro hnot
              exact hc ⟨by omega, by rw [show -y - 1 = t by omega]; exact hnot⟩
    rw [hs]
    constructor
    · rintro ((h | ⟨h0, h⟩) | ⟨h0, q, hq, h⟩)
      · exact .inl h
      · exact .inr ⟨h0, p, by simp, h⟩
      · exact .inr ⟨h0, q, by simp [hq], h⟩
    · rintro (h | ⟨h0, q, hq, h⟩)
      · exact .inl (.inl h)
      · rcases List.mem_cons.1 hq with rfl | hq
        · exact .inl (.inr ⟨h0, h⟩)
        · exact .inr ⟨h0, q, hq, h⟩
theorem nextR_iff {g : Gram} {u : List Int} {t : Int} (h : (runS g u).isSome = true) : t ∈ nextR g u ↔ (runS g (u ++ [t])).isSome = true := by
  obtain ⟨sets, hs⟩ := Option.isSome_iff_exists.1 h
  rw [runS_snoc, hs]
  unfold nextR nextL
  rw [hs, Option.getD_some, (isort_perm _).mem_iff, nextC_mem]
  exact push_some.symm
theorem nextR_nodup {g : Gram} (ok : RightOK g) {u : List Int} (h : (runS g u).isSome = true) : (nextR g u).Nodup ∧ (nextR g u).length ≤ g.terms.length := by
  obtain ⟨sets, hs⟩ := Option.isSome_iff_exists.1 h
  have hts : ∀ r ∈ g.rules, ∀ s ∈ r.right, -s - 1 < (g.terms.length : Int) := fun r hr s hs => by
    rcases Int.lt_or_le s 0 with h0 | h0
    · exact ok.inG.rightT r hr s hs h0
    · omega
  have := nextC_ok hts (lastS sets) fun x hx => ((lastS_ok (runS_ok u sets hs).1).ok x hx).1
  unfold nextR nextL
  rw [hs, Option.getD_some]
  exact ⟨(isort_perm _).nodup_iff.2 this.1, by rw [(isort_perm _).length_eq]; exact nodup_int_len _ _ this.1 this.2⟩
theorem nextR_le2 {g : Gram} {u : List Int} : le2 (nextR g u) := isort_le _
theorem short_step {g : Gram} (ok : RightOK g) {c : Nat → Nat} {b : Nat → Int} (hc : CostOK g c b) {u : List Int} {k : Nat} (h : (runS g u).isSome = true) (hk : shortR g c u = k + 1) (hl : k + 1 < farN) : ∃ t ∈ nextR g u, shortR g c (u ++ [t]) = k := by
  obtain ⟨v, hv, hy⟩ := shortR_word ok hc h (by omega)
  cases v with
  | nil => simp at hv; omega
  | cons t v =>
    have hy' : Yd g [0] ((u ++ [t]) ++ v) := by rw [List.append_assoc]; exact hy
    have hr := run_some ok (u ++ [t]) v hy'
    have h1 := shortR_le ok hc hy' (by simp at hv; omega)
    refine ⟨t, (nextR_iff h).2 hr, ?_⟩
    obtain ⟨v', hv', hy''⟩ := shortR_word ok hc hr (by simp at hv; omega)
    rw [List.append_assoc, List.singleton_append] at hy''
    have h2 := shortR_le ok hc hy'' (by simp at hv ⊢; omega)
    simp at hv h2
    omega
noncomputable def finR (g : Gram) (c : Nat → Nat) : Nat → List Int → List Int
  | 0, _ => []
  | k + 1, u => match (nextR g u).find? (fun t => decide (shortR g c (u ++ [t]) = k)) with
    | some t => t :: finR g c k (u ++ [t])
    | none => []
theorem finR_ok {g : Gram} (ok : RightOK g) {c : Nat → Nat} {b : Nat → Int} (hc : CostOK g c b) : ∀ (k : Nat) (u : List Int), (runS g u).isSome = true → shortR g c u = k → k < farN → (finR g c k u).length = k ∧ Yd g [0] (u ++ finR g c k u) := by
  intro k
  induction k with
  | zero =>
    intro u h hk _
    obtain ⟨v, hv, hy⟩ := shortR_word ok hc h (by unfold farN; omega)
    rw [hk] at hv
    have : v = [] := List.length_eq_zero_iff.1 hv
    subst this
    exact ⟨rfl, hy⟩
  | succ k ih =>
    intro u h hk hl
    obtain ⟨t, ht, hs⟩ := short_step ok hc h hk hl
    unfold finR
    cases hf : (nextR g u).find? (fun t => decide (shortR g c (u ++ [t]) = k)) with
    | none => rw [List.find?_eq_none] at hf; have := hf t ht; simp [hs] at this
    | some t' =>
      have h1 := List.find?_some hf
      have h2 := List.mem_of_find?_eq_some hf
      simp only [decide_eq_true_eq] at h1
      obtain ⟨h3, h4⟩ := ih (u ++ [t']) ((nextR_iff h).1 h2) h1 (by omega)
      exact ⟨by simp only [List.length_cons, h3], by rw [List.append_assoc] at h4; exact h4⟩
end Go.Proofs.Ytpdlmpbhohinpaa

namespace Go.Proofs.Ytpdlmpbhohinpaa
open Go.AM Go.RowKit
set_option maxRecDepth 100000
theorem WK.cutBlock {P : Program} {id : Nat} {c : Code} {K : List Fk} {s : St} {Q : AExit → St → Prop} (R : St → Prop) (h1 : WK P c [.block id] s fun e s1 => e = .normal ∧ R s1) (h2 : ∀ s1, R s1 → WK P .skip K s1 Q) : WK P c (.block id :: K) s Q :=
  ⟨(WK.cut (c := .block id c) R (WK.block h1) h2).run⟩
def VP (v : Value) (q : Nat) : Prop := ∃ m c, v = .slice (some ⟨q, 0, none⟩) m c
theorem VP.nil {a b q : Nat} (h : VP (.slice none a b) q) : False := by
  obtain ⟨m, c, e⟩ := h; cases e
theorem VP.eq {z a b q : Nat} (h : VP (.slice (some ⟨z, 0, none⟩) a b) q) : q = z := by
  obtain ⟨m, c, e⟩ := h; cases e; rfl
theorem WO.vp {n : Nat} {H : Heap} {v : Value} {w : List Int} (h : WO n H v w) {q : Nat} (hq : VP v q) : n ≤ q := by
  obtain ⟨p, rfl, ⟨rfl, _⟩ | ⟨z, rfl, h1, _⟩⟩ := h
  · exact hq.nil.elim
  · rw [hq.eq]; exact h1
theorem WO.lt {n n2 : Nat} {H : Heap} {v : Value} {w : List Int} (h : WO n H v w) (hw : WF n2 H) {q : Nat} (hq : VP v q) : q < n2 := by
  obtain ⟨p, rfl, ⟨rfl, _⟩ | ⟨z, rfl, _, h1⟩⟩ := h
  · exact hq.nil.elim
  · rw [hq.eq]; exact Classical.byContradiction fun hc => by rw [hw z (by omega)] at h1; cases h1
theorem WO.zk {Z : Nat → Prop} {n : Nat} {H H' : Heap} {v : Value} {w : List Int} (h : WO n H v w) (k : ZK Z H H') (hz : ∀ q, VP v q → Z q) : WO n H' v w := by
  obtain ⟨p, rfl, h1 | ⟨z, rfl, h1, h2⟩⟩ := h
  · exact ⟨p, rfl, .inl h1⟩
  · exact ⟨_, rfl, .inr ⟨z, rfl, h1, k.2 _ _ _ _ (hz z ⟨_, _, rfl⟩) h2⟩⟩
theorem WO.kp {n n1 n2 : Nat} {H H' : Heap} {v : Value} {w : List Int} (h : WO n H v w) (hw : WF n1 H) (k : Kp n1 H n2 H') : WO n H' v w := h.zk (Z := fun _ => True) (ZK.kp k hw) fun _ _ => trivial
theorem WO.le {n n' : Nat} {H : Heap} {v : Value} {w : List Int} (h : WO n H v w) (hn : n' ≤ n) : WO n' H v w := by
  obtain ⟨p, rfl, h1 | ⟨z, rfl, h1, h2⟩⟩ := h
  · exact ⟨p, rfl, .inl h1⟩
  · exact ⟨_, rfl, .inr ⟨z, rfl, by omega, h2⟩⟩
theorem ZK.refl (Z : Nat → Prop) (H : Heap) : ZK Z H H := ⟨.refl H, fun _ _ _ _ _ h => h⟩
theorem ZK.sub {Z Z' : Nat → Prop} {H H' : Heap} (k : ZK Z H H') (h : ∀ q, Z' q → Z q) : ZK Z' H H' := ⟨k.1, fun q cs ty own hq e => k.2 q cs ty own (h q hq) e⟩
section
variable {S : Heap} {N o : Nat} {pt pv pr pg pe pc : Option Addr} {g : Gram} {co : List Nat}
set_option maxHeartbeats 32000000 in
theorem fin_cw {Z : Nat → Prop} {n : Nat} {H : Heap} {u : List Int} (K : Ch S N o pt pv pr pg pe pc g co) (h : CW Z n H S N o pt pv pr pg pe pc g co u) (hul : u.length ≤ 1500) (hZ : ∀ z, Z z → z < n) :
    GivesX Try.prog (fun z => z = o ∨ N ≤ z) 21 [.pointer (some ⟨o, 0, none⟩)] n H fun v n' H' => ZK Z H H' ∧ CW Z n' H' S N o pt pv pr pg pe pc g co u ∧
      (shortR g (cF co) u ≤ 2048 → ∃ r, v = .tuple #[r, .bool true] ∧ WO n H' r (finR g (cF co) (shortR g (cF co) u) u)) ∧ (2048 < shortR g (cF co) u → v = .tuple #[.slice none 0 0, .bool false]) := by
  refine GivesX.of orders ok21 (Nat.le_of_ble_eq_true rfl) ?_
  have hw := h.1
  obtain ⟨b, hcost⟩ := K.cost
  have hsome := h.some
  repeat (first | refine qqn rfl ?_ | ((first | (refine WK.rgn ?_ ?_; kernel_rfl) | refine AtCall.now ?_); simp (config := {maxSteps:=999999}) only [SS, qx7, forall_const, simprocAttr, ff_21]) | refine qqj rfl ?_ | refine qqk rfl ?_)
  refine AtCall.by (short_cw K h (by omega)) ?_
  rintro v n1 H1 k1 rfl
  have h1 := h.kp k1
  have hw1 := k1.wf hw
  have zk1 : ZK Z H H1 := ZK.kp k1 hw
  have hfin := finR_ok K.ok hcost (shortR g (cF co) u) u hsome rfl
  generalize hk0 : shortR g (cF co) u = k0 at *
  by_cases hbig : 2048 < k0
  · have hb' : (2048 : Int) < ((k0 : Nat) : Int) := by omega
    simp (config := {maxSteps:=999999}) only [SS, qx7, forall_const, simprocAttr, ff_21]
    repeat (first | refine qqn rfl ?_ | ((first | (refine WK.rgn ?_ ?_; kernel_rfl) | refine AtCall.now ?_); simp (config := {maxSteps:=999999}) only [SS, qx7, forall_const, simprocAttr, hb', ff_21]) | refine qqj rfl ?_ | refine qqk rfl ?_)
    (first | refine WK.retNil ⟨Or.inr rfl, _, rfl, ?_, ?_⟩ | refine WK.skipNil ⟨Or.inl rfl, _, rfl, ?_, ?_⟩)
    · exact fun z hz _ => k1.keep z hz
    · simp only [packed, fset_apply, Nat.reduceEqDiff, ↓reduceIte, List.getD_cons_zero, List.getD_cons_succ, ff_21]
      exact ⟨zk1, h1, fun hc => by omega, fun _ => trivial⟩
  · have hb' : ¬ (2048 : Int) < ((k0 : Nat) : Int) := by omega
    have hfar : farN = 1073741824 := rfl
    obtain ⟨hfl, hfy⟩ := hfin (by omega)
    have hNn : N ≤ n := h.2.2.1
    simp (config := {maxSteps:=999999}) only [SS, qx7, forall_const, simprocAttr, ff_21]
    repeat (first | refine qqn rfl ?_ | ((first | (refine WK.rgn ?_ ?_; kernel_rfl) | refine AtCall.now ?_); simp (config := {maxSteps:=999999}) only [SS, qx7, forall_const, simprocAttr, hb', ff_21]) | refine qqj rfl ?_ | refine qqk rfl ?_)
    refine WK.cutBlock (fun s => ∃ out : List Int, Kx (fun z => z = o ∨ N ≤ z) n H s.n s.H ∧ ZK Z H s.H ∧ CW (fun q => Z q ∨ VP (s.f 5) q) s.n s.H S N o pt pv pr pg pe pc g co (u ++ out) ∧ WO n s.H (s.f 5) out ∧ s.f 0 = .pointer (some ⟨o, 0, none⟩) ∧ out = finR g (cF co) k0 u) ?_ ?_
    · refine WK.loop (fun k s => ∃ out : List Int, Kx (fun z => z = o ∨ N ≤ z) n H s.n s.H ∧ ZK Z H s.H ∧ CW (fun q => Z q ∨ VP (s.f 5) q) s.n s.H S N o pt pv pr pg pe pc g co (u ++ out) ∧ WO n s.H (s.f 5) out ∧ s.f 0 = .pointer (some ⟨o, 0, none⟩) ∧ s.f 4 = .int .i64 (k : Nat) ∧ shortR g (cF co) (u ++ out) = k ∧ out.length + k = k0 ∧ out ++ finR g (cF co) k (u ++ out) = finR g (cF co) k0 u) k0 ?_ ?_
      · refine ⟨[], k1.kx, zk1, ?_, ⟨none, rfl, .inl ⟨rfl, rfl⟩⟩, rfl, rfl, by rw [List.append_nil]; exact hk0, by simp, by simp⟩
        rw [List.append_nil]
        exact h1.mono fun q hq => by
          rcases hq with hq | hq
          · exact hq
          · exact hq.nil.elim
      rintro k ⟨f, n2, H2⟩ ⟨out, kx2, zk2, cw2, wo2, f0, f4, hsk, hok, hfo⟩ ih
      simp only at f0 f4 kx2 zk2 cw2 wo2 ih
      have hw2 := cw2.1
      have hnle := kx2.le
      cases k with
      | zero =>
        have h00 : ((0 : Int) < ((0 : Nat) : Int)) = False := by simp
        repeat (first | refine qqn rfl ?_ | ((first | (refine WK.rgn ?_ ?_; kernel_rfl) | refine AtCall.now ?_); simp (config := {maxSteps:=999999}) only [SS, qx7, forall_const, simprocAttr, f0, f4, h00, ff_21]) | refine qqj rfl ?_ | refine qqk rfl ?_)
        refine WK.skipNil ⟨rfl, out, kx2, zk2, cw2, wo2, f0, ?_⟩
        rw [← hfo]; simp [finR]
      | succ k =>
        have h01 : (0 : Int) < ((k + 1 : Nat) : Int) := by omega
        have hso2 := cw2.some
        repeat (first | refine qqn rfl ?_ | ((first | (refine WK.rgn ?_ ?_; kernel_rfl) | refine AtCall.now ?_); simp (config := {maxSteps:=999999}) only [SS, qx7, forall_const, simprocAttr, f0, f4, h01, ff_21]) | refine qqj rfl ?_ | refine qqk rfl ?_)
        refine AtCall.by (next_cw K cw2 (by rw [List.length_append]; omega)) ?_
        rintro v n3 H3 k3 wo3
        obtain ⟨hnd, hnl⟩ := nextR_nodup K.ok hso2
        have hnt := K.htl
        obtain ⟨t0, ht0, hst0⟩ := short_step K.ok hcost hso2 hsk (by omega)
        have hw3 := k3.wf hw2
        have hn23 := k3.le
        have cw3 : CW (fun q => Z q ∨ VP (f 5) q ∨ VP v q) n3 H3 S N o pt pv pr pg pe pc g co (u ++ out) := cw2.kpz k3 fun q hq => by
          rcases hq with hq | hq | hq
          · exact .inl (.inl hq)
          · exact .inl (.inr hq)
          · exact .inr (wo3.vp hq)
        have wo2' := wo2.kp hw2 k3
        have kx3 : Kx (fun z => z = o ∨ N ≤ z) n H n3 H3 := kx2.trans k3.kx
        have zk3 := zk2.trans (ZK.kp (Z := Z) k3 hw2)
        have hiff : ∀ t, t ∈ nextR g (u ++ out) → (runS g (u ++ out ++ [t])).isSome = true := fun t ht => (nextR_iff hso2).1 ht
        have hpos : ∀ t, t ∈ nextR g (u ++ out) → inI t := fun t ht => by
          obtain ⟨sets, hs⟩ := Option.isSome_iff_exists.1 hso2
          have := hiff t ht
          rw [runS_snoc, hs] at this
          obtain ⟨h0, p, hp, hn⟩ := push_some.1 this
          have hp1 := ((lastS_ok (runS_ok _ sets hs).1).ok p hp).1
          unfold nx at hn
          rw [rgt_at hp1] at hn
          have := (K.st.sym _ (List.getElem_mem hp1) _ (List.mem_of_getElem? hn)).1
          unfold inI at this ⊢
          omega
        have hfind : finR g (cF co) (k + 1) (u ++ out) = match (nextR g (u ++ out)).find? (fun t => decide (shortR g (cF co) (u ++ out ++ [t]) = k)) with
          | some t => t :: finR g (cF co) k (u ++ out ++ [t])
          | none => [] := rfl
        generalize hnx : nextR g (u ++ out) = nx0 at *
        obtain ⟨pn, rfl, hpn⟩ := id wo3
        simp (config := {maxSteps:=999999}) only [SS, qx7, forall_const, simprocAttr, f0, f4, ff_21]
        repeat (first | refine qqn rfl ?_ | ((first | (refine WK.rgn ?_ ?_; kernel_rfl) | refine AtCall.now ?_); simp (config := {maxSteps:=999999}) only [SS, qx7, forall_const, simprocAttr, f0, f4, ff_21]) | refine qqj rfl ?_ | refine qqk rfl ?_)
        refine WK.loop (fun k2 s => ∃ j : Nat, Kx (fun z => z = o ∨ N ≤ z) n H s.n s.H ∧ ZK Z H s.H ∧ CW (fun q => Z q ∨ VP (f 5) q ∨ VP (.slice pn nx0.length nx0.length) q) s.n s.H S N o pt pv pr pg pe pc g co (u ++ out) ∧ WO n s.H (f 5) out ∧ WO n s.H (.slice pn nx0.length nx0.length) nx0 ∧ s.f 5 = f 5 ∧ s.f 0 = .pointer (some ⟨o, 0, none⟩) ∧ s.f 4 = .int .i64 ((k + 1 : Nat) : Int) ∧ s.f 17 = .slice pn nx0.length nx0.length ∧ s.f 18 = .int .i64 (nx0.length : Nat) ∧ s.f 19 = .int .i64 (j : Nat) ∧ j ≤ nx0.length ∧ (∀ t ∈ nx0.take j, shortR g (cF co) (u ++ out ++ [t]) ≠ k) ∧ k2 = nx0.length - j) nx0.length ?_ ?_
        · exact ⟨0, kx3, zk3, cw3, wo2', wo3.le (by omega), rfl, f0, f4, rfl, rfl, rfl, Nat.zero_le _, (fun t ht => by cases ht), rfl⟩
        generalize f 5 = v5 at *
        clear f0 f4
        rintro k2 ⟨f', n4, H4⟩ ⟨j, kx4, zk4, cw4, wo4, wn4, f5, f0, f4, f17, f18, f19, hj, hnot, rfl⟩ ih2
        simp only at f5 f0 f4 f17 f18 f19 kx4 zk4 cw4 wo4 wn4 ih2
        have hw4 := cw4.1
        have hn4 := kx4.le
        by_cases hlt : j < nx0.length
        · have htm := List.getElem_mem hlt
          have hwj : IntKind.wrap .i64 ((j : Int) + 1) = ((j + 1 : Nat) : Int) := by rw [wrap_in (by omega) (by omega)]; rfl
          have hwk : IntKind.wrap .i64 (((k + 1 : Nat) : Int) - 1) = (k : Int) := by rw [wrap_in (by omega) (by omega)]; omega
          have htj : nx0.take (j + 1) = nx0.take j ++ [nx0[j]] := List.take_succ_eq_append_getElem hlt
          obtain ⟨z, rfl, hz1, hz2⟩ : ∃ z, pn = some ⟨z, 0, none⟩ ∧ n ≤ z ∧ H4 z = .cells (nx0.map (.int .i64)) 3 true := by
            obtain ⟨q, e, ⟨_, h0⟩ | ⟨z, rfl, h2, h3⟩⟩ := wn4
            · rw [h0] at hlt; simp at hlt
            · cases e; exact ⟨z, rfl, h2, h3⟩
          have hzj : (nx0.map (Value.int .i64))[j]? = some (.int .i64 nx0[j]) := by rw [List.getElem?_map, List.getElem?_eq_getElem hlt]; rfl
          have hrs := hiff _ htm
          have hin := hpos _ htm
          have hdj := List.drop_eq_getElem_cons hlt
          generalize nx0[j] = t at *
          repeat (first | refine qqn rfl ?_ | ((first | (refine WK.rgn ?_ ?_; kernel_rfl) | refine AtCall.now ?_); simp (config := {maxSteps:=999999}) only [SS, qx7, forall_const, simprocAttr, f0, f4, f17, f18, f19, hlt, hz2, hzj, Nat.zero_add, ff_21]) | refine qqj rfl ?_ | refine qqk rfl ?_)
          refine AtCall.byX (push_cw (t := t) K cw4 (by rw [List.length_append]; omega) hin (fun q hq => by
            rcases hq with hq | hq | hq
            · have := hZ q hq; omega
            · exact wo4.lt hw4 hq
            · exact wn4.lt hw4 hq)) ?_
          rintro w5 n5 H5 kx5 ⟨rfl, zk5, cw5⟩
          rw [hrs, if_pos rfl] at cw5
          have hn5 := kx5.le
          have hw5 := cw5.1
          simp (config := {maxSteps:=999999}) only [SS, qx7, forall_const, simprocAttr, f0, ff_21]
          repeat (first | refine qqn rfl ?_ | ((first | (refine WK.rgn ?_ ?_; kernel_rfl) | refine AtCall.now ?_); simp (config := {maxSteps:=999999}) only [SS, qx7, forall_const, simprocAttr, f0, ff_21]) | refine qqj rfl ?_ | refine qqk rfl ?_)
          refine AtCall.by (short_cw K cw5 (by simp; omega)) ?_
          rintro w6 n6 H6 k6 rfl
          have hw6 := k6.wf hw5
          have hn6 := k6.le
          have cw6 := cw5.kp k6
          have zk46 := zk5.trans (ZK.kp (Z := fun q => Z q ∨ VP v5 q ∨ VP (.slice (some ⟨z, 0, none⟩) nx0.length nx0.length) q) k6 hw5)
          have wo6 := wo4.zk zk46 fun q hq => .inr (.inl hq)
          have wn6 := wn4.zk zk46 fun q hq => .inr (.inr hq)
          have kx6 : Kx (fun z => z = o ∨ N ≤ z) n H n6 H6 := (kx4.trans (kx5.mono fun q _ h => h)).trans k6.kx
          have zk6 := zk4.trans (zk46.sub fun q hq => .inl hq)
          obtain ⟨sv, hsv⟩ : ∃ sv, sv = shortR g (cF co) (u ++ out ++ [t]) := ⟨_, rfl⟩
          rw [← hsv]
          by_cases hs0 : sv = k
          · have hs : shortR g (cF co) (u ++ out ++ [t]) = k := by rw [← hsv]; exact hs0
            have hs' : (((sv : Nat) : Int) = (k : Int)) = True := eq_true (by omega)
            have hff : nx0.find? (fun t => decide (shortR g (cF co) (u ++ out ++ [t]) = k)) = some t := by
              rw [← List.take_append_drop j nx0, List.find?_append]
              have e1 : (nx0.take j).find? (fun t => decide (shortR g (cF co) (u ++ out ++ [t]) = k)) = none := by
                rw [List.find?_eq_none]
                intro x hx
                simpa using hnot x hx
              rw [e1, hdj, Option.none_or]
              exact List.find?_cons_of_pos (p := fun t => decide (shortR g (cF co) (u ++ out ++ [t]) = k)) (decide_eq_true hs)
            have hfin2 : finR g (cF co) (k + 1) (u ++ out) = t :: finR g (cF co) k (u ++ out ++ [t]) := by rw [hfind, hff]
            have u1 : vcells (Value.int .i64 t) = [Value.int .i64 t] := rfl
            have u2 : ([Value.int .i64 t] : List Value).length = 1 := rfl
            have u3 : ([Value.int .i64 t] : List Value).all one = true := rfl
            have u4 : Go.AM.splice [Value.int IntKind.i64 (Int.ofNat 0)] 0 [Value.int .i64 t] = [Value.int .i64 t] := rfl
            have u5 : ([Value.int .i64 t] : List Value).take 1 = [Value.int .i64 t] := rfl
            have kA := Kp.new n6 H6 (.cells [.int .i64 t] 3 true)
            have bA := hset_at H6 n6 (.cells [.int .i64 t] 3 true)
            obtain ⟨po, rfl, hpo⟩ := id wo6
            rcases hpo with ⟨rfl, rfl⟩ | ⟨zo, rfl, hzo1, hzo2⟩
            · have cwA := cw6.kp kA
              have zkA := zk6.trans (ZK.kp (Z := Z) kA hw6)
              have kxA : Kx (fun z => z = o ∨ N ≤ z) n H (n6 + 1) (hset H6 n6 (.cells [.int .i64 t] 3 true)) := kx6.trans kA.kx
              have hwA := kA.wf hw6
              generalize hA : hset H6 n6 (.cells [.int .i64 t] 3 true) = HA at *
              have kB := Kp.new (n6 + 1) HA (.cells [.int .i64 t] 3 true)
              have bB := hset_at HA (n6 + 1) (.cells [.int .i64 t] 3 true)
              simp (config := {maxSteps:=999999}) only [SS, qx7, forall_const, simprocAttr, f4, hwk, hs', ff_21]
              repeat (first | refine qqn rfl ?_ | ((first | (refine WK.rgn ?_ ?_; kernel_rfl) | refine AtCall.now ?_); simp (config := {maxSteps:=999999}) only [SS, qx7, forall_const, simprocAttr, f0, f4, f5, hwk, hs', hA, bA, u1, u2, u3, u4, u5, List.length_nil, List.drop_zero, ff_21]) | refine qqj rfl ?_ | refine qqk rfl ?_)
              refine ih k (by omega) _ ?_
              refine ⟨[t], kxA.trans kB.kx, zkA.trans (ZK.kp kB hwA), ?_, ⟨_, rfl, .inr ⟨n6 + 1, rfl, by omega, bB⟩⟩, f0, rfl, ?_, ?_, ?_⟩
              · rw [List.append_nil] at cwA
                exact cwA.kpz kB fun q hq => by
                  rcases hq with hq | hq
                  · exact .inl (.inl hq)
                  · have := hq.eq; exact .inr (by omega)
              · rw [List.append_nil] at hs; exact hs
              · simp at hok ⊢; omega
              · rw [← hfo, hfin2]; simp
            · have zA := (kA.keep zo (wo6.lt hw6 ⟨_, _, rfl⟩)).trans hzo2
              have hzo6 := wo6.lt hw6 (q := zo) ⟨_, _, rfl⟩
              have cwA := cw6.kp kA
              have zkA := zk6.trans (ZK.kp (Z := Z) kA hw6)
              have kxA : Kx (fun z => z = o ∨ N ≤ z) n H (n6 + 1) (hset H6 n6 (.cells [.int .i64 t] 3 true)) := kx6.trans kA.kx
              have hwA := kA.wf hw6
              generalize hA : hset H6 n6 (.cells [.int .i64 t] 3 true) = HA at *
              have kd := (Kx.refl (fun q => q = zo) (n6 + 1) HA).set (x := zo) .dead (.inl rfl) (by omega)
              obtain ⟨Z2, hZ2, back⟩ := cwA.other (X := fun q => q = zo) K kd (fun q hq => by omega)
              have hzd : ∀ Z' : Nat → Prop, (∀ q, Z' q → q ≠ zo) → ZK Z' HA (hset HA zo .dead) := fun Z' hZ' => ⟨.set fun c t o e => (by rw [zA] at e; cases e), fun q cs ty own hq e => (hset_ne _ _ _ (hZ' q hq)).trans e⟩
              have cwd := back (hzd Z2 fun q hq e => (hZ2 q hq).2.2 (.inr (.inl (by subst e; exact ⟨_, _, rfl⟩))))
              have zkd := zkA.trans (hzd Z fun q hq e => by have := hZ q hq; omega)
              have kxd : Kx (fun z => z = o ∨ N ≤ z) n H (n6 + 1) (hset HA zo .dead) := kxA.set (x := zo) .dead (.inr hzo1) (by omega)
              have hwd := cwd.1
              generalize hA1 : hset HA zo .dead = HD at *
              have kB := Kp.new (n6 + 1) HD (.cells (out.map (.int .i64) ++ [.int .i64 t]) 3 true)
              have bB := hset_at HD (n6 + 1) (.cells (out.map (.int .i64) ++ [.int .i64 t]) 3 true)
              have z1 : out.length + 1 ≤ bigN := by unfold bigN; omega
              have z2 : [n6].contains zo = false := by simp; omega
              have z3 : (out.map (Value.int .i64)).take out.length = out.map (.int .i64) := List.take_of_length_le (by simp)
              simp (config := {maxSteps:=999999}) only [SS, qx7, forall_const, simprocAttr, f4, hwk, hs', ff_21]
              repeat (first | refine qqn rfl ?_ | ((first | (refine WK.rgn ?_ ?_; kernel_rfl) | refine AtCall.now ?_); simp (config := {maxSteps:=999999}) only [SS, qx7, forall_const, simprocAttr, f0, f4, f5, hwk, hs', hA, bA, u1, u2, u3, u4, u5, zA, z1, z2, z3, hA1, List.drop_zero, List.length_map, Nat.zero_add, Nat.mul_one, ff_21]) | refine qqj rfl ?_ | refine qqk rfl ?_)
              refine ih k (by omega) _ ?_
              refine ⟨out ++ [t], kxd.trans kB.kx, zkd.trans (ZK.kp kB hwd), ?_, ⟨_, by rw [List.length_append]; rfl, .inr ⟨n6 + 1, rfl, by omega, by rw [List.map_append]; exact bB⟩⟩, f0, rfl, ?_, ?_, ?_⟩
              · rw [List.append_assoc] at cwd
                exact cwd.kpz kB fun q hq => by
                  rcases hq with hq | hq
                  · exact .inl (.inl hq)
                  · have := hq.eq; exact .inr (by omega)
              · rw [List.append_assoc] at hs; exact hs
              · simp at hok ⊢; omega
              · rw [← hfo, hfin2]; simp
          · have hs : shortR g (cF co) (u ++ out ++ [t]) ≠ k := by rw [← hsv]; exact hs0
            have hs' : (((sv : Nat) : Int) = (k : Int)) = False := eq_false fun e => hs0 (by omega)
            simp (config := {maxSteps:=999999}) only [SS, qx7, forall_const, simprocAttr, f4, hwk, hs', ff_21]
            repeat (first | refine qqn rfl ?_ | ((first | (refine WK.rgn ?_ ?_; kernel_rfl) | refine AtCall.now ?_); simp (config := {maxSteps:=999999}) only [SS, qx7, forall_const, simprocAttr, f0, f4, hwk, hs', ff_21]) | refine qqj rfl ?_ | refine qqk rfl ?_)
            refine AtCall.byX (pop_cw K cw6 (by simp; omega)) ?_
            rintro w7 n7 H7 kx7 ⟨rfl, zk7, cw7⟩
            rw [List.dropLast_concat] at cw7
            simp (config := {maxSteps:=999999}) only [SS, qx7, forall_const, simprocAttr, ff_21]
            repeat (first | refine qqn rfl ?_ | ((first | (refine WK.rgn ?_ ?_; kernel_rfl) | refine AtCall.now ?_); simp (config := {maxSteps:=999999}) only [SS, qx7, forall_const, simprocAttr, f19, hwj, ff_21]) | refine qqj rfl ?_ | refine qqk rfl ?_)
            refine ih2 (nx0.length - (j + 1)) (by omega) _ ?_
            refine ⟨j + 1, kx6.trans (kx7.mono fun q _ h => h), zk6.trans (zk7.sub fun q hq => .inl hq), cw7, wo6.zk zk7 fun q hq => .inr (.inl hq), wn6.zk zk7 fun q hq => .inr (.inr hq), f5, f0, f4, f17, f18, rfl, hlt, ?_, rfl⟩
            intro t' ht'
            rw [htj] at ht'
            rcases List.mem_append.1 ht' with h | h
            · exact hnot t' h
            · have : t' = t := by simpa using h
              subst this; exact hs
        · exfalso
          rw [List.take_of_length_le (by omega)] at hnot
          exact hnot t0 ht0 hst0
    clear h h1
    rintro ⟨f, n2, H2⟩ ⟨out, kx2, zk2, cw2, wo2, f0, hout⟩
    simp only at f0 kx2 zk2 cw2 wo2
    have hol : out.length = k0 := by rw [hout]; exact hfl
    obtain ⟨po, h5, hpo⟩ := id wo2
    have hn2 := kx2.le
    repeat (first | refine qqn rfl ?_ | ((first | (refine WK.rgn ?_ ?_; kernel_rfl) | refine AtCall.now ?_); simp (config := {maxSteps:=999999}) only [SS, qx7, forall_const, simprocAttr, f0, h5, ff_21]) | refine qqj rfl ?_ | refine qqk rfl ?_)
    refine WK.loop (fun k s => ∃ i : Nat, Kx (fun z => z = o ∨ N ≤ z) n H s.n s.H ∧ ZK Z H s.H ∧ CW (fun q => Z q ∨ VP (f 5) q) s.n s.H S N o pt pv pr pg pe pc g co (u ++ out.take (out.length - i)) ∧ WO n s.H (f 5) out ∧ s.f 0 = .pointer (some ⟨o, 0, none⟩) ∧ s.f 5 = .slice po out.length out.length ∧ s.f 39 = .int .i64 (out.length : Nat) ∧ s.f 40 = .int .i64 (i : Nat) ∧ i ≤ out.length ∧ k = out.length - i) out.length ?_ ?_
    · exact ⟨0, kx2, zk2, by rw [Nat.sub_zero, List.take_length]; exact cw2, wo2, f0, h5, rfl, rfl, Nat.zero_le _, rfl⟩
    clear f0
    rintro k ⟨f', n3, H3⟩ ⟨i, kx3, zk3, cw3, wo3, f0, f5, f39, f40, hi, rfl⟩ ih
    simp only at f0 f5 f39 f40 kx3 zk3 cw3 wo3 ih
    by_cases hlt : i < out.length
    · have hwi : IntKind.wrap .i64 ((i : Int) + 1) = ((i + 1 : Nat) : Int) := by rw [wrap_in (by omega) (by omega)]; rfl
      repeat (first | refine qqn rfl ?_ | ((first | (refine WK.rgn ?_ ?_; kernel_rfl) | refine AtCall.now ?_); simp (config := {maxSteps:=999999}) only [SS, qx7, forall_const, simprocAttr, f0, f5, f39, f40, hlt, ff_21]) | refine qqj rfl ?_ | refine qqk rfl ?_)
      refine AtCall.byX (pop_cw K cw3 (by rw [List.length_append, List.length_take]; omega)) ?_
      rintro v n4 H4 kx4 ⟨rfl, zk4, cw4⟩
      have hd : (u ++ out.take (out.length - i)).dropLast = u ++ out.take (out.length - (i + 1)) := by
        have hne : out.take (out.length - i) ≠ [] := by
          intro e
          have := congrArg List.length e
          rw [List.length_take, List.length_nil] at this
          omega
        rw [List.dropLast_append_of_ne_nil hne, List.dropLast_eq_take, List.length_take, List.take_take]
        congr 2
        omega
      rw [hd] at cw4
      simp (config := {maxSteps:=999999}) only [SS, qx7, forall_const, simprocAttr, ff_21]
      repeat (first | refine qqn rfl ?_ | ((first | (refine WK.rgn ?_ ?_; kernel_rfl) | refine AtCall.now ?_); simp (config := {maxSteps:=999999}) only [SS, qx7, forall_const, simprocAttr, f40, hwi, ff_21]) | refine qqj rfl ?_ | refine qqk rfl ?_)
      refine ih (out.length - (i + 1)) (by omega) _ ?_
      exact ⟨i + 1, kx3.trans (kx4.mono fun q _ h => h), zk3.trans (zk4.sub fun q hq => .inl hq), cw4, wo3.zk zk4 fun q hq => .inr hq, f0, f5, f39, rfl, hlt, rfl⟩
    · have hie : i = out.length := by omega
      rw [hie, Nat.sub_self, List.take_zero, List.append_nil] at cw3
      repeat (first | refine qqn rfl ?_ | ((first | (refine WK.rgn ?_ ?_; kernel_rfl) | refine AtCall.now ?_); simp (config := {maxSteps:=999999}) only [SS, qx7, forall_const, simprocAttr, f0, f5, f39, f40, hlt, ff_21]) | refine qqj rfl ?_ | refine qqk rfl ?_)
      (first | refine WK.retNil ⟨Or.inr rfl, _, rfl, ?_, ?_⟩ | refine WK.skipNil ⟨Or.inl rfl, _, rfl, ?_, ?_⟩)
      · exact kx3.keep
      · simp only [packed, fset_apply, Nat.reduceEqDiff, ↓reduceIte, List.getD_cons_zero, List.getD_cons_succ, f5, ff_21]
        refine ⟨zk3, cw3.mono fun q hq => .inl hq, fun _ => ⟨_, rfl, ?_⟩, fun hc => by omega⟩
        rw [← hout, ← h5]
        exact wo3
end
end Go.Proofs.Ytpdlmpbhohinpaa

namespace Go.Proofs.Ytpdlmpbhohinpaa
open Go.AM Go.RowKit
set_option maxRecDepth 100000
theorem same_self : ∀ a : List Int, less a a = false := by
  intro a
  induction a with
  | nil => simp [less]
  | cons x a ih => simp [less, ih]
end Go.Proofs.Ytpdlmpbhohinpaa

namespace Go.Proofs.Ytpdlmpbhohinpaa
open Go.AM
set_option maxRecDepth 100000
def apart (vd vl : Value) : Prop := ∀ y z m k, vd = .slice (some ⟨y, 0, none⟩) m m → vl = .slice (some ⟨z, 0, none⟩) k k → y ≠ z
end Go.Proofs.Ytpdlmpbhohinpaa

namespace Go.Proofs.Ytpdlmpbhohinpaa
open Go.AM
set_option maxRecDepth 100000
end Go.Proofs.Ytpdlmpbhohinpaa

namespace Go.Proofs.Ytpdlmpbhohinpaa
open Go.AM
set_option maxRecDepth 100000
end Go.Proofs.Ytpdlmpbhohinpaa

namespace Go.Proofs.Ytpdlmpbhohinpaa
open Go.AM
set_option maxRecDepth 100000
end Go.Proofs.Ytpdlmpbhohinpaa

namespace Go.Proofs.Ytpdlmpbhohinpaa
open Go.AM
set_option maxRecDepth 100000
end Go.Proofs.Ytpdlmpbhohinpaa

namespace Go.Proofs.Ytpdlmpbhohinpaa
open Go.AM Go.RowKit
set_option maxRecDepth 100000
def cnt (l : List Int) (t : Int) : Nat := (l.filter fun x => decide (x = t)).length
theorem cnt_nodup {t : Int} : ∀ {l : List Int}, l.Nodup → cnt l t = if t ∈ l then 1 else 0 := by
  intro l
  induction l with
  | nil => intro _; rfl
  | cons a l ih =>
    intro h
    obtain ⟨h1, h2⟩ := List.nodup_cons.1 h
    have := ih h2
    unfold cnt at this ⊢
    rw [List.filter_cons]
    by_cases e : a = t
    · subst e
      rw [if_neg h1] at this
      simp [this]
    · have e' : t ≠ a := fun h => e h.symm
      simp [e, e', this]
theorem count17_gives {p : Option Addr} {l : List Int} {t : Int} {n : Nat} {H : Heap} (h : RA (Value.int .i64) H p l) (hl : l.length ≤ 1000000) : Gives Try.prog 25 [.slice p l.length l.length, .int .i64 t] n H fun v n' H' => v = .int .i64 (cnt l t : Nat) ∧ n' = n ∧ H' = H := by
  refine Gives.of orders ok25 (Nat.le_of_ble_eq_true rfl) ?_
  repeat (first | refine qqn rfl ?_ | ((first | (refine WK.rgn ?_ ?_; kernel_rfl) | refine AtCall.now ?_); simp (config := {maxSteps:=999999}) only [SS, qx10, forall_const, simprocAttr, ff_25]) | refine qqj rfl ?_ | refine qqk rfl ?_)
  refine WK.loop (fun k s => ∃ j : Nat, s.n = n ∧ s.H = H ∧ s.f 1 = .int .i64 t ∧ s.f 5 = .int .i64 (cnt (l.take j) t : Nat) ∧ s.f 8 = .slice p l.length l.length ∧ s.f 9 = .int .i64 (l.length : Nat) ∧ s.f 10 = .int .i64 (j : Nat) ∧ j ≤ l.length ∧ k = l.length - j) l.length ?_ ?_
  · exact ⟨0, rfl, rfl, rfl, rfl, rfl, rfl, rfl, Nat.zero_le _, rfl⟩
  rintro k ⟨f, n1, H1⟩ ⟨j, rfl, rfl, f1, f5, f8, f9, f10, hj, rfl⟩ ih
  simp only at f1 f5 f8 f9 f10 h ih
  by_cases hlt : j < l.length
  · obtain ⟨x, kx, cs, ty, own, rfl, hx, hc⟩ := h (by intro e; subst e; simp at hlt)
    have hcj := hc j _ (List.getElem?_eq_getElem hlt)
    have hwj : IntKind.wrap .i64 ((j : Int) + 1) = ((j + 1 : Nat) : Int) := by rw [wrap_in (by omega) (by omega)]; rfl
    have htj : l.take (j + 1) = l.take j ++ [l[j]] := List.take_succ_eq_append_getElem hlt
    have hcl : cnt (l.take j) t ≤ l.length := by
      unfold cnt
      have := List.length_filter_le (fun x => decide (x = t)) (l.take j)
      rw [List.length_take] at this; omega
    have hcs : cnt (l.take (j + 1)) t = cnt (l.take j) t + if l[j] = t then 1 else 0 := by
      unfold cnt
      rw [htj, List.filter_append, List.length_append]
      by_cases e : l[j] = t <;> simp [e]
    generalize cnt (l.take j) t = c at *
    generalize l[j] = y at *
    have hwc : IntKind.wrap .i64 ((c : Int) + 1) = ((c + 1 : Nat) : Int) := by rw [wrap_in (by omega) (by omega)]; rfl
    by_cases he : y = t
    · rw [if_pos he] at hcs
      repeat (first | refine qqn rfl ?_ | ((first | (refine WK.rgn ?_ ?_; kernel_rfl) | refine AtCall.now ?_); simp (config := {maxSteps:=999999}) only [SS, qx10, forall_const, simprocAttr, f1, f5, f8, f9, f10, hlt, hx, hcj, he, hwc, hwj, ff_25]) | refine qqj rfl ?_ | refine qqk rfl ?_)
      refine ih (l.length - (j + 1)) (by omega) _ ?_
      refine ⟨j + 1, rfl, rfl, f1, ?_, f8, f9, rfl, hlt, rfl⟩
      rw [hcs]; rfl
    · rw [if_neg he] at hcs
      repeat (first | refine qqn rfl ?_ | ((first | (refine WK.rgn ?_ ?_; kernel_rfl) | refine AtCall.now ?_); simp (config := {maxSteps:=999999}) only [SS, qx10, forall_const, simprocAttr, f1, f5, f8, f9, f10, hlt, hx, hcj, he, hwj, ff_25]) | refine qqj rfl ?_ | refine qqk rfl ?_)
      refine ih (l.length - (j + 1)) (by omega) _ ?_
      refine ⟨j + 1, rfl, rfl, f1, ?_, f8, f9, rfl, hlt, rfl⟩
      rw [hcs]; exact f5
  · repeat (first | refine qqn rfl ?_ | ((first | (refine WK.rgn ?_ ?_; kernel_rfl) | refine AtCall.now ?_); simp (config := {maxSteps:=999999}) only [SS, qx10, forall_const, simprocAttr, f1, f5, f8, f9, f10, hlt, ff_25]) | refine qqj rfl ?_ | refine qqk rfl ?_)
    (first | refine WK.retNil ⟨Or.inr rfl, _, rfl, ?_, ?_⟩ | refine WK.skipNil ⟨Or.inl rfl, _, rfl, ?_, ?_⟩)
    · exact fun _ _ => rfl
    · simp only [packed, fset_apply, Nat.reduceEqDiff, ↓reduceIte, List.getD_cons_zero, List.getD_cons_succ, f5, ff_25]
      rw [List.take_of_length_le (by omega)]
      exact ⟨rfl, trivial, trivial⟩
theorem acc_run {g : Gram} {gd em : List Bool} : ∀ (w : List Int) (s s' : List (List It)), w.foldlM (pushS g gd em) s = some s' → accW g gd em s w = accB g s' := by
  intro w
  induction w with
  | nil => intro s s' h; cases h; rfl
  | cons t w ih =>
    intro s s' h
    rw [List.foldlM_cons] at h
    rw [accW_cons]
    cases hp : pushS g gd em s t with
    | none => rw [hp] at h; cases h
    | some s2 => rw [hp] at h; exact ih s2 s' h
theorem acc_none {g : Gram} {gd em : List Bool} : ∀ (w : List Int) (s : List (List It)), w.foldlM (pushS g gd em) s = none → accW g gd em s w = false := by
  intro w
  induction w with
  | nil => intro s h; cases h
  | cons t w ih =>
    intro s h
    rw [List.foldlM_cons] at h
    rw [accW_cons]
    cases hp : pushS g gd em s t with
    | none => rfl
    | some s2 => rw [hp] at h; exact ih s2 h
theorem accW_iff {g : Gram} (ok : RightOK g) {w : List Int} : accW g (gdG g) (emG g) (newS g (gdG g) (emG g)) w = true ↔ Yd g [0] w := by
  cases hr : runS g w with
  | none =>
    rw [acc_none w _ hr]
    constructor
    · intro h; cases h
    · intro h
      have := run_some ok w [] (by rw [List.append_nil]; exact h)
      rw [hr] at this; cases this
  | some s =>
    rw [acc_run w _ s hr]
    have := accR_iff ok (u := w) (by rw [hr]; rfl)
    unfold accR at this
    rwa [hr, Option.getD_some] at this
end Go.Proofs.Ytpdlmpbhohinpaa

namespace Go.Proofs.Ytpdlmpbhohinpaa
open Go.AM Go.RowKit
set_option maxRecDepth 100000
theorem same_refl (l : List Int) : same l l = true := by unfold same; rw [same_self]; rfl
theorem WO.src2 {n n2 : Nat} {H H' : Heap} {p : Option Addr} {l : List Int} (h : WO n H (.slice p l.length l.length) l) (hw : WF n2 H) (hk : ∀ q, q < n2 → H' q = H q) : ∃ rd : List Nat, tsrc H' 1 (.slice p l.length l.length) = some (l.map (.int .i64), rd, l.length) ∧ ∀ q ∈ rd, q < n2 := by
  obtain ⟨q, e, ⟨rfl, rfl⟩ | ⟨z, rfl, _, hz⟩⟩ := h
  · cases e; exact ⟨[], rfl, fun q h => by cases h⟩
  · cases e
    have hzn : z < n2 := Classical.byContradiction fun hc => by rw [hw z (by omega)] at hz; cases hz
    refine ⟨[z], ?_, fun q hq => ?_⟩
    · simp [tsrc, tsrc2, hk z hzn, hz]
      exact List.take_of_length_le (by simp)
    · have : q = z := by simpa using hq
      subst this
      exact hzn
end Go.Proofs.Ytpdlmpbhohinpaa
