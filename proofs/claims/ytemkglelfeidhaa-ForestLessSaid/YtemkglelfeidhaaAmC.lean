/- A part of a proof. Its conditions: none. -/
import Derived.Test.YtemkglelfeidhaaAmE
import Derived.ProofKit
import Derived.Deep.Slices
import Derived.Carry
import Derived.Test.YtemkglelfeidhaaAmD
import Derived.Lib.LaidTab
import Derived.ChangeSame
import Derived.LaidOnce
import Derived.Lay
import Derived.Deep.DeepHandedRow
import Derived.Test.YtemkglelfeidhaaAmB
import Derived.Test.YtemkglelfeidhaaAmA
set_option linter.all false
namespace Go.AM
open Go.RowKit
inductive AR (P : Program) (H : Heap) : TypeId → List Value → Prop where
  | bool (t : TypeId) (b : Bool) (ht : P.underlying t = some .bool) : AR P H t [.bool b]
  | int (t : TypeId) (k : IntKind) (n : Int) (ht : P.underlying t = some (.int k)) (hw : (Lit.int k n).wf = true) : AR P H t [.int k n]
  | float (t : TypeId) (k : FloatKind) (b : Nat) (ht : P.underlying t = some (.float k)) (hw : (Lit.float k b).wf = true) : AR P H t [.float k b]
  | string (t : TypeId) (s : ByteArray) (ht : P.underlying t = some .string) (hs : s.size ≤ maxLen) : AR P H t [.string s]
  | nil (t e : TypeId) (ht : P.underlying t = some (.slice e)) : AR P H t [.slice none 0 0]
  | slice (t e : TypeId) (x m : Nat) (cs : List Value) (ht : P.underlying t = some (.slice e)) (hx : H x = .cells cs e false) (hl : cs.length = m * P.cellsOf e) (hm : m ≤ maxLen)
      (he : ∀ i, i < m → AR P H e ((cs.drop (i * P.cellsOf e)).take (P.cellsOf e))) : AR P H t [.slice (some ⟨x, 0, none⟩) m m]
  | struct (t : TypeId) (fs : Array Field) (cs : List Value) (ht : P.underlying t = some (.struct fs)) (hl : cs.length = P.cellsOf t)
      (hf : ∀ (i : Nat) (f : Field), fs[i]? = some f → AR P H f.type ((cs.drop f.offset).take (P.cellsOf f.type))) : AR P H t cs
theorem AR.mono {P : Program} {H H' : Heap} {t : TypeId} {cs : List Value} (h : AR P H t cs) (hle : ∀ x, H x ≠ .dead → H' x = H x) : AR P H' t cs := by
  induction h with
  | bool t b ht => exact .bool t b ht
  | int t k n ht hw => exact .int t k n ht hw
  | float t k b ht hw => exact .float t k b ht hw
  | string t s ht hs => exact .string t s ht hs
  | nil t e ht => exact .nil t e ht
  | slice t e x m cs ht hx hl hm _ ih => exact .slice t e x m cs ht (by rw [hle x (by rw [hx]; intro e; cases e), hx]) hl hm ih
  | struct t fs cs ht hl _ ih => exact .struct t fs cs ht hl ih
def lined (P : Program) : Nat → List Field → Nat → Bool
  | at_, [], stop => at_ == stop
  | at_, f :: fs, stop => f.offset == at_ && lined P (at_ + P.cellsOf f.type) fs stop
def plainT (P : Program) : Nat → TypeId → Bool
  | 0, _ => false
  | d + 1, t => match P.underlying t with
    | some .bool | some (.int _) | some (.float _) | some .string => P.cellsOf t == 1
    | some (.slice e) => P.cellsOf t == 1 && decide (P.cellsOf e ≠ 0) && plainT P d e
    | some (.struct fs) => lined P 0 fs.toList (P.cellsOf t) && fs.toList.all fun f => plainT P d f.type
    | _ => false
structure Sofar (P : Program) (w : World) (ι : Inj) (C : Heap) (n : Nat) : Prop where
  hr : HR P w.heap.size ι C w
  free : ∀ x, n ≤ x → ι x = none
  wf : WF n C
  ro : ∀ x t, ι x = some t → t.own = false
  pos : 0 < w.heap.size
structure More (ι : Inj) (C : Heap) (n : Nat) (κ : Inj) (C' : Heap) (n' : Nat) : Prop where
  le : Inj.le ι κ
  heap : ∀ x, C x ≠ .dead → C' x = C x
  n : n ≤ n'
theorem More.refl (ι : Inj) (C : Heap) (n : Nat) : More ι C n ι C n := ⟨Inj.le_refl ι, fun _ _ => rfl, Nat.le_refl _⟩
theorem More.trans {ι κ μ : Inj} {C C1 C2 : Heap} {n n1 n2 : Nat} (a : More ι C n κ C1 n1) (b : More κ C1 n1 μ C2 n2) : More ι C n μ C2 n2 :=
  ⟨Inj.le_trans a.le b.le, fun x h => by rw [b.heap x (by rw [a.heap x h]; exact h), a.heap x h], Nat.le_trans a.n b.n⟩
section
variable {P : Program} {w : World}
theorem Sofar.addRO {ι : Inj} {C : Heap} {n : Nat} (h : Sofar P w ι C n) {cs : List Value} {e : TypeId} {b o : Nat} (hb : b < w.heap.size)
    (hc : ∀ (i : Nat) (v : Value), cs[i]? = some v → ∃ v', w.cell? ⟨b, o + i, none⟩ = some v' ∧ VR ι v v' ∧ one v = true) :
    Sofar P w (iset ι n ⟨b, o, false, 0, 0⟩) (hset C n (.cells cs e false)) (n + 1) ∧ More ι C n (iset ι n ⟨b, o, false, 0, 0⟩) (hset C n (.cells cs e false)) (n + 1) := by
  have hn := h.free n (Nat.le_refl _)
  have hle := iset_le (ι := ι) ⟨b, o, false, 0, 0⟩ hn
  refine ⟨⟨⟨fun x => ?_, fun x y t u hx hy ex ey ho hbl => ?_, fun x t e => ?_, Nat.le_refl _, fun g hg => hle g _ (h.hr.gl g hg), fun x y t u cs' ty b ds ty' hx hy ex ey hbl => ?_⟩, fun x hx => ?_, fun x hx => ?_, fun x t e => ?_, h.pos⟩, ⟨hle, fun x hx => ?_, Nat.le_succ n⟩⟩
  · rw [hset_apply]; split
    · rename_i e; subst e
      refine ⟨_, iset_same _ _ _, rfl, fun i v e => ?_, fun e => by cases e⟩
      obtain ⟨v', h1, h2, h3⟩ := hc i v e
      exact ⟨v', h1, h2.mono hle, h3⟩
    · exact (h.hr.obj x).carry hle fun _ _ => rfl
  · exfalso
    by_cases e : x = n
    · subst e; rw [iset_same] at ex; cases ex; cases ho
    · rw [iset_other _ _ e] at ex
      rw [h.ro x t ex] at ho; cases ho
  · by_cases e1 : x = n
    · subst e1; rw [iset_same] at e; cases e; exact ⟨hb, (fun k => by cases k), fun _ => hb⟩
    · rw [iset_other _ _ e1] at e; exact h.hr.rng x t e
  · by_cases e1 : x = n
    · subst e1; rw [hset_same] at hx; cases hx
    · by_cases e2 : y = n
      · subst e2; rw [hset_same] at hy; cases hy
      · rw [hset_other _ _ e1] at hx
        rw [hset_other _ _ e2] at hy
        rw [iset_other _ _ e1] at ex
        rw [iset_other _ _ e2] at ey
        exact h.hr.last x y t u cs' ty b ds ty' hx hy ex ey hbl
  · rw [iset_other _ _ (by omega)]; exact h.free x (by omega)
  · rw [hset_other _ _ (by omega)]; exact h.wf x (by omega)
  · by_cases e1 : x = n
    · subst e1; rw [iset_same] at e; cases e; rfl
    · rw [iset_other _ _ e1] at e; exact h.ro x t e
  · by_cases e : x = n
    · subst e; exact absurd (h.wf x (Nat.le_refl _)) hx
    · exact hset_other _ _ e
theorem cells?_spec {base : Nat} {a : Addr} {m : Nat} {cs : List Value} (h : w.cells? base a m = some cs) : cs.length = m ∧ ∀ i, i < m → w.cell? (a.add i) = cs[i]? := by
  obtain ⟨_, h1, h2⟩ := World.cells?_some h
  exact ⟨h1, h2⟩
variable {H : Type} {enc : TypeId × Value → H}
def Opened (P : Program) (w : World) (ι : Inj) (C : Heap) (n : Nat) (t : TypeId) (cs : List Value) : Prop :=
  ∃ acs κ C' n', Sofar P w κ C' n' ∧ More ι C n κ C' n' ∧ VRs κ acs cs ∧ AR P C' t acs ∧ acs.length = P.cellsOf t ∧ acs.all one = true
theorem opened_flat {ι : Inj} {C : Heap} {n : Nat} {t : TypeId} {v : Value} (h : Sofar P w ι C n) (hf : still1 v = true) (hr : VR ι v v) (ha : AR P C t [v]) (hc : (P.cellsOf t == 1) = true) : Opened P w ι C n t [v] := by
  refine ⟨[v], ι, C, n, h, More.refl _ _ _, .cons hr (.nil ι), ha, ?_, by simp [still1_one hf]⟩
  have : P.cellsOf t = 1 := by simpa using hc
  simp [this]
theorem open_elems {e : TypeId} {a : Addr} {f : TypeId → List Value → Prop} {len : Nat} (hop : ∀ cs, f e cs → ∀ ι C n, Sofar P w ι C n → Opened P w ι C n e cs)
    (he : ∀ i, i < len → ∃ cs, w.cells? 0 (a.add (i * P.cellsOf e)) (P.cellsOf e) = some cs ∧ f e cs) : ∀ m, m ≤ len → ∀ ι C n, Sofar P w ι C n →
    ∃ (acs : List Value) (κ : Inj) (C' : Heap) (n' : Nat), Sofar P w κ C' n' ∧ More ι C n κ C' n' ∧ acs.length = m * P.cellsOf e ∧ (∀ i, i < m → AR P C' e ((acs.drop (i * P.cellsOf e)).take (P.cellsOf e))) ∧
      ∀ (i : Nat) (v : Value), acs[i]? = some v → ∃ v', w.cell? (a.add i) = some v' ∧ VR κ v v' ∧ one v = true := by
  intro m
  induction m with
  | zero => intro _ ι C n h; exact ⟨[], ι, C, n, h, More.refl _ _ _, by simp, fun i hi => by omega, fun i v e => by simp at e⟩
  | succ m ih =>
    intro hm ι C n h
    obtain ⟨acs, κ, C', n', h1, h2, h3, h4, h5⟩ := ih (by omega) ι C n h
    obtain ⟨cs, hcs, hf⟩ := he m (by omega)
    obtain ⟨bcs, μ, C'', n'', g1, g2, g3, g4, g5, g6⟩ := hop cs hf κ C' n' h1
    obtain ⟨hlen, hcell⟩ := cells?_spec hcs
    refine ⟨acs ++ bcs, μ, C'', n'', g1, h2.trans g2, by rw [List.length_append, h3, g5, Nat.succ_mul], fun i hi => ?_, fun i v hq => ?_⟩
    · by_cases him : i < m
      · have hle : i * P.cellsOf e + P.cellsOf e ≤ m * P.cellsOf e := by rw [← Nat.succ_mul]; exact Nat.mul_le_mul_right _ him
        rw [List.drop_append_of_le_length (by omega), List.take_append_of_le_length (by simp; omega)]
        exact (h4 i him).mono g2.heap
      · have : i = m := by omega
        subst this
        rw [← h3, List.drop_left, List.take_of_length_le (by omega)]
        exact g4
    · by_cases hia : i < acs.length
      · rw [List.getElem?_append_left hia] at hq
        obtain ⟨v', e1, e2, e3⟩ := h5 i v hq
        exact ⟨v', e1, e2.mono g2.le, e3⟩
      · rw [List.getElem?_append_right (by omega)] at hq
        obtain ⟨v', e1, e2⟩ := g3.get hq
        refine ⟨v', ?_, e2, List.all_eq_true.1 g6 v (List.mem_of_getElem? hq)⟩
        have hi' : i - acs.length < bcs.length := by
          rcases Nat.lt_or_ge (i - acs.length) bcs.length with g | g
          · exact g
          · rw [List.getElem?_eq_none g] at hq; cases hq
        have := hcell (i - acs.length) (by omega)
        rw [Go.Deep.add_add, ← h3, show acs.length + (i - acs.length) = i by omega] at this
        rw [this]; exact e1
theorem open_fields {f : TypeId → List Value → Prop} {cs : List Value} : ∀ (fs : List Field) (at_ stop : Nat), lined P at_ fs stop = true → stop ≤ cs.length →
    (∀ g ∈ fs, ∀ cs', f g.type cs' → ∀ ι C n, Sofar P w ι C n → Opened P w ι C n g.type cs') → (∀ g ∈ fs, f g.type ((cs.drop g.offset).take (P.cellsOf g.type))) → ∀ ι C n, Sofar P w ι C n →
    ∃ acs κ C' n', Sofar P w κ C' n' ∧ More ι C n κ C' n' ∧ VRs κ acs ((cs.drop at_).take (stop - at_)) ∧ acs.all one = true ∧ acs.length = stop - at_ ∧ at_ ≤ stop ∧
      ∀ g ∈ fs, at_ ≤ g.offset ∧ AR P C' g.type ((acs.drop (g.offset - at_)).take (P.cellsOf g.type)) := by
  intro fs
  induction fs with
  | nil =>
    intro at_ stop hl _ _ _ ι C n h
    have : at_ = stop := by simpa [lined] using hl
    subst this
    exact ⟨[], ι, C, n, h, More.refl _ _ _, by simpa using VRs.nil ι, rfl, by simp, Nat.le_refl _, fun g hg => by cases hg⟩
  | cons g fs ih =>
    intro at_ stop hl hst hop hf ι C n h
    simp only [lined, Bool.and_eq_true, beq_iff_eq] at hl
    obtain ⟨hoff, hl⟩ := hl
    obtain ⟨bcs, κ, C', n', g1, g2, g3, g4, g5, g6⟩ := hop g (by simp) _ (hf g (by simp)) ι C n h
    obtain ⟨acs, μ, C'', n'', h1, h2, h3, h4, h5, h6, h7⟩ := ih _ stop hl hst (fun g' hg' => hop g' (by simp [hg'])) (fun g' hg' => hf g' (by simp [hg'])) κ C' n' g1
    rw [hoff] at g3
    refine ⟨bcs ++ acs, μ, C'', n'', h1, g2.trans h2, ?_, by simp [g6, h4], by rw [List.length_append, g5, h5]; omega, by omega, fun g' hg' => ?_⟩
    · have e1 : (cs.drop at_).take (stop - at_) = (cs.drop at_).take (P.cellsOf g.type) ++ (cs.drop (at_ + P.cellsOf g.type)).take (stop - (at_ + P.cellsOf g.type)) := by
        have : stop - at_ = P.cellsOf g.type + (stop - (at_ + P.cellsOf g.type)) := by omega
        rw [this, List.take_add, List.drop_drop]
      rw [e1]
      exact (g3.mono h2.le).append h3
    · rcases List.mem_cons.1 hg' with e | e
      · subst e
        refine ⟨by omega, ?_⟩
        rw [hoff, Nat.sub_self, List.drop_zero, List.take_append_of_le_length (by omega), List.take_of_length_le (by omega)]
        exact g4.mono h2.heap
      · obtain ⟨k1, k2⟩ := h7 g' e
        refine ⟨by omega, ?_⟩
        rw [List.drop_append, List.drop_of_length_le (by omega), List.nil_append, g5, show g'.offset - at_ - P.cellsOf g.type = g'.offset - (at_ + P.cellsOf g.type) by omega]
        exact k2
theorem open_cells : ∀ (fuel d : Nat) (t : TypeId) (cs : List Value) (x : DataW H × List MemPlace), plainT P d t = true → DataW.trod enc P w 0 (fun _ => true) true fuel t cs = some x →
    ∀ ι C n, Sofar P w ι C n → Opened P w ι C n t cs := by
  intro fuel
  induction fuel with
  | zero => intro d t cs x _ h; simp [DataW.trod] at h
  | succ fuel ih =>
    intro d t cs x hp h ι C n hs
    cases d with
    | zero => simp [plainT] at hp
    | succ d =>
      simp only [plainT] at hp
      split at hp
      · rename_i ht
        obtain ⟨b, rfl, _⟩ := DataW.trod_bool ht h
        exact opened_flat hs rfl (.bool b) (.bool t b ht) hp
      · rename_i k ht
        obtain ⟨m, rfl, _, hw⟩ := DataW.trod_int ht h
        exact opened_flat hs rfl (.int k m) (.int t k m ht hw) hp
      · rename_i k ht
        have : ∃ b, cs = [.float k b] ∧ (Lit.float k b).wf = true := by
          unfold DataW.trod at h
          rw [ht] at h
          split at h <;> simp_all
        obtain ⟨b, rfl, hw⟩ := this
        exact opened_flat hs rfl (.float k b) (.float t k b ht hw) hp
      · rename_i ht
        obtain ⟨s, rfl, _, hw⟩ := DataW.trod_string ht h
        exact opened_flat hs rfl (.string s) (.string t s ht hw) hp
      · rename_i e ht
        simp only [Bool.and_eq_true, decide_eq_true_eq] at hp
        obtain ⟨⟨hc, he0⟩, hpe⟩ := hp
        have hc' : P.cellsOf t = 1 := by simpa using hc
        rcases DataW.trod_slice ht h with ⟨rfl, _⟩ | ⟨a, len, cap, elems, rest, m, hm, rfl, _, _, hlc, hmx, hel, h1, h2, _⟩
        · exact opened_flat hs rfl .sliceNil (.nil t e ht) hc
        · have hmf : m = fuel := by omega
          subst hmf
          by_cases hcap : cap = 0
          · have hl0 : len = 0 := by omega
            subst hcap hl0
            obtain ⟨k1, k2⟩ := hs.addRO (cs := []) (e := e) (b := 0) (o := 0) hs.pos (fun i v e => by simp at e)
            exact ⟨[.slice (some ⟨n, 0, none⟩) 0 0], _, _, n + 1, k1, k2, .cons (.sliceE n 0 a _ (iset_same _ _ _) rfl) (.nil _), .slice t e n 0 [] ht (hset_same _ _ _) (by simp) (Nat.zero_le _) (fun i hi => absurd hi (Nat.not_lt_zero _)), by simp [hc'], rfl⟩
          · obtain ⟨hr1, hr2⟩ := h2 rfl
            have hsome : ∀ i, i < len → ∃ cs, w.cells? 0 (a.add (i * P.cellsOf e)) (P.cellsOf e) = some cs ∧ (∃ x, DataW.trod enc P w 0 (fun _ => true) true m e cs = some x) := by
              intro i hi
              have := h1 i hi
              rw [List.getElem?_eq_getElem (by omega)] at this
              obtain ⟨cs', e1, e2⟩ := Option.bind_eq_some_iff.1 this
              exact ⟨cs', e1, _, e2⟩
            have hfirst : ∃ cs, w.cells? 0 (a.add 0) (P.cellsOf e) = some cs := by
              by_cases hl : 0 < len
              · obtain ⟨cs', e1, _⟩ := hsome 0 hl
                exact ⟨cs', by simpa using e1⟩
              · have hl0 : len = 0 := by omega
                have := hr2 0 (by omega)
                rw [List.getElem?_eq_getElem (by omega)] at this
                obtain ⟨cs', e1, _⟩ := Option.bind_eq_some_iff.1 this
                exact ⟨cs', by simpa [hl0] using e1⟩
            obtain ⟨cs0, hcs0⟩ := hfirst
            obtain ⟨hl0, hcell0⟩ := cells?_spec hcs0
            have hc0 := hcell0 0 (by omega)
            rw [List.getElem?_eq_getElem (by omega)] at hc0
            have ha : a.add 0 = a := by simp [Addr.add]
            rw [ha, ha] at hc0
            have hblk : a.block < w.heap.size := World.block_lt_of_cell? w a hc0
            have hspot : a.spot = none := by
              unfold World.cell? at hc0
              cases hsp : a.spot with
              | none => rfl
              | some s => simp [hsp] at hc0; split at hc0 <;> simp at hc0
            obtain ⟨b, o, sp⟩ := a
            simp only at hspot hblk
            subst hspot
            obtain ⟨acs, κ, C', n', g1, g2, g3, g4, g5⟩ := open_elems (f := fun e cs => ∃ x, DataW.trod enc P w 0 (fun _ => true) true m e cs = some x)
              (fun cs' hx ι C n h => by obtain ⟨x, hx⟩ := hx; exact ih d e cs' x hpe hx ι C n h) hsome len (Nat.le_refl _) ι C n hs
            obtain ⟨k1, k2⟩ := g1.addRO (e := e) hblk (fun i v e => by
              obtain ⟨v', e1, e2⟩ := g5 i v e
              rw [add_lit] at e1
              exact ⟨v', e1, e2⟩)
            refine ⟨[.slice (some ⟨n', 0, none⟩) len len], _, _, n' + 1, k1, g2.trans k2, .cons ?_ (.nil _), ?_, by simp [hc'], rfl⟩
            · exact .slice n' 0 len o cap _ (iset_same _ _ _) (fun _ => rfl) hlc hmx (fun e => by cases e)
            · refine .slice t e n' len acs ht (hset_same _ _ _) g3 (by omega) fun i hi => (g4 i hi).mono k2.heap
      · rename_i fs ht
        simp only [Bool.and_eq_true, List.all_eq_true] at hp
        obtain ⟨xs, m, hm, _, hlen, hxs, hf⟩ := DataW.trod_struct ht h
        have hmf : m = fuel := by omega
        subst hmf
        obtain ⟨acs, κ, C', n', g1, g2, g3, g4, g5, _, g7⟩ := open_fields (w := w) (f := fun t cs => ∃ x, DataW.trod enc P w 0 (fun _ => true) true m t cs = some x) (cs := cs) fs.toList 0 (P.cellsOf t) hp.1 (by omega)
          (fun g hg cs' hx ι C n h => by obtain ⟨x, hx⟩ := hx; exact ih d g.type cs' x (hp.2 g hg) hx ι C n h)
          (fun g hg => by
            obtain ⟨i, hi, rfl⟩ := List.getElem_of_mem hg
            have hi' : i < fs.size := by simpa using hi
            have := hf i fs[i] (Array.getElem?_eq_getElem hi')
            rw [List.getElem?_eq_getElem (by omega)] at this
            exact ⟨_, by simpa using this⟩) ι C n hs
        refine ⟨acs, κ, C', n', g1, g2, ?_, ?_, by omega, g4⟩
        · simpa [List.take_of_length_le (Nat.le_of_eq hlen)] using g3
        · refine .struct t fs acs ht (by omega) fun i f hi => ?_
          have hmem : f ∈ fs.toList := by have := Array.mem_of_getElem? hi; simpa using this
          have := (g7 f hmem).2
          simpa using this
      · cases hp
end
end Go.AM
namespace Go.AM
open Go.RowKit Go.ChangeShapes Go.WideShapes Go.ChangeAt
section
variable {P : Program} {H : Type} {enc : TypeId × Value → H}
def ARV (P : Program) (H : Heap) (t : TypeId) (v : Value) : Prop := AR P H t (vcells v) ∧ (aggT P t = some true → ∃ cs, v = .agg cs) ∧ (aggT P t = some false → one v = true)
inductive ARs (P : Program) (H : Heap) : List TypeId → List Value → Prop where
  | nil : ARs P H [] []
  | cons {t : TypeId} {v : Value} {ts : List TypeId} {vs : List Value} (h : ARV P H t v) (k : ARs P H ts vs) : ARs P H (t :: ts) (v :: vs)
theorem ARV.mono {H H' : Heap} {t : TypeId} {v : Value} (h : ARV P H t v) (hle : ∀ x, H x ≠ .dead → H' x = H x) : ARV P H' t v := ⟨h.1.mono hle, h.2⟩
theorem one_of_ok {t : TypeId} {W : World} {base d : Nat} {v : Value} (hp : plainT P d t = true) (ha : aggT P t = some false) (h : Value.okWide P W .any base t v) : v.oneCell' = true := by
  cases d with
  | zero => simp [plainT] at hp
  | succ d =>
    unfold aggT at ha
    simp only [plainT] at hp
    unfold Value.okWide at h
    unfold Cell.okWide Cell.ok at h
    split at hp <;> rename_i ht <;> (try rw [ht] at ha) <;> (try rw [ht] at h) <;> (first | (cases ha; done) | (cases hp; done) | skip) <;>
      (cases v <;> first | rfl | (simp at h) | (simp at hp))
theorem open_args : ∀ (ts : List TypeId) (vs : List Value) (ds : List (DataW H)) (ps : List MemPlace) (W : World) (base d : Nat), (∀ t ∈ ts, plainT P d t = true) →
    (∀ (j : Nat) t v, ts[j]? = some t → vs[j]? = some v → Value.okWide P W .any base t v) → DataW.TrodAll enc P W 0 (fun _ => true) true ts vs ds ps →
    ∀ ι C n, Sofar P W ι C n → ∃ avs κ C' n', Sofar P W κ C' n' ∧ More ι C n κ C' n' ∧ VRs κ avs vs ∧ ARs P C' ts avs := by
  intro ts
  induction ts with
  | nil =>
    intro vs ds ps W base d _ _ h ι C n hs
    obtain ⟨rfl, _, _⟩ := trodAll_nil h
    exact ⟨[], ι, C, n, hs, More.refl _ _ _, .nil ι, .nil⟩
  | cons t ts ih =>
    intro vs ds ps W base d hp hok h ι C n hs
    obtain ⟨v, vs1, d1, ds1, a, b, rfl, rfl, rfl, h1, h2⟩ := trodAll_cons h
    obtain ⟨fuel, h1⟩ := h1
    obtain ⟨acs, κ, C1, n1, g1, g2, g3, g4, g5, g6⟩ := open_cells fuel d t _ _ (hp t (by simp)) h1 ι C n hs
    obtain ⟨avs, μ, C2, n2, k1, k2, k3, k4⟩ := ih vs1 ds1 b W base d (fun t' ht' => hp t' (by simp [ht'])) (fun j t' v' e1 e2 => hok (j + 1) t' v' (by simpa using e1) (by simpa using e2)) h2 κ C1 n1 g1
    have hov := hok 0 t v rfl rfl
    have hagg : ∃ b, aggT P t = some b := by
      have hpt := hp t (by simp)
      cases d with
      | zero => simp [plainT] at hpt
      | succ d =>
        simp only [plainT] at hpt
        unfold aggT
        split at hpt <;> rename_i ht <;> simp [ht]
        cases hpt
    obtain ⟨b, hb⟩ := hagg
    have hval : ∃ av, VR κ av v ∧ ARV P C1 t av := by
      cases b with
      | true =>
        have hv : ∃ cs, v = .agg cs := by
          unfold aggT at hb
          unfold Value.okWide at hov
          split at hb <;> rename_i ht <;> simp only [ht] at hov <;> (try (cases hb; done))
          all_goals (obtain ⟨cs, e, _⟩ := hov; exact ⟨cs, e⟩)
        obtain ⟨cs, rfl⟩ := hv
        refine ⟨.agg acs.toArray, ?_, ?_, fun _ => ⟨_, rfl⟩, fun e => by rw [hb] at e; cases e⟩
        · have := g3.agg; simpa [Value.cells] using this
        · simpa [vcells, Value.cells] using g4
      | false =>
        have hv1 := one_of_ok (hp t (by simp)) hb hov
        have hc : v.cells.toList = [v] := by cases v <;> first | rfl | (simp [Value.oneCell'] at hv1)
        rw [hc] at g3
        match acs, g3 with
        | [av], g3 =>
          obtain ⟨v', k, e, r1, _⟩ := g3.cons_inv
          simp only [List.cons.injEq] at e
          obtain ⟨rfl, _⟩ := e
          have ho : one av = true := by simpa using g6
          have hvc : vcells av = [av] := by cases av <;> first | rfl | (simp [one] at ho)
          exact ⟨av, r1, by rw [hvc]; exact g4, fun e => by (rw [hb] at e; cases e), fun _ => ho⟩
        | [], g3 => simp [VRs] at g3
        | _ :: _ :: _, g3 => simp [VRs] at g3
    obtain ⟨av, r1, r2⟩ := hval
    exact ⟨av :: avs, μ, C2, n2, k1, g2.trans k2, .cons (r1.mono k2.le) k3, .cons (r2.mono k2.heap) k4⟩
theorem trodAll_stays (hl : laidOutB P = true) {W W' : World} (hb : Below W.heap.size W W') : ∀ (ts : List TypeId) (vs : List Value) (ds : List (DataW H)) (ps : List MemPlace),
    (∀ t ∈ ts, P.readableRec t = true ∧ t < P.types.size) → DataW.TrodAll enc P W 0 (fun _ => true) true ts vs ds ps → (∀ x ∈ ps, x.block < W.heap.size) →
    DataW.TrodAll enc P W' 0 (fun b => decide (b < W.heap.size)) true ts vs ds ps := by
  intro ts
  induction ts with
  | nil => intro vs ds ps _ h _; obtain ⟨rfl, rfl, rfl⟩ := trodAll_nil h; exact rfl
  | cons t ts ih =>
    intro vs ds ps ht h hp
    obtain ⟨v, vs1, d1, ds1, a, b, rfl, rfl, rfl, h1, h2⟩ := trodAll_cons h
    obtain ⟨hr, hrow⟩ := ht t (by simp)
    exact ⟨a, b, Below.trod hl hr hrow h1 hb (fun x hx => hp x (by simp [hx])), ih vs1 ds1 b (fun t' h' => ht t' (by simp [h'])) h2 (fun x hx => hp x (by simp [hx])), rfl⟩
theorem still1_of_flat1 {v : Value} (h : flat1 v = true) : still1 v = true := by
  unfold still1
  split
  · rfl
  · exact h
structure Globs (P : Program) (W : World) (G : Heap) : Prop where
  out : ∀ x, ngl P ≤ x → G x = .dead
  cells : ∀ x, G x ≠ .dead → ∃ cs ty, G x = .cells cs ty false ∧ cs.all flat1 = true ∧ ∀ (i : Nat) (v : Value), cs[i]? = some v → W.cell? ⟨x, i, none⟩ = some v
  there : ngl P ≤ W.heap.size
  pos : 0 < W.heap.size
def AllRO (H : Heap) : Prop := ∀ x cs ty own, H x = .cells cs ty own → own = false
end
end Go.AM
namespace Go.AM
open Go.RowKit Go.ChangeShapes Go.WideShapes Go.ChangeAt
section
variable {P : Program} {H : Type} {enc : TypeId × Value → H}
def LawRunsD (P : Program) (G : Heap) (F : FuncId) (ts : List TypeId) : Prop :=
  ∀ (n : Nat) (H : Heap) (vs : List Value), WF n H → ngl P ≤ n → (∀ x, G x ≠ .dead → H x = G x) → AllRO H → ARs P H ts vs → DB P (.call F vs n H) (TR fun v _ _ => v = .bool true)
theorem law_contractD (hm : P.follows .mixedOrders = true) (hl : laidOutB P = true) {F : FuncId} {fn : Func} {s : ChangeSpec} {d : Nat} {tb : TypeId} {G : Heap} (hlaw : LawRunsD P G F fn.params.toList) (hvars : s.vars = [])
    (hspec : ∀ ds : List (DataW H), ds.length = fn.params.size → s.fn H ds = { results := [.lit (.bool true)], args := ds })
    (hp : ∀ t ∈ fn.params.toList, plainT P d t = true ∧ P.readableRec t = true ∧ t < P.types.size) (hres : fn.resultTypes = #[tb]) (htb : P.underlying tb = some .bool)
    (W : World) (base : Nat) (args : Array Value) (ds gs : List (DataW H)) (before : List MemPlace)
    (hval : ∀ (j : Nat) t v, fn.params[j]? = some t → args[j]? = some v → Value.okWide P W .any base t v) (hW : DataW.Whole enc P fn.params.toList s.vars false W args.toList ds gs before) (hG : Globs P W G) :
    Calls P F args W fun e W' => ∃ v, e = .returned v ∧ s.post enc P fn false true false false W args v W' := by
  have hlt := hW.lt
  have hW' := hW
  obtain ⟨p, q, hA, hV, rfl, hfz, hnd⟩ := hW
  rw [hvars] at hV
  obtain ⟨rfl, rfl⟩ : gs = [] ∧ q = [] := by
    cases gs with
    | nil => exact ⟨rfl, hV⟩
    | cons => exact absurd hV (by simp [DataW.TrodVars])
  have hs0 : Sofar P W (fun x => if x < ngl P then some ⟨x, 0, false, 0, 0⟩ else none) G (ngl P) := by
    refine ⟨⟨fun x => ?_, fun x y t u hx hy ex ey ho => ?_, fun x t e => ?_, Nat.le_refl _, fun g hg => by simp [hg], fun x y t u cs ty b ds ty' hx hy ex ey hbl => ?_⟩, fun x hx => by rw [if_neg (by omega)], fun x hx => hG.out x hx, fun x t e => ?_, hG.pos⟩
    · by_cases hd : G x = .dead
      · rw [hd]; trivial
      · obtain ⟨cs, ty, hc, hf, hcell⟩ := hG.cells x hd
        have hx : x < ngl P := Nat.lt_of_not_le fun h => hd (hG.out x h)
        rw [hc]
        refine ⟨⟨x, 0, false, 0, 0⟩, by simp [hx], rfl, fun i v e => ?_, fun e => by cases e⟩
        have hv := List.all_eq_true.1 hf v (List.mem_of_getElem? e)
        refine ⟨v, by simpa using hcell i v e, flat1_refl _ hv, still1_one (still1_of_flat1 hv)⟩
    · split at ex
      · cases ex; cases ho
      · cases ex
    · split at e
      · rename_i hx; cases e; exact ⟨Nat.lt_of_lt_of_le hx hG.there, (fun k => by cases k), fun _ => Nat.lt_of_lt_of_le hx hG.there⟩
      · cases e
    · obtain ⟨_, _, hc, _⟩ := hG.cells x (by rw [hx]; intro e; cases e)
      rw [hc] at hx; cases hx
    · split at e
      · cases e; rfl
      · cases e
  obtain ⟨avs, κ, C, n, g1, g2, g3, g4⟩ := open_args fn.params.toList args.toList ds p W base d (fun t ht => (hp t ht).1) (fun j t v e1 e2 => hval j t v (by simpa using e1) (by simpa using e2)) hA _ _ _ hs0
  have hbs := hlaw n C avs g1.wf g2.n (fun x hx => g2.heap x hx) (fun x cs ty own hx => by
    have hob := g1.hr.obj x
    rw [hx] at hob
    obtain ⟨t, h1, h2, _⟩ := hob
    rw [← h2]; exact g1.ro x t h1) g4
  have hcs := (soundD hm hbs).1
  have hcall := hcs g1.wf W.heap.size κ C W args.toList g3 g1.hr (fun _ _ _ => rfl) (fun x h1 => g1.free x h1)
  rw [Array.toArray_toList] at hcall
  refine hcall.mono ?_
  rintro e W' ⟨v, n', H', v', κ', C', hT, _, rfl, hvr, ha⟩
  obtain rfl : v = .bool true := hT
  cases hvr
  refine ⟨.bool true, rfl, ds, [], p, [], p, [], by simpa using hW', ?_, ?_, ?_, ?_, fun h => by cases h⟩
  · have hlen : ds.length = fn.params.size := by
      have key : ∀ (ts : List TypeId) (vs : List Value) (ds : List (DataW H)) (ps : List MemPlace), DataW.TrodAll enc P W 0 (fun _ => true) true ts vs ds ps → ds.length = ts.length := by
        intro ts
        induction ts with
        | nil => intro vs ds ps h; obtain ⟨_, rfl, _⟩ := trodAll_nil h; rfl
        | cons t ts ih =>
          intro vs ds ps h
          obtain ⟨v, vs1, d1, ds1, a, b, rfl, rfl, rfl, _, h2⟩ := trodAll_cons h
          simp [ih _ _ _ h2]
      rw [key _ _ _ _ hA]; simp
    rw [hres, List.append_nil, hspec ds hlen]
    exact trodAll_mk1 (shut_bool htb true)
  · have hlen : ds.length = fn.params.size := by
      have key : ∀ (ts : List TypeId) (vs : List Value) (ds : List (DataW H)) (ps : List MemPlace), DataW.TrodAll enc P W 0 (fun _ => true) true ts vs ds ps → ds.length = ts.length := by
        intro ts
        induction ts with
        | nil => intro vs ds ps h; obtain ⟨_, rfl, _⟩ := trodAll_nil h; rfl
        | cons t ts ih =>
          intro vs ds ps h
          obtain ⟨v, vs1, d1, ds1, a, b, rfl, rfl, rfl, _, h2⟩ := trodAll_cons h
          simp [ih _ _ _ h2]
      rw [key _ _ _ _ hA]; simp
    rw [List.append_nil, hspec ds hlen]
    exact trodAll_stays hl ha.below _ _ _ _ (fun t ht => (hp t ht).2) hA (fun x hx => by simpa using hlt x (by simp [hx]))
  · rw [hvars]
    have hlen : True := trivial
    have : (s.fn H (ds ++ [])).vars = [] := by
      rw [List.append_nil, hspec ds (by
        have key : ∀ (ts : List TypeId) (vs : List Value) (ds : List (DataW H)) (ps : List MemPlace), DataW.TrodAll enc P W 0 (fun _ => true) true ts vs ds ps → ds.length = ts.length := by
          intro ts
          induction ts with
          | nil => intro vs ds ps h; obtain ⟨_, rfl, _⟩ := trodAll_nil h; rfl
          | cons t ts ih =>
            intro vs ds ps h
            obtain ⟨v, vs1, d1, ds1, a, b, rfl, rfl, rfl, _, h2⟩ := trodAll_cons h
            simp [ih _ _ _ h2]
        rw [key _ _ _ _ hA]; simp)]
    rw [this]
    exact rfl
  · exact World.keptBut_mono (fun x hx => by cases hx) (ha.below.frame (fun _ => False))
end
end Go.AM
namespace Go.AM
open Go.RowKit
theorem heap_of_shaped {P : Program} {W : World} (hs : W.ShapedOpen P) {g : Nat} {zero : Array Value} {t : TypeId} (hg : g < P.globals.size)
    (h : ((begin P (fun _ _ => 0) default).world.heap[g]?).bind Obj.row? = some (zero, t)) : g < W.heap.size := by
  obtain ⟨cs, h1, _⟩ := hs.1 g zero t hg h
  rcases Nat.lt_or_ge g W.heap.size with k | k
  · exact k
  · rw [Array.getElem?_eq_none k] at h1; cases h1
end Go.AM
namespace Go.AM
open Go.RowKit
structure GRule where
  left : Int
  right : List Int
  weight : Nat
structure Gram where
  terms : List ByteArray
  vars : List ByteArray
  rules : List GRule
def RR (H : Heap) (a : Option Addr) (l : List GRule) : Prop :=
  l ≠ [] → ∃ x k cs ty own, a = some ⟨x, k, none⟩ ∧ H x = .cells cs ty own ∧ ∀ i r, l[i]? = some r →
    ∃ p, cs[k + i * 3]? = some (.int .i64 r.left) ∧ cs[k + i * 3 + 1]? = some (.slice p r.right.length r.right.length) ∧ cs[k + i * 3 + 2]? = some (.float .f64 r.weight) ∧ RS (Value.int .i64) H p r.right
theorem RR.mono {n n' : Nat} {H H' : Heap} {a : Option Addr} {l : List GRule} (h : RR H a l) (hw : WF n H) (hk : Kp n H n' H') : RR H' a l := by
  intro hl
  obtain ⟨x, k, cs, ty, own, e1, e2, e3⟩ := h hl
  refine ⟨x, k, cs, ty, own, e1, ?_, fun i r hi => ?_⟩
  · rw [hk.keep x, e2]
    apply Classical.byContradiction
    intro hx
    rw [hw x (by omega)] at e2; cases e2
  · obtain ⟨p, c1, c2, c3, c4⟩ := e3 i r hi
    exact ⟨p, c1, c2, c3, c4.mono hw hk⟩
theorem RR.atS {H : Heap} {a : Option Addr} {l : List GRule} (h : RR H a l) {i : Nat} (hi : i < l.length) :
    ∃ x k cs ty own p, a = some ⟨x, k, none⟩ ∧ H x = .cells cs ty own ∧ cs[k + i * 3]? = some (.int .i64 l[i].left) ∧ cs[k + i * 3 + 1]? = some (.slice p l[i].right.length l[i].right.length) ∧
      cs[k + i * 3 + 2]? = some (.float .f64 l[i].weight) ∧ RS (Value.int .i64) H p l[i].right := by
  obtain ⟨x, k, cs, ty, own, e1, e2, e3⟩ := h (by intro e; simp [e] at hi)
  obtain ⟨p, c1, c2, c3, c4⟩ := e3 i _ (List.getElem?_eq_getElem hi)
  exact ⟨x, k, cs, ty, own, p, e1, e2, c1, c2, c3, c4⟩
theorem RR.at {H : Heap} {a : Option Addr} {l : List GRule} (h : RR H a l) {i : Nat} (hi : i < l.length) :
    ∃ x k cs ty own p, a = some ⟨x, k, none⟩ ∧ H x = .cells cs ty own ∧ cs[k + i * 3]? = some (.int .i64 l[i].left) ∧ cs[k + i * 3 + 1]? = some (.slice p l[i].right.length l[i].right.length) ∧
      cs[k + i * 3 + 2]? = some (.float .f64 l[i].weight) ∧ RA (Value.int .i64) H p l[i].right := by
  obtain ⟨x, k, cs, ty, own, p, e1, e2, c1, c2, c3, c4⟩ := h.atS hi
  exact ⟨x, k, cs, ty, own, p, e1, e2, c1, c2, c3, c4.ra⟩
theorem take3 {cs : List Value} {k : Nat} {a b c : Value} (h0 : cs[k]? = some a) (h1 : cs[k + 1]? = some b) (h2 : cs[k + 2]? = some c) : (cs.drop k).take 3 = [a, b, c] := by
  apply List.ext_getElem?
  intro i
  rw [List.getElem?_take, List.getElem?_drop]
  match i with
  | 0 => simpa using h0
  | 1 => simpa using h1
  | 2 => simpa using h2
  | i + 3 => simp; omega
theorem len3 {cs : List Value} {k : Nat} {c : Value} (h2 : cs[k + 2]? = some c) : k + 3 ≤ cs.length := by
  rcases Nat.lt_or_ge (k + 2) cs.length with h | h
  · omega
  · rw [List.getElem?_eq_none h] at h2; cases h2
def gcells (pt pv pr : Option Addr) (g : Gram) : List Value :=
  [.slice pt g.terms.length g.terms.length, .slice pv g.vars.length g.vars.length, .slice pr g.rules.length g.rules.length]
def RG (H : Heap) (v : Value) (g : Gram) : Prop :=
  ∃ pt pv pr, v = .agg (gcells pt pv pr g).toArray ∧ RA Value.string H pt g.terms ∧ RA Value.string H pv g.vars ∧ RR H pr g.rules
theorem RG.mono {n n' : Nat} {H H' : Heap} {v : Value} {g : Gram} (h : RG H v g) (hw : WF n H) (hk : Kp n H n' H') : RG H' v g := by
  obtain ⟨pt, pv, pr, e, h1, h2, h3⟩ := h
  exact ⟨pt, pv, pr, e, h1.mono hw hk, h2.mono hw hk, h3.mono hw hk⟩
def inI (n : Int) : Prop := -9223372036854775808 ≤ n ∧ n ≤ 9223372036854775807
def maxL : Nat := 9223372036854775807
structure WG (g : Gram) : Prop where
  terms : g.terms.length ≤ maxL
  vars : g.vars.length ≤ maxL
  rules : g.rules.length ≤ maxL
  left : ∀ r ∈ g.rules, inI r.left
  right : ∀ r ∈ g.rules, r.right.length ≤ maxL ∧ ∀ s ∈ r.right, inI s
  weight : ∀ r ∈ g.rules, r.weight < 2 ^ 64
  size : ∀ s ∈ g.terms ++ g.vars, s.size ≤ maxL
theorem box_cells (pt pv pr : Option Addr) (g : Gram) : vcells (.agg (gcells pt pv pr g).toArray) = gcells pt pv pr g := rfl
theorem box_one (pt pv pr : Option Addr) (g : Gram) : (gcells pt pv pr g).all one = true := rfl
theorem gc_0 (pt pv pr : Option Addr) (g : Gram) : (gcells pt pv pr g)[0]? = some (.slice pt g.terms.length g.terms.length) := rfl
theorem gc_1 (pt pv pr : Option Addr) (g : Gram) : (gcells pt pv pr g)[1]? = some (.slice pv g.vars.length g.vars.length) := rfl
theorem gc_2 (pt pv pr : Option Addr) (g : Gram) : (gcells pt pv pr g)[2]? = some (.slice pr g.rules.length g.rules.length) := rfl
theorem gc_len (pt pv pr : Option Addr) (g : Gram) : (gcells pt pv pr g).length = 3 := rfl
theorem gc_all (pt pv pr : Option Addr) (g : Gram) : ((gcells pt pv pr g).drop 0).take 3 = gcells pt pv pr g := rfl
end Go.AM
namespace Go.AM
open Go.RowKit
theorem pick_list {α : Type} {Q : Nat → α → Prop} : ∀ (m : Nat), (∀ i, i < m → ∃ y, Q i y) → ∃ l : List α, l.length = m ∧ ∀ i y, l[i]? = some y → Q i y := by
  intro m
  induction m with
  | zero => intro _; exact ⟨[], rfl, fun i y h => by simp at h⟩
  | succ m ih =>
    intro h
    obtain ⟨l, h1, h2⟩ := ih fun i hi => h i (by omega)
    obtain ⟨y, hy⟩ := h m (by omega)
    refine ⟨l ++ [y], by simp [h1], fun i z e => ?_⟩
    by_cases hi : i < l.length
    · rw [List.getElem?_append_left hi] at e; exact h2 i z e
    · rw [List.getElem?_append_right (by omega)] at e
      have : i - l.length = 0 := by
        apply Classical.byContradiction
        intro hc
        obtain ⟨q, hq⟩ : ∃ q, i - l.length = q + 1 := ⟨i - l.length - 1, by omega⟩
        rw [hq] at e; simp at e
      have e' : i = m := by omega
      rw [this] at e
      simp at e
      subst e
      rw [e']; exact hy
theorem at1 {cs : List Value} {i : Nat} {v : Value} (h : (cs.drop i).take 1 = [v]) : cs[i]? = some v := by
  have : ((cs.drop i).take 1)[0]? = some v := by rw [h]; rfl
  rw [List.getElem?_take, List.getElem?_drop] at this
  simpa using this
variable {P : Program} {H : Heap}
theorem AR.int_inv {t : TypeId} {cs : List Value} (h : AR P H t cs) (ht : P.underlying t = some (.int .i64)) : ∃ n, cs = [.int .i64 n] ∧ inI n := by
  cases h with
  | int t k n ht' hw =>
    rw [ht] at ht'; cases ht'
    refine ⟨n, rfl, ?_⟩
    simp [Lit.wf, IntKind.min, IntKind.max, IntKind.signed, IntKind.bits] at hw
    unfold inI
    omega
  | _ => simp_all
theorem AR.str_inv {t : TypeId} {cs : List Value} (h : AR P H t cs) (ht : P.underlying t = some .string) : ∃ s, cs = [.string s] ∧ s.size ≤ maxL := by
  cases h with
  | string t s ht' hs =>
    refine ⟨s, rfl, Nat.le_trans hs ?_⟩
    unfold maxL maxLen
    omega
  | _ => simp_all
theorem AR.float_inv {t : TypeId} {cs : List Value} (h : AR P H t cs) (ht : P.underlying t = some (.float .f64)) : ∃ b, cs = [.float .f64 b] ∧ b < 2 ^ 64 := by
  cases h with
  | float t k b ht' hw =>
    rw [ht] at ht'; cases ht'
    refine ⟨b, rfl, ?_⟩
    simpa [Lit.wf] using hw
  | _ => simp_all
theorem AR.slice_inv {t e : TypeId} {cs : List Value} (h : AR P H t cs) (ht : P.underlying t = some (.slice e)) : cs = [.slice none 0 0] ∨ ∃ x m ds, cs = [.slice (some ⟨x, 0, none⟩) m m] ∧ H x = .cells ds e false ∧ m ≤ maxL ∧ ∀ i, i < m → AR P H e ((ds.drop (i * P.cellsOf e)).take (P.cellsOf e)) := by
  cases h with
  | nil => exact .inl rfl
  | slice t e' x m ds ht' hx hl hm he =>
    rw [ht] at ht'; cases ht'
    refine .inr ⟨x, m, ds, rfl, hx, Nat.le_trans hm ?_, he⟩
    unfold maxL maxLen
    omega
  | _ => simp_all
theorem AR.list_inv {α : Type} {enc : α → Value} {good : α → Prop} {t e : TypeId} {cs : List Value} (h : AR P H t cs) (ht : P.underlying t = some (.slice e)) (hc : P.cellsOf e = 1) (hi : ∀ ds, AR P H e ds → ∃ y, ds = [enc y] ∧ good y) :
    ∃ p l, cs = [.slice p l.length l.length] ∧ RS enc H p l ∧ l.length ≤ maxL ∧ ∀ y ∈ l, good y := by
  rcases h.slice_inv ht with rfl | ⟨x, m, ds, rfl, hx, hm, he⟩
  · exact ⟨none, [], rfl, .inl ⟨rfl, rfl⟩, by simp, fun y hy => by cases hy⟩
  · obtain ⟨l, h1, h2⟩ := pick_list (Q := fun i y => ds[i]? = some (enc y) ∧ good y) m fun i hi' => by
      obtain ⟨y, e1, e2⟩ := hi _ (he i hi')
      rw [hc, Nat.mul_one] at e1
      exact ⟨y, at1 e1, e2⟩
    subst h1
    refine ⟨_, l, rfl, .inr ⟨x, 0, ds, e, false, rfl, hx, ?_, fun i y e => by rw [Nat.zero_add]; exact (h2 i y e).1⟩, hm, fun y hy => ?_⟩
    · rw [Nat.zero_add]
      apply Classical.byContradiction
      intro hc
      have hlt : ds.length < l.length := by omega
      have := (h2 ds.length _ (List.getElem?_eq_getElem hlt)).1
      rw [List.getElem?_eq_none (Nat.le_refl _)] at this
      cases this
    obtain ⟨i, hi', rfl⟩ := List.getElem_of_mem hy
    exact (h2 i _ (List.getElem?_eq_getElem hi')).2
theorem AR.ints {t e : TypeId} {cs : List Value} (h : AR P H t cs) (ht : P.underlying t = some (.slice e)) (hc : P.cellsOf e = 1) (he : P.underlying e = some (.int .i64)) :
    ∃ p l, cs = [.slice p l.length l.length] ∧ RS (Value.int .i64) H p l ∧ l.length ≤ maxL ∧ ∀ y ∈ l, inI y := h.list_inv ht hc fun _ hd => hd.int_inv he
theorem AR.strs {t e : TypeId} {cs : List Value} (h : AR P H t cs) (ht : P.underlying t = some (.slice e)) (hc : P.cellsOf e = 1) (he : P.underlying e = some .string) :
    ∃ p l, cs = [.slice p l.length l.length] ∧ RA Value.string H p l ∧ l.length ≤ maxL ∧ ∀ y ∈ l, y.size ≤ maxL := by
  obtain ⟨p, l, e, h1, h2⟩ := h.list_inv ht hc fun _ hd => hd.str_inv he
  exact ⟨p, l, e, h1.ra, h2⟩
structure GramT (P : Program) (tg tr ti tn tss trs tis tf : TypeId) : Prop where
  g : ∃ f1 f2 f3 : Field, P.underlying tg = some (.struct #[f1, f2, f3]) ∧ f1.type = tss ∧ f1.offset = 0 ∧ f2.type = tss ∧ f2.offset = 1 ∧ f3.type = trs ∧ f3.offset = 2
  r : ∃ f1 f2 f3 : Field, P.underlying tr = some (.struct #[f1, f2, f3]) ∧ f1.type = ti ∧ f1.offset = 0 ∧ f2.type = tis ∧ f2.offset = 1 ∧ f3.type = tf ∧ f3.offset = 2
  i : P.underlying ti = some (.int .i64)
  n : P.underlying tn = some .string
  ss : P.underlying tss = some (.slice tn)
  rs : P.underlying trs = some (.slice tr)
  is : P.underlying tis = some (.slice ti)
  f : P.underlying tf = some (.float .f64)
  ci : P.cellsOf ti = 1
  cn : P.cellsOf tn = 1
  css : P.cellsOf tss = 1
  crs : P.cellsOf trs = 1
  cis : P.cellsOf tis = 1
  cf : P.cellsOf tf = 1
  cr : P.cellsOf tr = 3
  cg : P.cellsOf tg = 3
theorem AR.struct_inv {t : TypeId} {fs : Array Field} {cs : List Value} (h : AR P H t cs) (ht : P.underlying t = some (.struct fs)) : cs.length = P.cellsOf t ∧ ∀ (i : Nat) (f : Field), fs[i]? = some f → AR P H f.type ((cs.drop f.offset).take (P.cellsOf f.type)) := by
  cases h with
  | struct t fs' cs ht' hl hf =>
    rw [ht] at ht'; cases ht'
    exact ⟨hl, hf⟩
  | _ => simp_all
section
variable {tg tr ti tn tss trs tis tf : TypeId}
theorem AR.rule (T : GramT P tg tr ti tn tss trs tis tf) {cs : List Value} (h : AR P H tr cs) : ∃ (r : GRule) (p : Option Addr), cs = [.int .i64 r.left, .slice p r.right.length r.right.length, .float .f64 r.weight] ∧ RS (Value.int .i64) H p r.right ∧ inI r.left ∧ r.right.length ≤ maxL ∧ (∀ s ∈ r.right, inI s) ∧ r.weight < 2 ^ 64 := by
  obtain ⟨f1, f2, f3, e, a1, b1, a2, b2, a3, b3⟩ := T.r
  obtain ⟨hl, hf⟩ := h.struct_inv e
  rw [T.cr] at hl
  match cs, hl with
  | [x, y, z], _ =>
    have h1 := hf 0 f1 rfl
    have h2 := hf 1 f2 rfl
    have h3 := hf 2 f3 rfl
    rw [a1, b1, T.ci] at h1
    rw [a2, b2, T.cis] at h2
    rw [a3, b3, T.cf] at h3
    obtain ⟨n, e1, hn⟩ := h1.int_inv T.i
    obtain ⟨p, l, e2, hp, hl, hs⟩ := h2.ints T.is T.ci T.i
    obtain ⟨w, e3, hw⟩ := h3.float_inv T.f
    simp at e1 e2 e3
    subst e1 e2 e3
    exact ⟨⟨n, l, w⟩, p, rfl, hp, hn, hl, hs, hw⟩
theorem AR.rules (T : GramT P tg tr ti tn tss trs tis tf) {cs : List Value} (h : AR P H trs cs) : ∃ p l, cs = [.slice p l.length l.length] ∧ RR H p l ∧ l.length ≤ maxL ∧ ∀ r ∈ l, inI r.left ∧ (r.right.length ≤ maxL ∧ ∀ s ∈ r.right, inI s) ∧ r.weight < 2 ^ 64 := by
  rcases h.slice_inv T.rs with rfl | ⟨x, m, ds, rfl, hx, hm, he⟩
  · exact ⟨none, [], rfl, fun h => absurd rfl h, by simp, fun y hy => by cases hy⟩
  · obtain ⟨l, h1, h2⟩ := pick_list (Q := fun i (r : GRule) => (∃ p, ds[i * 3]? = some (.int .i64 r.left) ∧ ds[i * 3 + 1]? = some (.slice p r.right.length r.right.length) ∧ ds[i * 3 + 2]? = some (.float .f64 r.weight) ∧ RS (Value.int .i64) H p r.right) ∧ inI r.left ∧ (r.right.length ≤ maxL ∧ ∀ s ∈ r.right, inI s) ∧ r.weight < 2 ^ 64) m fun i hi' => by
      have h := he i hi'
      rw [T.cr] at h
      obtain ⟨r, p, e, hp, q1, q2, q3, q4⟩ := AR.rule T h
      have g : ∀ j, j < 3 → ds[i * 3 + j]? = ((ds.drop (i * 3)).take 3)[j]? := fun j hj => by rw [List.getElem?_take, if_pos hj, List.getElem?_drop]
      refine ⟨r, ⟨p, ?_, ?_, ?_, hp⟩, q1, ⟨q2, q3⟩, q4⟩
      · have := g 0 (by omega); rw [e] at this; simpa using this
      · have := g 1 (by omega); rw [e] at this; simpa using this
      · have := g 2 (by omega); rw [e] at this; simpa using this
    subst h1
    refine ⟨_, l, rfl, fun _ => ⟨x, 0, ds, tr, false, rfl, hx, fun i r e => ?_⟩, hm, fun r hr => ?_⟩
    · obtain ⟨⟨p, c0, c1, c2, c3⟩, _⟩ := h2 i r e
      exact ⟨p, by rw [Nat.zero_add]; exact c0, by rw [Nat.zero_add]; exact c1, by rw [Nat.zero_add]; exact c2, c3⟩
    · obtain ⟨i, hi', rfl⟩ := List.getElem_of_mem hr
      exact (h2 i _ (List.getElem?_eq_getElem hi')).2
theorem ARV.gram (T : GramT P tg tr ti tn tss trs tis tf) {v : Value} (ha : aggT P tg = some true) (h : ARV P H tg v) : ∃ g, RG H v g ∧ WG g := by
  obtain ⟨h1, h2, _⟩ := h
  obtain ⟨cs, rfl⟩ := h2 ha
  obtain ⟨f1, f2, f3, e, a1, b1, a2, b2, a3, b3⟩ := T.g
  have hvc : vcells (.agg cs) = cs.toList := rfl
  rw [hvc] at h1
  obtain ⟨hl, hf⟩ := h1.struct_inv e
  rw [T.cg] at hl
  obtain ⟨cs⟩ := cs
  simp only at hl hf
  match cs, hl with
  | [x, y, z], _ =>
    have h1 := hf 0 f1 rfl
    have h2 := hf 1 f2 rfl
    have h3 := hf 2 f3 rfl
    rw [a1, b1, T.css] at h1
    rw [a2, b2, T.css] at h2
    rw [a3, b3, T.crs] at h3
    obtain ⟨pt, lt, e1, ht, ht1, ht2⟩ := h1.strs T.ss T.cn T.n
    obtain ⟨pv, lv, e2, hv, hv1, hv2⟩ := h2.strs T.ss T.cn T.n
    obtain ⟨pr, lr, e3, hr, hr1, hr2⟩ := AR.rules T h3
    simp at e1 e2 e3
    subst e1 e2 e3
    refine ⟨⟨lt, lv, lr⟩, ⟨pt, pv, pr, rfl, ht, hv, hr⟩, ht1, hv1, hr1, fun r h => (hr2 r h).1, fun r h => (hr2 r h).2.1, fun r h => (hr2 r h).2.2, fun s hs => ?_⟩
    rcases List.mem_append.1 hs with hs | hs
    · exact ht2 s hs
    · exact hv2 s hs
end
theorem vcells_one {v : Value} (h : one v = true) : vcells v = [v] := by cases v <;> first | rfl | (simp [one] at h)
theorem ARV.intI {v : Value} {t : TypeId} (ht : P.underlying t = some (.int .i64)) (ha : aggT P t = some false) (h : ARV P H t v) : ∃ n, v = .int .i64 n ∧ inI n := by
  obtain ⟨h1, _, h3⟩ := h
  obtain ⟨n, e, hn⟩ := h1.int_inv ht
  refine ⟨n, ?_, hn⟩
  have ho := h3 ha
  rw [vcells_one ho] at e
  simpa using e
theorem ARV.intsI {v : Value} {t e : TypeId} (ht : P.underlying t = some (.slice e)) (hc : P.cellsOf e = 1) (he : P.underlying e = some (.int .i64)) (ha : aggT P t = some false) (h : ARV P H t v) :
    ∃ p l, v = .slice p l.length l.length ∧ RS (Value.int .i64) H p l ∧ l.length ≤ maxL ∧ ∀ y ∈ l, inI y := by
  obtain ⟨h1, _, h3⟩ := h
  obtain ⟨p, l, e', hp, hl, hs⟩ := h1.ints ht hc he
  refine ⟨p, l, ?_, hp, hl, hs⟩
  have ho := h3 ha
  rw [vcells_one ho] at e'
  simpa using e'
end Go.AM
namespace Go.AM
open Ieee
def Low (K : Int) (m : Nat) (e : Int) : Prop := m = 0 ∨ e + (m.log2 : Int) ≤ K
theorem Low.mono {K L : Int} {m : Nat} {e : Int} (h : Low K m e) (hl : K ≤ L) : Low L m e := by
  rcases h with h | h
  · exact .inl h
  · exact .inr (by omega)
theorem cut_even_le (neg : Bool) (n drop B : Nat) (h : n < B * 2 ^ drop) (hB : 0 < B) : Toward.cut .even neg n drop ≤ B := by
  unfold Toward.cut
  simp only
  have key : n / 1 <<< min drop (n.log2 + 2) < B := by
    rw [Nat.shiftLeft_eq, Nat.one_mul]
    rcases Nat.le_total drop (n.log2 + 2) with hd | hd
    · rw [Nat.min_eq_left hd]
      exact (Nat.div_lt_iff_lt_mul (Nat.two_pow_pos _)).2 h
    · rw [Nat.min_eq_right hd]
      have : n < 2 ^ (n.log2 + 2) := Nat.lt_of_lt_of_le Nat.lt_log2_self (Nat.pow_le_pow_right (by omega) (by omega))
      rw [Nat.div_eq_of_lt this]; exact hB
  have h1 : ∀ b : Bool, b.toNat ≤ 1 := fun b => by cases b <;> simp
  exact Nat.le_trans (Nat.add_le_add_left (h1 _) _) key
theorem low_write {K : Int} {s : Bool} {m : Nat} {e : Int} (h : Low K m e) (h0 : 0 ≤ K) (h1 : K ≤ 900) :
    ∃ m' e', Format.read double (Format.write double (.number s m e)) = .number s m' e' ∧ Low (K + 1) m' e' := by
  have rd : ∀ R : Nat, R ≤ (K + 1024).toNat * 2 ^ 52 → ∃ m' e', Format.read double (Format.word double s R) = .number s m' e' ∧ Low (K + 1) m' e' := by
    intro R hR
    have hK : (K + 1024).toNat ≤ 1924 := by omega
    have hR2 : R ≤ 1924 * 2 ^ 52 := Nat.le_trans hR (Nat.mul_le_mul_right _ hK)
    have hsw : Format.signWeight double = 2 ^ 63 := rfl
    have hbin : Format.binade double = 2 ^ 52 := rfl
    have hinf : Format.infRung double = 2047 * 2 ^ 52 := rfl
    have hlp : Format.leastPlace double = -1074 := rfl
    have hneg : (Format.word double s R / 2 ^ 63 % 2 == 1) = s := by
      unfold Format.word; rw [hsw]
      cases s
      · simp only [Bool.false_eq_true, if_false]; rw [Nat.div_eq_of_lt (by omega)]; rfl
      · simp only [if_true]; rw [show (2 ^ 63 + R) / 2 ^ 63 = 1 by omega]; rfl
    have hrung : Format.word double s R % 2 ^ 63 = R := by
      unfold Format.word; rw [hsw]
      cases s
      · simp only [Bool.false_eq_true, if_false]; omega
      · simp only [if_true]; omega
    unfold Format.read
    simp only [hsw, hbin, hinf, hlp, hneg, hrung]
    split
    · rename_i hlt
      refine ⟨_, _, rfl, ?_⟩
      rcases Nat.eq_zero_or_pos R with e | e
      · exact .inl e
      · right
        have : R.log2 < 52 := (Nat.log2_lt (by omega)).2 hlt
        omega
    · rename_i hge
      rw [if_pos (by omega)]
      refine ⟨_, _, rfl, .inr ?_⟩
      have hm : R % 2 ^ 52 < 2 ^ 52 := Nat.mod_lt _ (Nat.two_pow_pos _)
      have hl : (2 ^ 52 + R % 2 ^ 52).log2 < 53 := (Nat.log2_lt (by omega)).2 (by omega)
      have hq : R / 2 ^ 52 ≤ (K + 1024).toNat := by
        have := Nat.div_le_div_right (c := 2 ^ 52) hR
        rwa [Nat.mul_div_cancel _ (Nat.two_pow_pos _)] at this
      have hq1 : 1 ≤ R / 2 ^ 52 := by omega
      omega
  unfold Format.write Format.nearest
  simp only
  split
  · exact rd 0 (Nat.zero_le _)
  rename_i hm
  have hL : e + (m.log2 : Int) ≤ K := by rcases h with h | h; exact absurd h hm; exact h
  have hlp : Format.leastPlace double = -1074 := rfl
  have hfb : ((Format.fractionBits double : Nat) : Int) = 52 := rfl
  have hbin : Format.binade double = 2 ^ 52 := rfl
  have hinf : Format.infRung double = 2047 * 2 ^ 52 := rfl
  rw [hlp, hfb, hbin, hinf]
  generalize hlast : max (e + (m.log2 : Int) - 52) (-1074) = last
  have hl1 : e + (m.log2 : Int) - 52 ≤ last := by omega
  have hl2 : last ≤ K - 52 ∨ last = -1074 := by omega
  have hl3 : -1074 ≤ last := by omega
  have hkept : Toward.cut .even s (m <<< (e - last).toNat) (last - e).toNat ≤ 2 ^ 53 := by
    refine cut_even_le _ _ _ _ ?_ (Nat.two_pow_pos _)
    rw [Nat.shiftLeft_eq, ← Nat.pow_add]
    have h2 : m < 2 ^ (m.log2 + 1) := Nat.lt_log2_self
    calc m * 2 ^ (e - last).toNat < 2 ^ (m.log2 + 1) * 2 ^ (e - last).toNat := Nat.mul_lt_mul_of_pos_right h2 (Nat.two_pow_pos _)
      _ = 2 ^ (m.log2 + 1 + (e - last).toNat) := by rw [← Nat.pow_add]
      _ ≤ 2 ^ (53 + (last - e).toNat) := Nat.pow_le_pow_right (by omega) (by omega)
  refine rd _ (Nat.le_trans (Nat.min_le_left _ _) ?_)
  have hpl : (last - -1074).toNat ≤ (K + 1022).toNat := by omega
  calc (last - -1074).toNat * 2 ^ 52 + Toward.cut .even s (m <<< (e - last).toNat) (last - e).toNat ≤ (K + 1022).toNat * 2 ^ 52 + 2 ^ 53 := Nat.add_le_add (Nat.mul_le_mul_right _ hpl) hkept
    _ = ((K + 1022).toNat + 2) * 2 ^ 52 := by rw [Nat.add_mul]
    _ ≤ (K + 1024).toNat * 2 ^ 52 := Nat.mul_le_mul_right _ (by omega)
theorem log2_mul_le {m n : Nat} (hm : m ≠ 0) (hn : n ≠ 0) : (m * n).log2 ≤ m.log2 + n.log2 + 1 := by
  have h1 : m < 2 ^ (m.log2 + 1) := Nat.lt_log2_self
  have h2 : n < 2 ^ (n.log2 + 1) := Nat.lt_log2_self
  have : m * n < 2 ^ (m.log2 + n.log2 + 2) := by
    calc m * n < 2 ^ (m.log2 + 1) * 2 ^ (n.log2 + 1) := Nat.mul_lt_mul'' h1 h2
      _ = 2 ^ (m.log2 + n.log2 + 2) := by rw [← Nat.pow_add]; congr 1; omega
  have := (Nat.log2_lt (Nat.mul_ne_zero hm hn)).2 this
  omega
theorem low_mul {K L : Int} {x y : Nat} {s t : Bool} {m n : Nat} {e j : Int} (hx : Format.read double x = .number s m e) (hy : Format.read double y = .number t n j) (h1 : Low K m e) (h2 : Low L n j) (h0 : 0 ≤ K + L + 1) (h9 : K + L + 1 ≤ 900) :
    ∃ r m' e', Format.mul double x y = some r ∧ Format.read double r = .number (s ^^ t) m' e' ∧ Low (K + L + 2) m' e' := by
  have hl : Low (K + L + 1) (m * n) (e + j) := by
    rcases Nat.eq_zero_or_pos m with hm | hm
    · exact .inl (by simp [hm])
    rcases Nat.eq_zero_or_pos n with hn | hn
    · exact .inl (by simp [hn])
    right
    have a : e + (m.log2 : Int) ≤ K := by rcases h1 with h | h; omega; exact h
    have b : j + (n.log2 : Int) ≤ L := by rcases h2 with h | h; omega; exact h
    have := log2_mul_le (m := m) (n := n) (by omega) (by omega)
    omega
  obtain ⟨m', e', h3, h4⟩ := low_write (s := s ^^ t) hl h0 h9
  exact ⟨_, m', e', by unfold Format.mul; rw [hx, hy]; rfl, h3, h4.mono (by omega)⟩
theorem signed_abs (s : Bool) (m up : Nat) : (signed s m up).natAbs = m * 2 ^ up := by
  unfold signed
  rw [Nat.shiftLeft_eq]
  cases s <;> simp [Int.natAbs_mul, Int.natAbs_pow]
theorem low_add {K : Int} {x y : Nat} {s t : Bool} {m n : Nat} {e j : Int} (hx : Format.read double x = .number s m e) (hy : Format.read double y = .number t n j) (h1 : Low K m e) (h2 : Low K n j) (h0 : 0 ≤ K) (h9 : K ≤ 899) :
    ∃ r s' m' e', Format.add double x y = some r ∧ Format.read double r = .number s' m' e' ∧ Low (K + 2) m' e' := by
  have part : ∀ (m : Nat) (e base : Int), Low K m e → base ≤ e → m * 2 ^ (e - base).toNat < 2 ^ (K + 1 - base).toNat ∨ m = 0 := by
    intro m e base h hb
    rcases Nat.eq_zero_or_pos m with hm | hm
    · exact .inr hm
    left
    have a : e + (m.log2 : Int) ≤ K := by rcases h with h | h; omega; exact h
    have h2 : m < 2 ^ (m.log2 + 1) := Nat.lt_log2_self
    calc m * 2 ^ (e - base).toNat < 2 ^ (m.log2 + 1) * 2 ^ (e - base).toNat := Nat.mul_lt_mul_of_pos_right h2 (Nat.two_pow_pos _)
      _ = 2 ^ (m.log2 + 1 + (e - base).toNat) := by rw [← Nat.pow_add]
      _ ≤ 2 ^ (K + 1 - base).toNat := Nat.pow_le_pow_right (by omega) (by omega)
  generalize hb : min e j = base
  have hl : Low (K + 1) (signed s m (e - base).toNat + signed t n (j - base).toNat).natAbs base := by
    rcases Nat.eq_zero_or_pos (signed s m (e - base).toNat + signed t n (j - base).toNat).natAbs with h | h
    · exact .inl h
    right
    have tri := Int.natAbs_add_le (signed s m (e - base).toNat) (signed t n (j - base).toNat)
    rw [signed_abs, signed_abs] at tri
    have hbound : (signed s m (e - base).toNat + signed t n (j - base).toNat).natAbs < 2 ^ ((K + 1 - base).toNat + 1) := by
      rw [Nat.pow_succ]
      have p1 := part m e base h1 (by omega)
      have p2 := part n j base h2 (by omega)
      have pos := Nat.two_pow_pos (K + 1 - base).toNat
      rcases p1 with p1 | p1 <;> rcases p2 with p2 | p2
      · omega
      · subst p2; simp only [Nat.zero_mul] at tri; omega
      · subst p1; simp only [Nat.zero_mul] at tri; omega
      · subst p1; subst p2; simp only [Nat.zero_mul] at tri; omega
    have := (Nat.log2_lt (by omega)).2 hbound
    have hK : 0 ≤ K + 1 - base := by
      apply Classical.byContradiction
      intro hc
      have p1 := part m e base h1 (by omega)
      have p2 := part n j base h2 (by omega)
      rw [show (K + 1 - base).toNat = 0 by omega] at p1 p2
      have q1 : m = 0 := by
        rcases p1 with p1 | p1
        · have := Nat.two_pow_pos (e - base).toNat
          rcases Nat.eq_zero_or_pos m with h | h
          · exact h
          · have := Nat.mul_pos h this; omega
        · exact p1
      have q2 : n = 0 := by
        rcases p2 with p2 | p2
        · have := Nat.two_pow_pos (j - base).toNat
          rcases Nat.eq_zero_or_pos n with h | h
          · exact h
          · have := Nat.mul_pos h this; omega
        · exact p2
      subst q1; subst q2; simp only [Nat.zero_mul] at tri; omega
    omega
  obtain ⟨m', e', h3, h4⟩ := low_write (s := if signed s m (e - base).toNat + signed t n (j - base).toNat = 0 then s && t else decide (signed s m (e - base).toNat + signed t n (j - base).toNat < 0)) hl (by omega) (by omega)
  refine ⟨_, _, m', e', ?_, h3, h4.mono (by omega)⟩
  unfold Format.add
  rw [hx, hy]
  simp only [Datum.sum, hb, Option.map_some]
theorem low_int {K : Int} {s : Bool} {m : Nat} {e : Int} (h : Low K m e) (h0 : 0 ≤ K) : ∃ z, Datum.toInt .zero (.number s m e) = some z ∧ z.natAbs < 2 ^ (K + 1).toNat := by
  refine ⟨_, rfl, ?_⟩
  rw [signed_abs, Nat.pow_zero, Nat.mul_one]
  unfold Toward.cut
  simp only [Bool.toNat_false, Nat.add_zero]
  have hn : m <<< e.toNat < 2 ^ (K + 1).toNat * 2 ^ (-e).toNat := by
    rw [Nat.shiftLeft_eq]
    rcases Nat.eq_zero_or_pos m with hm | hm
    · subst hm; rw [Nat.zero_mul]; exact Nat.mul_pos (Nat.two_pow_pos _) (Nat.two_pow_pos _)
    have a : e + (m.log2 : Int) ≤ K := by rcases h with h | h; omega; exact h
    have h2 : m < 2 ^ (m.log2 + 1) := Nat.lt_log2_self
    calc m * 2 ^ e.toNat < 2 ^ (m.log2 + 1) * 2 ^ e.toNat := Nat.mul_lt_mul_of_pos_right h2 (Nat.two_pow_pos _)
      _ = 2 ^ (m.log2 + 1 + e.toNat) := by rw [← Nat.pow_add]
      _ ≤ 2 ^ ((K + 1).toNat + (-e).toNat) := Nat.pow_le_pow_right (by omega) (by omega)
      _ = _ := by rw [Nat.pow_add]
  generalize m <<< e.toNat = n at *
  rw [Nat.shiftLeft_eq, Nat.one_mul]
  rcases Nat.le_total (-e).toNat (n.log2 + 2) with hd | hd
  · rw [Nat.min_eq_left hd]
    exact (Nat.div_lt_iff_lt_mul (Nat.two_pow_pos _)).2 hn
  · rw [Nat.min_eq_right hd]
    have : n < 2 ^ (n.log2 + 2) := Nat.lt_of_lt_of_le Nat.lt_log2_self (Nat.pow_le_pow_right (by omega) (by omega))
    rw [Nat.div_eq_of_lt this]; exact Nat.two_pow_pos _
theorem low_order {x y : Nat} {m n : Nat} {e j : Int} (hx : Format.read double x = .number false m e) (hy : Format.read double y = .number false n j) (h : Format.order double x y = some .lt) : Low (j + (n.log2 : Int)) m e := by
  unfold Format.order at h
  rw [hx, hy] at h
  simp only [Datum.order, signed, Bool.false_eq_true, if_false, Option.some.injEq] at h
  rcases Nat.eq_zero_or_pos m with hm | hm
  · exact .inl hm
  right
  generalize hb : min e j = base at h
  rw [Nat.shiftLeft_eq, Nat.shiftLeft_eq] at h
  have hlt : m * 2 ^ (e - base).toNat < n * 2 ^ (j - base).toNat := by
    have hi : ((m * 2 ^ (e - base).toNat : Nat) : Int) < ((n * 2 ^ (j - base).toNat : Nat) : Int) := by
      apply Classical.byContradiction
      intro hc
      simp only [compare, compareOfLessAndEq, if_neg hc] at h
      split at h <;> cases h
    omega
  have h1 : 2 ^ m.log2 ≤ m := Nat.log2_self_le (by omega)
  have h2 : n < 2 ^ (n.log2 + 1) := Nat.lt_log2_self
  have h3 : 2 ^ (m.log2 + (e - base).toNat) < 2 ^ (n.log2 + 1 + (j - base).toNat) := by
    calc 2 ^ (m.log2 + (e - base).toNat) = 2 ^ m.log2 * 2 ^ (e - base).toNat := by rw [Nat.pow_add]
      _ ≤ m * 2 ^ (e - base).toNat := Nat.mul_le_mul_right _ h1
      _ < n * 2 ^ (j - base).toNat := hlt
      _ ≤ 2 ^ (n.log2 + 1) * 2 ^ (j - base).toNat := Nat.mul_le_mul_right _ (Nat.le_of_lt h2)
      _ = 2 ^ (n.log2 + 1 + (j - base).toNat) := (Nat.pow_add 2 (n.log2 + 1) (j - base).toNat).symm
  have h4 := (Nat.pow_lt_pow_iff_right (a := 2) (by omega)).1 h3
  omega
theorem read_e9 : Format.read double 4741671816366391296 = .number false 8388608000000000 (-23) := by decide
theorem read_e6 : Format.read double 4696837146684686336 = .number false 8589934592000000 (-33) := by decide
theorem read_half : Format.read double 4602678819172646912 = .number false 4503599627370496 (-53) := by decide
theorem read_zero : Format.read double 0 = .number false 0 (-1074) := by decide
theorem read_neg {b : Nat} (hb : b < 2 ^ 64) : Format.read double (b ^^^ 2 ^ 63) = (Format.read double b).opposite := by
  have h1 : (b ^^^ 2 ^ 63) % 2 ^ 63 = b % 2 ^ 63 := by rw [Nat.xor_mod_two_pow]; simp
  have h2 : (b ^^^ 2 ^ 63) / 2 ^ 63 = (b / 2 ^ 63) ^^^ 1 := by rw [Nat.xor_div_two_pow]
  have hsw : Format.signWeight double = 2 ^ 63 := rfl
  have hneg : ((b ^^^ 2 ^ 63) / 2 ^ 63 % 2 == 1) = !(b / 2 ^ 63 % 2 == 1) := by
    rw [h2]
    have hq : b / 2 ^ 63 = 0 ∨ b / 2 ^ 63 = 1 := by omega
    rcases hq with hq | hq <;> rw [hq] <;> rfl
  unfold Format.read
  simp only [hsw, h1, hneg]
  split
  · rfl
  · split
    · rfl
    · split <;> rfl
theorem told_ok {a : Nat} (h : Format.order double a 4741671816366391296 = some .lt) (hs : ∀ m e, Format.read double a = .number true m e → m = 0) (hi : Format.read double a ≠ .infinity true) :
    ∃ r1 r2 z, Format.mul double a 4696837146684686336 = some r1 ∧ Format.add double r1 4602678819172646912 = some r2 ∧ (Format.read double r2).toInt .zero = some z ∧ z.natAbs < 2 ^ 60 := by
  have key : ∃ s m e, Format.read double a = .number s m e ∧ Low 29 m e := by
    cases hr : Format.read double a with
    | nan s t => unfold Format.order at h; rw [hr] at h; simp [Datum.order] at h
    | infinity s =>
      unfold Format.order at h
      rw [hr, read_e9] at h
      cases s
      · simp [Datum.order] at h
      · exact absurd hr hi
    | number s m e =>
      refine ⟨s, m, e, rfl, ?_⟩
      cases s with
      | true => exact .inl (hs m e hr)
      | false =>
        have := low_order hr read_e9 h
        exact this.mono (by decide)
  obtain ⟨s, m, e, h1, h2⟩ := key
  obtain ⟨r1, m1, e1, a1, a2, a3⟩ := low_mul h1 read_e6 h2 (L := 20) (.inr (by decide)) (by omega) (by omega)
  obtain ⟨r2, s2, m2, e2, b1, b2, b3⟩ := low_add a2 read_half (a3.mono (by omega : _ ≤ (52 : Int))) (.inr (by decide)) (by omega) (by omega)
  obtain ⟨z, c1, c2⟩ := low_int (s := s2) b3 (by omega)
  refine ⟨r1, r2, z, a1, b1, by rw [b2]; exact c1, Nat.lt_of_lt_of_le c2 (Nat.pow_le_pow_right (by omega) (by omega))⟩
theorem div_ok (k : Int) (hk : k.natAbs < 2 ^ 64) : ∃ q, Format.div double (FloatKind.nearest .f64 k) 4696837146684686336 = some q := by
  have hl : Low 64 k.natAbs 0 := by
    rcases Nat.eq_zero_or_pos k.natAbs with h | h
    · exact .inl h
    · have := (Nat.log2_lt (by omega)).2 hk
      exact .inr (by omega)
  obtain ⟨m, e, h1, h2⟩ := low_write (s := decide (k < 0)) hl (by omega) (by omega)
  have hd : ∃ d, Datum.quotient (double.fractionBits + 2) (Format.read double (Format.write double (.number (decide (k < 0)) k.natAbs 0))) (Format.read double 4696837146684686336) = some d := by
    rw [h1, read_e6]
    exact ⟨_, rfl⟩
  obtain ⟨d, hd⟩ := hd
  refine ⟨Format.write double d, ?_⟩
  show (Datum.quotient (double.fractionBits + 2) (Format.read double (Format.write double (.number (decide (k < 0)) k.natAbs 0))) (Format.read double 4696837146684686336)).map _ = _
  rw [hd]; rfl
theorem pos_ok {b : Nat} (h : Format.order double b 0 ≠ some .lt) : (∀ m e, Format.read double b = .number true m e → m = 0) ∧ Format.read double b ≠ .infinity true := by
  unfold Format.order at h
  rw [read_zero] at h
  constructor
  · intro m e hr
    rw [hr] at h
    apply Classical.byContradiction
    intro hm
    apply h
    simp only [Datum.order, signed, Option.some.injEq]
    simp only [if_true, Bool.false_eq_true, if_false, Nat.zero_shiftLeft, Nat.shiftLeft_eq]
    have hp : 0 < m * 2 ^ (e - min e (-1074)).toNat := Nat.mul_pos (by omega) (Nat.two_pow_pos _)
    simp only [compare, compareOfLessAndEq]
    rw [if_pos (by omega)]
  · intro hr
    rw [hr] at h
    exact h rfl
theorem neg_ok {b : Nat} (hb : b < 2 ^ 64) (h : Format.order double b 0 = some .lt) (h9 : Format.order double (b ^^^ 2 ^ 63) 4741671816366391296 = some .lt) :
    (∀ m e, Format.read double (b ^^^ 2 ^ 63) = .number true m e → m = 0) ∧ Format.read double (b ^^^ 2 ^ 63) ≠ .infinity true := by
  have hn := read_neg hb
  unfold Format.order at h
  rw [read_zero] at h
  constructor
  · intro m e hr
    rw [hn] at hr
    cases hrb : Format.read double b with
    | nan s t => rw [hrb] at hr; cases hr
    | infinity s => rw [hrb] at hr; cases hr
    | number s m' e' =>
      rw [hrb] at hr h
      simp only [Datum.opposite, Datum.number.injEq, Bool.not_eq_true'] at hr
      obtain ⟨rfl, rfl, rfl⟩ := hr
      exfalso
      simp only [Datum.order, signed, Bool.false_eq_true, if_false, Option.some.injEq, Nat.zero_shiftLeft] at h
      generalize m' <<< (e' - min e' (-1074)).toNat = q at h
      simp only [compare, compareOfLessAndEq] at h
      rw [if_neg (by omega)] at h
      split at h <;> cases h
  · intro hr
    rw [hn] at hr
    cases hrb : Format.read double b with
    | nan s t => rw [hrb] at hr; cases hr
    | number s m' e' => rw [hrb] at hr; cases hr
    | infinity s =>
      rw [hrb] at hr h
      cases s
      · cases h
      · cases hr
end Go.AM
namespace Go.AM
open Go.RowKit
variable {α : Type}
def sl (y : Nat) : Nat → Value
  | 0 => .slice none 0 0
  | m + 1 => .slice (some ⟨y, 0, none⟩) (m + 1 : Nat) (m + 1 : Nat)
def llcells (ys : Nat → Nat) (ls : List (List α)) : List Value := ls.mapIdx fun v l => sl (ys v) l.length
def upd (ys : Nat → Nat) (v y : Nat) : Nat → Nat := fun u => if u = v then y else ys u
structure LL (m : Nat) (H : Heap) (x ty ety : Nat) (enc : α → List Value) (ls : List (List α)) (ys : Nat → Nat) : Prop where
  hx : H x = .cells (llcells ys ls) ty true
  hy : ∀ v (h : v < ls.length), ls[v] ≠ [] → H (ys v) = .cells (ls[v].flatMap enc) ety true
  inj : ∀ u v (hu : u < ls.length) (hv : v < ls.length), ls[u] ≠ [] → ls[v] ≠ [] → ys u = ys v → u = v
  fy : ∀ v (h : v < ls.length), ls[v] ≠ [] → m ≤ ys v
  ne : ∀ v (h : v < ls.length), ls[v] ≠ [] → ys v ≠ x
section
variable {m n n' x ty ety : Nat} {H H' : Heap} {enc : α → List Value} {ls : List (List α)} {ys : Nat → Nat}
theorem live_lt (hw : WF n H) {z : Nat} (h : H z ≠ .dead) : z < n := by
  apply Classical.byContradiction
  intro hc
  exact h (hw z (by omega))
theorem live_of {z : Nat} {cs : List Value} {t : TypeId} {own : Bool} (h : H z = .cells cs t own) : H z ≠ .dead := by rw [h]; intro e; cases e
end
end Go.AM
namespace Go.AM
inductive Nul (g : Gram) : Int → Prop
  | mk (i : Nat) (h : i < g.rules.length) (h0 : ∀ s ∈ g.rules[i].right, 0 ≤ s) (h1 : ∀ s ∈ g.rules[i].right, Nul g s) : Nul g g.rules[i].left
inductive Prd (g : Gram) : Int → Prop
  | mk (i : Nat) (h : i < g.rules.length) (h1 : ∀ s ∈ g.rules[i].right, 0 ≤ s → Prd g s) : Prd g g.rules[i].left
inductive Der (rb : GRule → List Bool → Bool) (rules : List GRule) (hs : List Bool) : List Bool → Prop
  | refl : Der rb rules hs hs
  | step {h1 : List Bool} (d : Der rb rules hs h1) (r : GRule) (hr : r ∈ rules) (hb : rb r h1 = true) : Der rb rules hs (h1.set r.left.toNat true)
def prdB (right : List Int) (hs : List Bool) : Bool := right.all fun s => decide (s < 0) || hs.getD s.toNat false
structure InG (g : Gram) : Prop where
  left0 : ∀ r ∈ g.rules, 0 ≤ r.left
  left1 : ∀ r ∈ g.rules, r.left < g.vars.length
  right : ∀ r ∈ g.rules, ∀ s ∈ r.right, s < g.vars.length
  rightT : ∀ r ∈ g.rules, ∀ s ∈ r.right, s < 0 → -s - 1 < g.terms.length
def hold (hs : List Bool) (v : Int) : Prop := 0 ≤ v ∧ hs.getD v.toNat false = true
structure Edg (g : Gram) (v : Int) (i at_ : Nat) (u : Int) : Prop where
  hi : i < g.rules.length
  left : g.rules[i].left = v
  hat : g.rules[i].right[at_]? = some u
  u0 : 0 ≤ u
  nul : ∀ q, q < at_ → ∀ s, g.rules[i].right[q]? = some s → Nul g s
def Beg (g : Gram) (v u : Int) : Prop := ∃ i at_, Edg g v i at_ u
inductive Rch (g : Gram) (v : Int) : Int → Prop
  | one {u : Int} (h : Beg g v u) : Rch g v u
  | more {u w : Int} (h : Rch g v u) (k : Beg g u w) : Rch g v w
end Go.AM
namespace Go.AM
structure GoodRow (g : Gram) (v : Nat) (r : List Bool) : Prop where
  len : r.length = g.vars.length
  mem : ∀ u : Nat, r[u]? = some true ↔ Rch g v u
structure Work (g : Gram) (v : Nat) (r : List Bool) (todo : List Nat) (busy : Nat → Prop) : Prop where
  sound : ∀ u : Nat, r[u]? = some true → Rch g v u
  known : ∀ u, u ∈ todo → u = v ∨ r[u]? = some true
  closed : ∀ u : Nat, u = v ∨ r[u]? = some true → u ∈ todo ∨ busy u ∨ ∀ w : Nat, Beg g u w → r[w]? = some true
end Go.AM
namespace Go.AM
structure RoundTo (rb : GRule → List Bool → Bool) (rules : List GRule) (k : Nat) (hs nx : List Bool) : Prop where
  len : nx.length = hs.length
  mem : ∀ v : Nat, v < hs.length → (nx.getD v false = true ↔ hs.getD v false = true ∨ ∃ i, ∃ h : i < rules.length, i < k ∧ rules[i].left = v ∧ rb rules[i] hs = true)
end Go.AM
namespace Go.AM
def neg (s : Int) : Bool := decide (s < 0)
theorem takeWhile_neg {l : List Int} {s : Int} (h : s ∈ l.takeWhile neg) : s < 0 := by
  induction l with
  | nil => simp at h
  | cons a l ih =>
    rw [List.takeWhile_cons] at h
    split at h
    · rename_i ha
      rcases List.mem_cons.1 h with rfl | h
      · simpa [neg] using ha
      · exact ih h
    · simp at h
def stepS (g : Gram) (form : List Int) (r : Int) : List Int × Nat :=
  if r < 0 ∨ (g.rules.length : Int) ≤ r then ([], 12) else
  match form.dropWhile neg with
  | [] => ([], 13)
  | u :: rest => match g.rules[r.toNat]? with
    | some rule => if rule.left = u then (form.takeWhile neg ++ rule.right ++ rest, 0) else ([], 14)
    | none => ([], 12)
def replayS (g : Gram) : List Int → List Int → Nat → List Int × Nat × Nat
  | form, [], _ => (form, 0, 0)
  | form, r :: rest, k => if (stepS g form r).2 = 0 then replayS g (stepS g form r).1 rest (k + 1) else ([], k, (stepS g form r).2)
def replayL (g : Gram) (form rules : List Int) : List Int × Nat × Nat := if 4096 < rules.length then ([], 0, 7) else replayS g form rules 0
theorem stepS_ok {g : Gram} {form form' : List Int} {r : Int} (h : stepS g form r = (form', 0)) : ∃ (i : Nat) (hi : i < g.rules.length) (t rest : List Int), r = i ∧ form = t ++ g.rules[i].left :: rest ∧ form' = t ++ g.rules[i].right ++ rest ∧ (∀ s ∈ t, s < 0) := by
  unfold stepS at h
  split at h
  · simp at h
  · rename_i hr
    split at h
    · simp at h
    · rename_i u rest hd
      split at h
      · rename_i rule hrule
        split at h
        · rename_i hl
          simp at h
          obtain ⟨hi, e⟩ := List.getElem?_eq_some_iff.1 hrule
          refine ⟨r.toNat, hi, form.takeWhile neg, rest, by omega, ?_, ?_, fun s hs => ?_⟩
          · rw [e, hl, ← hd, List.takeWhile_append_dropWhile]
          · rw [← h, e, List.append_assoc]
          · exact takeWhile_neg hs
        · simp at h
      · simp at h
def layS (done pend : List Int) : List Int × List Int := (done ++ pend.takeWhile neg, pend.dropWhile neg)
theorem layS_form (done pend : List Int) : (layS done pend).1 ++ (layS done pend).2 = done ++ pend := by
  unfold layS
  rw [List.append_assoc, List.takeWhile_append_dropWhile]
structure Laid (done pend : List Int) : Prop where
  done : ∀ s ∈ done, s < 0
  pend : ∀ s, pend[0]? = some s → 0 ≤ s
theorem layS_laid {done pend : List Int} (h : ∀ s ∈ done, s < 0) : Laid (layS done pend).1 (layS done pend).2 := by
  refine ⟨fun s hs => ?_, fun s hs => ?_⟩
  · unfold layS at hs
    rcases List.mem_append.1 hs with hs | hs
    · exact h s hs
    · exact takeWhile_neg hs
  · unfold layS at hs
    simp only at hs
    have := List.head?_dropWhile_not neg pend
    rw [List.head?_eq_getElem?, hs] at this
    simpa [neg] using this
theorem Laid.takeWhile {done pend : List Int} (h : Laid done pend) : (done ++ pend).takeWhile neg = done ∧ (done ++ pend).dropWhile neg = pend := by
  obtain ⟨h1, h2⟩ := h
  induction done with
  | nil =>
    cases pend with
    | nil => exact ⟨rfl, rfl⟩
    | cons s pend =>
      have := h2 s (by simp)
      have e : neg s = false := by simp [neg]; exact this
      simp [List.takeWhile_cons, List.dropWhile_cons, e]
  | cons d done ih =>
    have hd := h1 d (by simp)
    have e : neg d = true := by simp [neg]; exact hd
    obtain ⟨a, b⟩ := ih (fun s hs => h1 s (by simp [hs]))
    simp only [List.cons_append, List.takeWhile_cons, List.dropWhile_cons, e, if_true]
    exact ⟨by rw [a], b⟩
end Go.AM
namespace Go.AM
def farN : Nat := 1073741824
inductive WdL (g : Gram) : List Int → Nat → Prop
  | nil : WdL g [] 0
  | term {s : Int} {rest : List Int} {n : Nat} (h : s < 0) (k : WdL g rest n) : WdL g (s :: rest) (n + 1)
  | var {i : Nat} (h : i < g.rules.length) {rest : List Int} {a b : Nat} (x : WdL g g.rules[i].right a) (k : WdL g rest b) : WdL g (g.rules[i].left :: rest) (a + b)
def sumC (c : Nat → Nat) : List Int → Nat
  | [] => 0
  | s :: rest => (if s < 0 then 1 else c s.toNat) + sumC c rest
def allDone (d : Nat → Bool) (l : List Int) : Prop := ∀ s ∈ l, 0 ≤ s → d s.toNat = true
inductive Ranked (g : Gram) (c : Nat → Nat) (best : Nat → Int) : List Nat → Prop
  | nil : Ranked g c best []
  | snoc {l : List Nat} {v i : Nat} (h : Ranked g c best l) (hv : v ∉ l) (hi : i < g.rules.length) (hb : best v = (i : Int)) (hl : g.rules[i].left = (v : Int)) (hr : ∀ s ∈ g.rules[i].right, 0 ≤ s → s.toNat ∈ l) (hc : c v = sumC c g.rules[i].right) (hf : c v < farN) : Ranked g c best (l ++ [v])
structure Dij (g : Gram) (c : Nat → Nat) (d : Nat → Bool) : Prop where
  least : ∀ v k, v < g.vars.length → d v = true → WdL g [(v : Int)] k → c v ≤ k
  relax : ∀ i (h : i < g.rules.length), d g.rules[i].left.toNat = false → allDone d g.rules[i].right → sumC c g.rules[i].right < farN → c g.rules[i].left.toNat ≤ sumC c g.rules[i].right
end Go.AM
namespace Go.AM
structure CInv (g : Gram) (c : Nat → Nat) (b : Nat → Int) (d : Nat → Bool) (ord : List Nat) (i : Nat) : Prop where
  ranked : Ranked g c b ord
  done : ∀ v, v < g.vars.length → (d v = true ↔ v ∈ ord)
  least : ∀ v k, v < g.vars.length → d v = true → WdL g [(v : Int)] k → c v ≤ k
  cap : ∀ v, v < g.vars.length → c v ≤ farN
  ach : ∀ v, v < g.vars.length → d v = false → c v < farN → ∃ i, ∃ h : i < g.rules.length, b v = (i : Int) ∧ g.rules[i].left = (v : Int) ∧ (∀ s ∈ g.rules[i].right, 0 ≤ s → s.toNat ∈ ord) ∧ c v = sumC c g.rules[i].right
  relax : ∀ j (h : j < g.rules.length), j < i → d g.rules[j].left.toNat = false → allDone d g.rules[j].right → sumC c g.rules[j].right < farN → c g.rules[j].left.toNat ≤ sumC c g.rules[j].right
section
variable {g : Gram} {c : Nat → Nat} {b : Nat → Int} {d : Nat → Bool} {ord : List Nat} {i : Nat}
structure CostOK (g : Gram) (c : Nat → Nat) (b : Nat → Int) : Prop where
  ranked : ∃ ord, Ranked g c b ord ∧ ∀ v, v < g.vars.length → v ∈ ord ∨ v ∉ ord ∧ c v = farN ∧ b v = -1
  least : ∀ v k, v < g.vars.length → WdL g [(v : Int)] k → c v ≤ k ∨ farN ≤ k ∧ c v = farN
end
end Go.AM
namespace Go.AM
inductive Pre (g : Gram) (b : Nat → Int) : List Int → List Int → Prop
  | nil : Pre g b [] []
  | term {s : Int} {rest d : List Int} (h : s < 0) (k : Pre g b rest d) : Pre g b (s :: rest) d
  | var {i v : Nat} (hi : i < g.rules.length) (hb : b v = (i : Int)) (hl : g.rules[i].left = (v : Int)) {rest d1 d2 : List Int} (x : Pre g b g.rules[i].right d1) (k : Pre g b rest d2) : Pre g b ((v : Int) :: rest) ((i : Int) :: (d1 ++ d2))
inductive PreE (g : Gram) : List Int → List Int → Prop
  | nil : PreE g [] []
  | var {i : Nat} (hi : i < g.rules.length) {rest d1 d2 : List Int} (x : PreE g g.rules[i].right d1) (k : PreE g rest d2) : PreE g (g.rules[i].left :: rest) ((i : Int) :: (d1 ++ d2))
structure Slow (g : Gram) (F : Nat → Nat → Nat) : Prop where
  up : ∀ k v, F k v ≤ F (k + 1) v
  rule : ∀ k i (h : i < g.rules.length), k < g.vars.length → (∀ s ∈ g.rules[i].right, 0 ≤ s ∧ 1 ≤ F k s.toNat) → 1 + sumC (F k) g.rules[i].right ≤ F (k + 1) g.rules[i].left.toNat
end Go.AM
namespace Go.AM
inductive Usd (g : Gram) : Int → Prop
  | base (h : Prd g 0) : Usd g 0
  | step (i : Nat) (h : i < g.rules.length) (hu : Usd g g.rules[i].left) (hp : ∀ s ∈ g.rules[i].right, 0 ≤ s → Prd g s) {s : Int} (hs : s ∈ g.rules[i].right) (h0 : 0 ≤ s) : Usd g s
def UClosed (g : Gram) (ws o : List Bool) : Prop := ∀ r ∈ g.rules, hold o r.left → prdB r.right ws = true → ∀ s ∈ r.right, 0 ≤ s → hold o s
structure UWork (g : Gram) (ws r : List Bool) (todo : List Nat) (busy : Nat → Prop) : Prop where
  sound : ∀ u : Int, hold r u → Usd g u
  known : ∀ u, u ∈ todo → hold r (u : Nat)
  base : hold r 0
  closed : ∀ u : Nat, hold r u → u ∈ todo ∨ busy u ∨ ∀ q ∈ g.rules, q.left = (u : Int) → prdB q.right ws = true → ∀ s ∈ q.right, 0 ≤ s → hold r s
def RUr (ws o : List Bool) (r : GRule) (j : Nat) : Prop := hold o r.left → prdB r.right ws = true → ∀ (p : Nat) (s : Int), p < j → r.right[p]? = some s → 0 ≤ s → hold o s
structure RU (g : Gram) (ws o0 o : List Bool) (k j : Nat) : Prop where
  len : o.length = o0.length
  sound : ∀ v, hold o v → Usd g v
  mono : ∀ v, hold o0 v → hold o v
  stay : UClosed g ws o0 → ∀ v, hold o v → hold o0 v
  prog : (o = o0 ∧ (∀ (i : Nat) (h : i < g.rules.length), i < k → RUr ws o0 g.rules[i] g.rules[i].right.length) ∧ ∀ h : k < g.rules.length, RUr ws o0 g.rules[k] j) ∨ o0.count true < o.count true
section
variable {g : Gram} {ws o0 o : List Bool} {k j : Nat}
end
structure Least (g : Gram) (c : Nat → Nat) : Prop where
  cap : ∀ v, v < g.vars.length → c v ≤ farN
  rel : ∀ r ∈ g.rules, c r.left.toNat ≤ min (sumC c r.right) farN
structure BF (g : Gram) (c : Nat → Nat) (b : Nat → Int) (ord : List Nat) (o : Nat → Nat) (i k : Nat) : Prop where
  lo : ∀ v, v < g.vars.length → c v ≤ o v
  hi : ∀ v, v < g.vars.length → o v ≤ farN
  rank : ∀ p v, p < i → ord[p]? = some v → o v = c v
  cur : ∀ v q, ord[i]? = some v → q < k → b v = (q : Int) → o v = c v
section
variable {g : Gram} {c : Nat → Nat} {b : Nat → Int} {ord : List Nat} {o : Nat → Nat} {i k : Nat}
end
end Go.AM
namespace Go.AM
inductive PreW (g : Gram) (b : Nat → Int) : List Int → List Int → List Int → Prop
  | nil : PreW g b [] [] []
  | term {s : Int} {rest d w : List Int} (h : s < 0) (k : PreW g b rest d w) : PreW g b (s :: rest) d (s :: w)
  | var {i v : Nat} (hi : i < g.rules.length) (hb : b v = (i : Int)) (hl : g.rules[i].left = (v : Int)) {rest d1 d2 w1 w2 : List Int} (x : PreW g b g.rules[i].right d1 w1) (k : PreW g b rest d2 w2) : PreW g b ((v : Int) :: rest) ((i : Int) :: (d1 ++ d2)) (w1 ++ w2)
theorem step_at {g : Gram} (hg : InG g) {t rest : List Int} (ht : ∀ s ∈ t, s < 0) {i : Nat} (hi : i < g.rules.length) : stepS g (t ++ g.rules[i].left :: rest) (i : Int) = (t ++ g.rules[i].right ++ rest, 0) := by
  have h0 := hg.left0 _ (List.getElem_mem hi)
  have hn : AM.neg g.rules[i].left = false := by simp [AM.neg]; exact h0
  have ht' : ∀ s ∈ t, AM.neg s = true := fun s hs => by simp [AM.neg]; exact ht s hs
  have h1 : (t ++ g.rules[i].left :: rest).takeWhile AM.neg = t := by
    rw [List.takeWhile_append_of_pos ht', List.takeWhile_cons, hn]; simp
  have h2 : (t ++ g.rules[i].left :: rest).dropWhile AM.neg = g.rules[i].left :: rest := by
    rw [List.dropWhile_append_of_pos ht', List.dropWhile_cons, hn]; simp
  unfold stepS
  rw [if_neg (by omega), h1, h2]
  simp only [Int.toNat_natCast, List.getElem?_eq_getElem hi]
  rw [if_pos trivial]
open Classical in
noncomputable def szOf (g : Gram) (b : Nat → Int) (v : Nat) : Nat := if h : ∃ D, Pre g b [(v : Int)] D then (Classical.choose h).length else 0
def wideM : Nat := 1048576
structure WD (g : Gram) (b : Nat → Int) (ord : List Nat) (st : Nat → Nat) (i k : Nat) : Prop where
  rank : ∀ p v, p < i → ord[p]? = some v → st v = min (szOf g b v) wideM
  cur : ∀ v, ord[i]? = some v → v < k → st v = min (szOf g b v) wideM
section
variable {g : Gram} {c : Nat → Nat} {b : Nat → Int} {ord : List Nat} {st : Nat → Nat} {i k : Nat}
end
end Go.AM
namespace Go.AM
theorem tw_at {l : List Int} {j : Nat} (hj : j < l.length) (h : ∀ s ∈ l.take j, s < 0) (h0 : 0 ≤ l[j]) : l.takeWhile neg = l.take j ∧ l.dropWhile neg = l[j] :: l.drop (j + 1) := by
  induction l generalizing j with
  | nil => simp at hj
  | cons a l ih =>
    cases j with
    | zero =>
      have e : neg a = false := by simp [neg]; simpa using h0
      simp [e]
    | succ j =>
      have ha := h a (by simp)
      have e : neg a = true := by simp [neg]; exact ha
      obtain ⟨h1, h2⟩ := ih (j := j) (by simpa using hj) (fun s hs => h s (by simp [hs])) (by simpa using h0)
      simp only [List.takeWhile_cons, List.dropWhile_cons, e, if_true, h1, h2]
      exact ⟨rfl, by simp⟩
theorem tw_all {l : List Int} (h : ∀ s ∈ l, s < 0) : l.takeWhile neg = l ∧ l.dropWhile neg = [] := by
  induction l with
  | nil => exact ⟨rfl, rfl⟩
  | cons a l ih =>
    have e : neg a = true := by simp [neg]; exact h a (by simp)
    obtain ⟨h1, h2⟩ := ih fun s hs => h s (by simp [hs])
    simp only [List.takeWhile_cons, List.dropWhile_cons, e, if_true, h1, h2]
    exact ⟨trivial, trivial⟩
end Go.AM
namespace Go.AM
open Go.RowKit
section
variable {P : Program} {n : Nat} {H : Heap} {ts : Array TypeId} {e : TypeId} {j : Nat}
theorem aop_look {ρ : Operand → Value} {d : Option Nat} {t : TypeId} {x k : Operand} {b : Bool} {ty : TypeId} {p : String} {af : Array Edge} {gd : Option (Nat × Bool)} :
    aop P ρ n H ⟨d, .lookup t x k b, ty, p, af, gd⟩ = alookup P t H (ρ x) (ρ k) b := rfl
theorem aop_mapset {ρ : Operand → Value} {d : Option Nat} {t : TypeId} {m k x : Operand} {ty : TypeId} {p : String} {af : Array Edge} {gd : Option (Nat × Bool)} :
    aop P ρ n H ⟨d, .mapUpdate t m k x, ty, p, af, gd⟩ = amapset P t H (ρ m) (ρ k) (ρ x) := rfl
def amake (P : Program) (n : Nat) (t : TypeId) : Option Res := match P.underlying t with
  | some (.map kt _) => some { v := .map (some n), news := [.map [] 0 kt] }
  | _ => none
theorem aop_makemap {ρ : Operand → Value} {d : Option Nat} {t : TypeId} {ty : TypeId} {p : String} {af : Array Edge} {gd : Option (Nat × Bool)} :
    aop P ρ n H ⟨d, .makeMap t none, ty, p, af, gd⟩ = amake P n t := rfl
end
theorem keyOf_3 {P : Program} {kt ti : TypeId} {fs : Array Field} (hu : P.underlying kt = some (.struct fs)) (hk : P.keyType kt = true) (hn : fs.all (·.name != "_") = true) (hs : 0 < P.types.size) (hti : P.underlying ti = some (.int .i64)) (hc : P.cellsOf ti = 1) (h3 : P.cellsOf kt = 3)
    (hf : fs.toList.map (fun f => (f.type, f.offset)) = [(ti, 0), (ti, 1), (ti, 2)]) {a b c : Int} (ha : (Lit.int .i64 a).wf = true) (hb : (Lit.int .i64 b).wf = true) (hcc : (Lit.int .i64 c).wf = true) : (keyOf P kt (.agg #[.int .i64 a, .int .i64 b, .int .i64 c])).isSome = true := by
  have hint : ∀ n : Int, (Lit.int .i64 n).wf = true → P.keyLits P.types.size ti [.int .i64 n] = some [.int .i64 n] := by
    intro n hw
    obtain ⟨d, hd⟩ : ∃ d, P.types.size = d + 1 := ⟨P.types.size - 1, by omega⟩
    rw [hd]
    unfold Program.keyLits
    simp only [hti]
    rw [if_pos ⟨trivial, hw⟩]
  have hm : (fs.toList.mapM fun f => P.keyLits P.types.size f.type ((([.int .i64 a, .int .i64 b, .int .i64 c] : List Value).drop f.offset).take (P.cellsOf f.type))) = some [[.int .i64 a], [.int .i64 b], [.int .i64 c]] := by
    have e : (fun f : Field => P.keyLits P.types.size f.type ((([.int .i64 a, .int .i64 b, .int .i64 c] : List Value).drop f.offset).take (P.cellsOf f.type))) = (fun p : TypeId × Nat => P.keyLits P.types.size p.1 ((([.int .i64 a, .int .i64 b, .int .i64 c] : List Value).drop p.2).take (P.cellsOf p.1))) ∘ (fun f : Field => (f.type, f.offset)) := rfl
    rw [e, ← List.mapM_map, hf]
    simp [hc, hint _ ha, hint _ hb, hint _ hcc]
  unfold keyOf
  rw [hu]
  simp only
  have hfm : Value.formed P kt (.agg #[.int .i64 a, .int .i64 b, .int .i64 c]) = true := by
    unfold Value.formed
    simp [hu, h3]
  rw [hk, hfm]
  have hl : P.keyLits (P.types.size + 1) kt [.int .i64 a, .int .i64 b, .int .i64 c] = some [.int .i64 a, .int .i64 b, .int .i64 c] := by
    unfold Program.keyLits
    simp only [hu]
    rw [if_pos ⟨by rw [h3]; rfl, hn⟩, hm]
    rfl
  show (Option.map _ (P.keyLits (P.types.size + 1) kt [.int .i64 a, .int .i64 b, .int .i64 c])).isSome = true
  rw [hl]
  rfl
end Go.AM
namespace Go.AM
abbrev It := Nat × Nat × Nat
def rgt (g : Gram) (r : Nat) : List Int := ((g.rules[r]?).map (·.right)).getD []
def lft (g : Gram) (r : Nat) : Int := ((g.rules[r]?).map (·.left)).getD 0
def nx (g : Gram) (x : It) : Option Int := (rgt g x.1)[x.2.1]?
def okI (g : Gram) (at_ : Nat) (x : It) : Prop := x.1 < g.rules.length ∧ x.2.1 ≤ (rgt g x.1).length ∧ x.2.2 ≤ at_
structure okL (g : Gram) (at_ : Nat) (l : List It) : Prop where
  nd : l.Nodup
  ok : ∀ x ∈ l, okI g at_ x
end Go.AM
namespace Go.AM
open Go.RowKit
def wz (P : Program) (all : Array Oper) (K : List Fk) (Q : AExit → St → Prop) : List Bool → List Oper → Fr → Nat → Heap → Prop
  | _, [], f, n, H => WK P .skip K ⟨f, n, H⟩ Q
  | b :: fl, o :: rest, f, n, H => w1 P b (wz P all K Q fl rest) o f n H (wantedA all f o)
  | [], o :: rest, f, n, H => w1 P true (wz P all K Q [] rest) o f n H (wantedA all f o)
theorem wz_sound {P : Program} {all : Array Oper} {K : List Fk} {Q : AExit → St → Prop} : ∀ (rest : List Oper) (fl : List Bool) (j : Nat), (∀ k : Nat, fl[k]? = some false → soloB all (j + k) = true) → ∀ (f : Fr) (n : Nat) (H : Heap), wz P all K Q fl rest f n H →
    ∃ s1 l, BS P (.ops all rest ⟨f, n, H⟩) (.log s1 l) ∧ (∀ (k : Nat) (r : Rec), l[k]? = some r → r.call = true → soloB all (j + k) = true ∨ ∀ x, x < r.pre.n → r.H x = r.pre.H x) ∧ WK P .skip K s1 Q := by
  intro rest
  induction rest with
  | nil =>
    intro fl j hfl f n H h
    refine ⟨⟨f, n, H⟩, [], .opsNil all _, (fun k r hr => by simp at hr), ?_⟩
    cases fl <;> exact h
  | cons o rest ih =>
    intro fl j hfl f n H h
    obtain ⟨b, fl', hfl', hb, h⟩ : ∃ b fl', (∀ k : Nat, fl'[k]? = some false → soloB all (j + 1 + k) = true) ∧ (b = false → soloB all j = true) ∧ w1 P b (wz P all K Q fl' rest) o f n H (wantedA all f o) := by
      cases fl with
      | nil => exact ⟨true, [], fun k hk => by simp at hk, fun e => (by cases e), h⟩
      | cons b fl => exact ⟨b, fl, fun k hk => by rw [show j + 1 + k = j + (k + 1) by omega]; exact hfl (k + 1) (by simpa using hk), fun e => hfl 0 (by subst e; rfl), h⟩
    have op : ∀ t, (∀ r, t = some r → aop P (evalA f) n H o = some r) → wantedA all f o = true → w3 (wz P all K Q fl' rest) f o.dst n H t →
        ∃ s1 l, BS P (.ops all (o :: rest) ⟨f, n, H⟩) (.log s1 l) ∧ (∀ (k : Nat) (r : Rec), l[k]? = some r → r.call = true → soloB all (j + k) = true ∨ ∀ x, x < r.pre.n → r.H x = r.pre.H x) ∧ WK P .skip K s1 Q := fun t ht hw h => by
      cases t with
      | none => cases h
      | some r =>
        obtain ⟨s1, l, h1, h2, h3⟩ := ih fl' (j + 1) hfl' _ _ _ h
        refine ⟨s1, _, .opsOp hw (ht r rfl) h1, fun k q hq hc => ?_, h3⟩
        cases k with
        | zero => simp at hq; subst hq; cases hc
        | succ k => rw [show j + (k + 1) = j + 1 + k by omega]; exact h2 k q (by simpa using hq) hc
    cases hw : wantedA all f o with
    | false =>
      rw [hw] at h
      obtain ⟨s1, l, h1, h2, h3⟩ := ih fl' (j + 1) hfl' _ _ _ h
      refine ⟨s1, _, .opsSkip hw h1, fun k q hq hc => ?_, h3⟩
      cases k with
      | zero => simp at hq; subst hq; cases hc
      | succ k => rw [show j + (k + 1) = j + 1 + k by omega]; exact h2 k q (by simpa using hq) hc
    | true =>
      rw [hw] at h
      simp only [w1] at h
      cases hg : acallee (evalA f) o with
      | none => rw [hg] at h; exact op _ (fun r hr => top_sound hr) hw h
      | some c =>
        obtain ⟨g, args⟩ := c
        rw [hg] at h
        rcases h with h | ⟨v, n1, H1, hbs, hf, h⟩
        · exact op _ (fun r hr => hr) hw h
        · obtain ⟨s1, l, h1, h2, h3⟩ := ih fl' (j + 1) hfl' _ _ _ h
          refine ⟨s1, _, .opsCall hw hg hbs h1, fun k q hq hc => ?_, h3⟩
          cases k with
          | zero =>
            simp at hq; subst hq
            cases b with
            | false => exact .inl (hb rfl)
            | true => exact .inr (hf rfl)
          | succ k => rw [show j + (k + 1) = j + 1 + k by omega]; exact h2 k q (by simpa using hq) hc
def soloFl (ops : Array Oper) (fl : List Bool) : Bool := (List.range fl.length).all fun k => (fl.getD k true) || soloB ops k
theorem WK.rgs {P : Program} {K : List Fk} {Q : AExit → St → Prop} {f : Fr} {n : Nat} {H : Heap} {id : Nat} {ops : Array Oper} (fl : List Bool) (hfl : soloFl ops fl = true) (hp : (sPairs ops).isEmpty = true) (h : wz P ops K Q fl ops.toList f n H) :
    WK P (.region id ops true) K ⟨f, n, H⟩ Q := by
  obtain ⟨s1, l, h1, h2, h3⟩ := wz_sound ops.toList fl 0 (by
    intro k hk
    have hlt := (List.getElem?_eq_some_iff.1 hk).1
    have := List.all_eq_true.1 hfl k (List.mem_range.2 hlt)
    rw [List.getD_eq_getElem?_getD, hk] at this
    rw [Nat.zero_add]
    simpa using this) _ _ _ h
  refine WK.imp (d := .skip) (t := s1) (fun e s2 h => ?_) h3
  cases h
  refine .regionDraw h1 ⟨fun p hp' => ?_, fun k r e hcl => by have := h2 k r e hcl; rwa [Nat.zero_add] at this⟩
  rw [List.isEmpty_iff.1 hp] at hp'; cases hp'
end Go.AM
namespace Go.AM
open Go.RowKit
def sbnd (d : Nat) : Option Value → Option Nat
  | none => some d
  | some (.int _ i) => if 0 ≤ i then some i.toNat else none
  | _ => none
def tss2 (s : ByteArray) (alt : Option Res) : Option TypeDesc → Option Nat → Option Nat → Option Res
  | some .string, some l, some h => if l ≤ h ∧ h ≤ s.size then some { v := .string (s.extract l h) } else alt
  | _, _, _ => alt
def tss (P : Program) (t : TypeId) (alt : Option Res) (lo hi : Option Value) : Value → Option Res
  | .string s => tss2 s alt (P.underlying t) (sbnd 0 lo) (sbnd s.size hi)
  | _ => alt
end Go.AM
namespace Go.AM
end Go.AM
namespace Go.AM
open Go.RowKit
structure WA (N : List (List Int)) (R : List Int) : Prop where
  n : N.length ≤ maxL
  r : R.length ≤ maxL
  row : ∀ l, l ∈ N → l.length ≤ maxL ∧ ∀ y, y ∈ l → inI y
  rule : ∀ y, y ∈ R → inI y
end Go.AM
namespace Go.AM.Mini
def at1 (R : List Int) (s : Nat) : Int := R.getD s (-1)
def at2 (N : List (List Int)) (s t : Nat) : Int := at1 (N.getD s []) t
structure Ok (N : List (List Int)) (R : List Int) (w : Nat) : Prop where
  pos : 0 < N.length
  len : N.length = R.length
  wpos : 0 < w
  row : ∀ s, s < N.length → (N.getD s []).length = w
  rule : ∀ s, s < N.length → -1 ≤ at1 R s
  lo : ∀ s, s < N.length → ∀ t, t < w → -1 ≤ at2 N s t
  hi : ∀ s, s < N.length → ∀ t, t < w → at2 N s t < N.length
  fin : ∀ s, s < N.length → ∀ t, t < w → 0 ≤ at2 N s t → at1 R s < 0
structure Bis (N : List (List Int)) (R : List Int) (N' : List (List Int)) (R' : List Int) (w : Nat) (B : Nat → Nat → Prop) : Prop where
  rule : ∀ s u, B s u → at1 R s = at1 R' u
  sgn : ∀ s u, B s u → ∀ t, t < w → (at2 N s t < 0 ↔ at2 N' u t < 0)
  go : ∀ s u, B s u → ∀ t, t < w → 0 ≤ at2 N s t → B (at2 N s t).toNat (at2 N' u t).toNat
def Sim (N : List (List Int)) (R : List Int) (N' : List (List Int)) (R' : List Int) (w : Nat) (s u : Nat) : Prop := ∃ B, Bis N R N' R' w B ∧ B s u
section
variable {N N' N'' : List (List Int)} {R R' R'' : List Int} {w : Nat}
end
theorem erase_len {α : Type} [BEq α] [LawfulBEq α] {l : List α} {a : α} (h : a ∈ l) : (l.erase a).length + 1 = l.length := by
  rw [List.length_erase_of_mem h]
  have := List.length_pos_of_mem h
  omega
theorem sub_len {α : Type} [BEq α] [LawfulBEq α] : ∀ {l m : List α}, l.Nodup → (∀ x, x ∈ l → x ∈ m) → l.length ≤ m.length := by
  intro l
  induction l with
  | nil => intro m _ _; simp
  | cons a l ih =>
    intro m hn hs
    rw [List.nodup_cons] at hn
    have ha := hs a (List.mem_cons_self ..)
    have := ih (m := m.erase a) hn.2 (fun x hx => by
      have hne : x ≠ a := fun e => hn.1 (e ▸ hx)
      exact (List.mem_erase_of_ne hne).2 (hs x (List.mem_cons_of_mem _ hx)))
    have h2 := erase_len ha
    simp only [List.length_cons]; omega
section
variable {κ : Type} [DecidableEq κ]
def known (f : Nat → κ) : Nat → List κ
  | 0 => []
  | s + 1 => if f s ∈ known f s then known f s else known f s ++ [f s]
def num (f : Nat → κ) (n s : Nat) : Nat := (known f n).idxOf (f s)
end
def tgt (K : List Int) (x : Int) : Int := if 0 ≤ x then at1 K x.toNat else -1
def key (N : List (List Int)) (R K : List Int) (s : Nat) : List Int := at1 K s :: at1 R s :: (N.getD s []).map (tgt K)
def next (N : List (List Int)) (R K : List Int) : List Int := (List.range N.length).map fun s => ((num (key N R K) N.length s : Nat) : Int)
structure Rnd (N : List (List Int)) (R : List Int) (w : Nat) (K : List Int) (c : Nat) : Prop where
  len : K.length = N.length
  same : ∀ s u, s < N.length → u < N.length → Sim N R N R w s u → at1 K s = at1 K u
  nn : ∀ s, s < N.length → 0 ≤ at1 K s
  all : ∀ v, v < c → ∃ s, s < N.length ∧ at1 K s = (v : Int)
end Go.AM.Mini
namespace Go.AM.Mini
def lstep (kf : Nat → Int) (x : Int) (fr : List Nat) : Int × List Nat :=
  if x < 0 then (-1, fr) else if kf x.toNat ∈ fr.map kf then ((((fr.map kf).idxOf (kf x.toNat) : Nat) : Int), fr) else ((fr.length : Int), fr ++ [x.toNat])
def lrow (kf : Nat → Int) : List Int → List Nat → List Int × List Nat
  | [], fr => ([], fr)
  | x :: xs, fr => ((lstep kf x fr).1 :: (lrow kf xs (lstep kf x fr).2).1, (lrow kf xs (lstep kf x fr).2).2)
def liter (N : List (List Int)) (kf : Nat → Int) : Nat → List Nat × List (List Int)
  | 0 => ([0], [])
  | i + 1 => ((lrow kf (N.getD ((liter N kf i).1.getD i 0) []) (liter N kf i).1).2, (liter N kf i).2 ++ [(lrow kf (N.getD ((liter N kf i).1.getD i 0) []) (liter N kf i).1).1])
inductive Come (N : List (List Int)) (w : Nat) : Nat → Prop where
  | zero : Come N w 0
  | step {s t : Nat} : Come N w s → t < w → 0 ≤ at2 N s t → Come N w (at2 N s t).toNat
structure Fr (N : List (List Int)) (w : Nat) (kf : Nat → Int) (fr : List Nat) : Prop where
  zero : ∃ r, fr = 0 :: r
  lt : ∀ s, s ∈ fr → s < N.length
  nd : (fr.map kf).Nodup
  come : ∀ s, s ∈ fr → Come N w s
def Means (kf : Nat → Int) (x : Int) (fr : List Nat) (y : Int) : Prop :=
  (x < 0 → y = -1) ∧ (0 ≤ x → ∃ j : Nat, y = (j : Int) ∧ ∃ s, fr[j]? = some s ∧ kf s = kf x.toNat)
structure Lt (N : List (List Int)) (w : Nat) (kf : Nat → Int) (i : Nat) (fr : List Nat) (rows : List (List Int)) : Prop where
  st : Fr N w kf fr
  len : rows.length = i
  le : i ≤ fr.length
  wd : ∀ j, j < i → (rows.getD j []).length = w
  mean : ∀ j, j < i → ∀ t, t < w → Means kf (at2 N (fr.getD j 0) t) fr (at2 rows j t)
section
variable {N : List (List Int)} {R : List Int} {w : Nat} {kf : Nat → Int} {fr : List Nat} {rows : List (List Int)}
def rls (R : List Int) (fr : List Nat) : List Int := fr.map (at1 R)
end
end Go.AM.Mini
namespace Go.AM.Mini
structure Iso (N : List (List Int)) (R : List Int) (N' : List (List Int)) (R' : List Int) (w : Nat) (π : Nat → Nat) : Prop where
  len : N'.length = N.length
  zero : π 0 = 0
  lt : ∀ s, s < N.length → π s < N.length
  rule : ∀ s, s < N.length → at1 R' (π s) = at1 R s
  to : ∀ s, s < N.length → ∀ t, t < w → (at2 N s t < 0 ∧ at2 N' (π s) t < 0) ∨ (0 ≤ at2 N s t ∧ at2 N' (π s) t = ((π (at2 N s t).toNat : Nat) : Int))
section
variable {N N' : List (List Int)} {R R' : List Int} {w : Nat} {π : Nat → Nat} {kf kg : Nat → Int}
structure Least (N : List (List Int)) (R : List Int) (w : Nat) (M : List (List Int)) (Q : List Int) : Prop where
  ex : ∃ (kf : Nat → Int) (m : Nat), (∀ s u, s < N.length → u < N.length → (kf s = kf u ↔ Sim N R N R w s u)) ∧ (∀ j, j < m → j < (liter N kf j).1.length) ∧ (liter N kf m).1.length = m ∧ M = (liter N kf m).2 ∧ Q = rls R (liter N kf m).1
end
end Go.AM.Mini
namespace Go.AM.Mini
end Go.AM.Mini
namespace Go.AM
open Go.RowKit
section
variable {κ : Type} [DecidableEq κ]
structure GK (P : Program) (kt : TypeId) (enc : κ → Value) (good : κ → Prop) : Prop where
  wide : wideK P kt = true
  ok : ∀ k, good k → flat (enc k) = true ∧ (keyOf P kt (enc k)).isSome = true
  inj : ∀ a b, good a → good b → enc a = enc b → a = b
variable {P : Program} {kt : TypeId} {enc : κ → Value} {good : κ → Prop}
theorem GK.veq (h : GK P kt enc good) {a b : κ} (ha : good a) (hb : good b) : veq (enc a) (enc b) = decide (a = b) := by
  by_cases e : a = b
  · subst e
    rw [decide_eq_true rfl]
    exact veq_self h.wide (h.ok a ha).2
  · rw [decide_eq_false e]
    cases hv : Go.AM.veq (enc a) (enc b) with
    | false => rfl
    | true => exact absurd (h.inj a b ha hb (veq_eq hv)) e
end
theorem gkI {P : Program} {kt : TypeId} (h : P.underlying kt = some (.int .i64)) : GK P kt (Value.int .i64) inI where
  wide := by unfold wideK baseK; rw [h]; simp
  ok := fun k hk => ⟨rfl, by
    have : (Lit.int .i64 k).wf = true := by
      unfold inI at hk
      simp [Lit.wf, IntKind.min, IntKind.max, IntKind.signed, IntKind.bits]; omega
    simp [keyOf, h, mapKey, this]⟩
  inj := fun a b _ _ e => by cases e; rfl
end Go.AM
namespace Go.AM
open Go.RowKit
section
variable {κ : Type} [DecidableEq κ]
variable {P : Program} {kt : TypeId} {enc : κ → Value} {good : κ → Prop}
end
end Go.AM
namespace Go.AM
open Go.RowKit
theorem aop_insert {P : Program} {n : Nat} {H : Heap} {ρ : Operand → Value} {d : Option Nat} {t : TypeId} {m k x : Operand} {ty : TypeId} {p : String} {af : Array Edge} {gd : Option (Nat × Bool)} :
    aop P ρ n H ⟨d, .insert t m k x, ty, p, af, gd⟩ = amapset P t H (ρ m) (ρ k) (ρ x) := rfl
theorem nodup_bnd {l : List Nat} (hn : l.Nodup) {k : Nat} (h : ∀ x, x ∈ l → x ≤ k) : l.length ≤ k + 1 := by
  have sub : ∀ {l m : List Nat}, l.Nodup → (∀ x, x ∈ l → x ∈ m) → l.length ≤ m.length := by
    intro l
    induction l with
    | nil => intro m _ _; exact Nat.zero_le _
    | cons a l ih =>
      intro m hl hs
      have ha := hs a (List.mem_cons_self ..)
      have h1 : (m.erase a).length + 1 = m.length := by rw [List.length_erase_of_mem ha]; have := List.length_pos_of_mem ha; omega
      have := ih (m := m.erase a) (List.nodup_cons.1 hl).2 fun x hx => by
        refine (List.mem_erase_of_ne ?_).2 (hs x (List.mem_cons_of_mem _ hx))
        rintro rfl
        exact (List.nodup_cons.1 hl).1 hx
      rw [List.length_cons]
      omega
  have := sub hn (m := List.range (k + 1)) fun x hx => List.mem_range.2 (by have := h x hx; omega)
  simpa using this
section
variable {κ : Type} [DecidableEq κ]
def vE (enc : κ → Value) (val : κ → Value) : List κ → Nat → List MapEntry
  | [], _ => []
  | k :: ks, j => ⟨enc k, val k, j⟩ :: vE enc val ks (j + 1)
theorem vE_congr (enc : κ → Value) {val val' : κ → Value} : ∀ (ks : List κ) (j : Nat), (∀ k, k ∈ ks → val k = val' k) → vE enc val ks j = vE enc val' ks j
  | [], _, _ => rfl
  | k :: ks, j, h => by
    show _ :: vE enc val ks (j + 1) = _ :: vE enc val' ks (j + 1)
    rw [h k (List.mem_cons_self ..), vE_congr enc ks (j + 1) fun a ha => h a (List.mem_cons_of_mem _ ha)]
theorem vE_len (enc : κ → Value) (val : κ → Value) : ∀ (ks : List κ) (j : Nat), (vE enc val ks j).length = ks.length
  | [], _ => rfl
  | _ :: ks, j => by simp [vE, vE_len enc val ks]
theorem vE_snoc (enc : κ → Value) (val : κ → Value) (k : κ) : ∀ (ks : List κ) (j : Nat), vE enc val (ks ++ [k]) j = vE enc val ks j ++ [⟨enc k, val k, j + ks.length⟩]
  | [], j => rfl
  | a :: ks, j => by
    show _ :: vE enc val (ks ++ [k]) (j + 1) = _
    rw [vE_snoc enc val k ks]
    simp [vE, Nat.add_assoc, Nat.add_comm 1]
theorem vE_at (enc : κ → Value) (val : κ → Value) : ∀ (ks : List κ) (j i : Nat), (vE enc val ks j)[i]? = ks[i]?.map fun k => ⟨enc k, val k, j + i⟩
  | [], _, _ => rfl
  | a :: ks, j, 0 => rfl
  | a :: ks, j, i + 1 => by
    show (vE enc val ks (j + 1))[i]? = _
    rw [vE_at enc val ks]
    simp [Nat.add_assoc, Nat.add_comm 1]
theorem vE_mem {enc : κ → Value} {val : κ → Value} {ks : List κ} {e : MapEntry} (h : e ∈ vE enc val ks 0) : ∃ i k, ks[i]? = some k ∧ e = ⟨enc k, val k, i⟩ := by
  obtain ⟨i, hi, rfl⟩ := List.getElem_of_mem h
  have hl : i < ks.length := by rwa [vE_len] at hi
  have h1 := vE_at enc val ks 0 i
  rw [List.getElem?_eq_getElem hi, List.getElem?_eq_getElem hl] at h1
  exact ⟨i, ks[i], List.getElem?_eq_getElem hl, by simpa using h1⟩
theorem vE_in {enc : κ → Value} {val : κ → Value} {ks : List κ} {i : Nat} {k : κ} (h : ks[i]? = some k) : (⟨enc k, val k, i⟩ : MapEntry) ∈ vE enc val ks 0 := by
  have h1 := vE_at enc val ks 0 i
  rw [h] at h1
  exact List.mem_of_getElem? (by simpa using h1)
theorem vE_born (enc : κ → Value) (val : κ → Value) : ∀ (ks : List κ) (j : Nat), (vE enc val ks j).map (·.born) = List.range' j ks.length
  | [], _ => rfl
  | k :: ks, j => by
    show j :: (vE enc val ks (j + 1)).map (·.born) = _
    rw [vE_born enc val ks, List.length_cons, List.range'_succ]
theorem vE_nodup (enc : κ → Value) (val : κ → Value) (ks : List κ) : ((vE enc val ks 0).map (·.born)).Nodup := by
  rw [vE_born]
  exact List.nodup_range'
theorem vE_lt {enc : κ → Value} {val : κ → Value} {ks : List κ} : ∀ e ∈ vE enc val ks 0, e.born < ks.length := fun e he => by
  obtain ⟨i, k, h, rfl⟩ := vE_mem he
  exact (List.getElem?_eq_some_iff.1 h).1
variable {P : Program} {kt : TypeId} {enc : κ → Value} {val : κ → Value} {good : κ → Prop}
theorem GK.vidx (h : GK P kt enc good) {k : κ} (hk : good k) : ∀ (ks : List κ) (j : Nat), (∀ a, a ∈ ks → good a) → ((vE enc val ks j).findIdx? fun e => Go.AM.veq e.key (enc k)) = if k ∈ ks then some (ks.idxOf k) else none
  | [], _, _ => rfl
  | a :: ks, j, hg => by
    show (List.findIdx? _ (_ :: vE enc val ks (j + 1))) = _
    rw [List.findIdx?_cons]
    show (if Go.AM.veq (enc a) (enc k) = true then some 0 else Option.map (fun i => i + 1) (List.findIdx? _ (vE enc val ks (j + 1)))) = _
    rw [h.veq (hg a (List.mem_cons_self ..)) hk, h.vidx hk ks (j + 1) fun b hb => hg b (List.mem_cons_of_mem _ hb)]
    by_cases e : a = k
    · subst e; simp
    · have e' : ¬ k = a := fun x => e x.symm
      have : (a == k) = false := by simpa using e
      simp only [decide_eq_false e, List.mem_cons, e', false_or, List.idxOf_cons, this, cond_false]
      by_cases hm : k ∈ ks <;> simp [hm]
theorem GK.vfind (h : GK P kt enc good) {k : κ} (hk : good k) {ks : List κ} (hg : ∀ a, a ∈ ks → good a) : afind P kt (enc k) (vE enc val ks 0) = some (if k ∈ ks then some (ks.idxOf k) else none) := by
  unfold afind
  rw [if_pos ⟨h.wide, (h.ok k hk).1, (h.ok k hk).2⟩, h.vidx hk ks 0 hg]
theorem idx_at {ks : List κ} {k : κ} (hm : k ∈ ks) : ks[ks.idxOf k]? = some k := by
  have hl : ks.idxOf k < ks.length := List.idxOf_lt_length_of_mem hm
  rw [List.getElem?_eq_getElem hl, List.getElem_idxOf hl]
theorem GK.vyes (h : GK P kt enc good) {k : κ} (hk : good k) {ks : List κ} (hg : ∀ a, a ∈ ks → good a) (hm : k ∈ ks) {H : Heap} {y c : Nat} {t et : TypeId} (ht : P.underlying t = some (.map kt et)) (hy : H y = .map (vE enc val ks 0) c kt) (ok : Bool) :
    alookup P t H (.map (some y)) (enc k) ok = some { v := if ok then .tuple #[val k, .bool true] else val k, rd := [y] } := by
  unfold alookup
  simp only [ht, hy, if_true, h.vfind hk hg, hm, vE_at, idx_at hm, Option.map_some, Nat.zero_add]
theorem GK.vno (h : GK P kt enc good) {k : κ} (hk : good k) {ks : List κ} (hg : ∀ a, a ∈ ks → good a) (hm : k ∉ ks) {H : Heap} {y c : Nat} {t et : TypeId} (ht : P.underlying t = some (.map kt et)) {z : Value} (hz : (P.info? et).bind (·.zero) = some z) (hs : still z = true)
    (hy : H y = .map (vE enc val ks 0) c kt) (ok : Bool) :
    alookup P t H (.map (some y)) (enc k) ok = some { v := if ok then .tuple #[z, .bool false] else z, rd := [y] } := by
  unfold alookup
  simp only [ht, hy, if_true, h.vfind hk hg, hm, if_false, hz, hs]
theorem GK.vput (h : GK P kt enc good) {k : κ} (hk : good k) {ks : List κ} (hg : ∀ a, a ∈ ks → good a) (hm : k ∉ ks) {H : Heap} {y : Nat} {t et : TypeId} (ht : P.underlying t = some (.map kt et)) (hy : H y = .map (vE enc val ks 0) ks.length kt) {val' : κ → Value}
    (hv : ∀ a, a ∈ ks → val a = val' a) : amapset P t H (.map (some y)) (enc k) (val' k) = some { v := undef, wr := some (y, .map (vE enc val' (ks ++ [k]) 0) (ks ++ [k]).length kt) } := by
  unfold amapset
  simp only [ht, hy, if_true, h.vfind hk hg, hm, if_false, vE_snoc, Nat.zero_add, List.length_append, List.length_singleton]
  rw [vE_congr enc ks 0 hv]
theorem GK.vsame (h : GK P kt enc good) {k : κ} (hk : good k) {ks : List κ} (hg : ∀ a, a ∈ ks → good a) (hm : k ∈ ks) {H : Heap} {y : Nat} {t et : TypeId} (ht : P.underlying t = some (.map kt et)) (hy : H y = .map (vE enc val ks 0) ks.length kt) :
    amapset P t H (.map (some y)) (enc k) (val k) = some { v := undef, wr := some (y, .map (vE enc val ks 0) ks.length kt) } := by
  have e : ((vE enc val ks 0).modify (ks.idxOf k) fun e => { e with val := val k }) = vE enc val ks 0 := by
    apply List.ext_getElem?
    intro q
    rw [List.getElem?_modify]
    by_cases hq : ks.idxOf k = q
    · subst hq
      rw [vE_at, idx_at hm]
      simp
    · simp [hq]
  unfold amapset
  simp only [ht, hy, if_true, h.vfind hk hg, hm, e]
end
end Go.AM
namespace Go.AM.Fo
variable {g : Gram}
theorem rgF_eq {i : Nat} (h : i < g.rules.length) : rgt g i = g.rules[i].right := by unfold rgt; rw [List.getElem?_eq_getElem h]; rfl
theorem lfF_eq {i : Nat} (h : i < g.rules.length) : lft g i = g.rules[i].left := by unfold lft; rw [List.getElem?_eq_getElem h]; rfl
inductive Dv (g : Gram) : List Int → List Int → List Int → Prop
  | nil : Dv g [] [] []
  | term {s : Int} {l d w : List Int} (h : s < 0) (k : Dv g l d w) : Dv g (s :: l) d ((-s - 1) :: w)
  | var {i : Nat} {l d1 d2 w1 w2 : List Int} (h : i < g.rules.length) (x : Dv g (rgt g i) d1 w1) (k : Dv g l d2 w2) : Dv g (lft g i :: l) ((i : Int) :: (d1 ++ d2)) (w1 ++ w2)
theorem Dv.one {i : Nat} {d w : List Int} (h : i < g.rules.length) (x : Dv g (rgt g i) d w) : Dv g [lft g i] ((i : Int) :: d) w := by
  have := Dv.var h x .nil
  simpa using this
theorem Dv.append {a b d e u v : List Int} (h : Dv g a d u) (k : Dv g b e v) : Dv g (a ++ b) (d ++ e) (u ++ v) := by
  induction h with
  | nil => exact k
  | term h _ ih => exact .term h ih
  | @var i l d1 d2 w1 w2 h x _ _ ih =>
    rw [List.cons_append, List.append_assoc, List.cons_append, List.append_assoc]
    exact .var h x ih
theorem Dv.pos (hg : InG g) {l d w : List Int} (h : Dv g l d w) : ∀ t ∈ w, 0 ≤ t := by
  induction h with
  | nil => intro t ht; cases ht
  | term h _ ih =>
    intro t ht
    rcases List.mem_cons.1 ht with rfl | ht
    · omega
    · exact ih t ht
  | var h _ _ ih1 ih2 =>
    intro t ht
    rcases List.mem_append.1 ht with ht | ht
    · exact ih1 t ht
    · exact ih2 t ht
theorem lft0 (hg : InG g) {i : Nat} (h : i < g.rules.length) : 0 ≤ lft g i := by rw [lfF_eq h]; exact hg.left0 _ (List.getElem_mem h)
theorem Dv.var_inv {v : Int} {l d w : List Int} (h0 : 0 ≤ v) (h : Dv g (v :: l) d w) : ∃ (i : Nat) (d1 d2 w1 w2 : List Int), i < g.rules.length ∧ lft g i = v ∧ d = (i : Int) :: (d1 ++ d2) ∧ w = w1 ++ w2 ∧ Dv g (rgt g i) d1 w1 ∧ Dv g l d2 w2 := by
  generalize hl : v :: l = L at h
  cases h with
  | nil => cases hl
  | term h _ => cases hl; omega
  | @var i _ d1 d2 w1 w2 h x k => cases hl; exact ⟨i, d1, d2, w1, w2, h, rfl, rfl, rfl, x, k⟩
theorem Dv.nil_inv {d w : List Int} (h : Dv g [] d w) : d = [] ∧ w = [] := by
  generalize hl : ([] : List Int) = L at h
  cases h with
  | nil => exact ⟨rfl, rfl⟩
  | term => cases hl
  | var => cases hl
theorem Dv.term_inv {s : Int} {l d w : List Int} (hs : s < 0) (hg : InG g) (h : Dv g (s :: l) d w) : ∃ w', w = (-s - 1) :: w' ∧ Dv g l d w' := by
  generalize hl : s :: l = L at h
  cases h with
  | nil => cases hl
  | term _ k => cases hl; exact ⟨_, rfl, k⟩
  | var h _ _ => cases hl; have := lft0 hg h; omega
theorem Dv.one_inv {v : Int} {d w : List Int} (h0 : 0 ≤ v) (h : Dv g [v] d w) : ∃ (i : Nat) (e : List Int), i < g.rules.length ∧ lft g i = v ∧ d = (i : Int) :: e ∧ Dv g (rgt g i) e w := by
  obtain ⟨i, d1, d2, w1, w2, h1, h2, rfl, rfl, h3, h4⟩ := h.var_inv h0
  obtain ⟨rfl, rfl⟩ := h4.nil_inv
  exact ⟨i, d1, h1, h2, by simp, by simpa using h3⟩
theorem Dv.pre (hg : InG g) {l d w : List Int} (h : Dv g l d w) : ∀ {d' w' x x' : List Int}, Dv g l d' w' → d ++ x = d' ++ x' → d = d' ∧ w = w' := by
  induction h with
  | nil => intro d' w' x x' h' e; obtain ⟨rfl, rfl⟩ := h'.nil_inv; exact ⟨rfl, rfl⟩
  | term h _ ih =>
    intro d' w' x x' h' e
    obtain ⟨w2, rfl, k⟩ := h'.term_inv h hg
    obtain ⟨rfl, rfl⟩ := ih k e
    exact ⟨rfl, rfl⟩
  | @var i l d1 d2 w1 w2 h _ _ ih1 ih2 =>
    intro d' w' x x' h' e
    obtain ⟨j, e1, e2, u1, u2, hj, hl, rfl, rfl, k1, k2⟩ := h'.var_inv (lft0 hg h)
    simp only [List.cons_append, List.cons.injEq, List.append_assoc] at e
    obtain ⟨eij, e⟩ := e
    obtain rfl : i = j := by omega
    obtain ⟨rfl, rfl⟩ := ih1 k1 e
    obtain ⟨rfl, rfl⟩ := ih2 k2 (List.append_cancel_left e)
    exact ⟨rfl, rfl⟩
def trm (w : List Int) : List Int := w.map fun t => -t - 1
theorem trm_trm (w : List Int) : trm (trm w) = w := by
  unfold trm
  rw [List.map_map]
  conv => rhs; rw [← List.map_id w]
  apply List.map_congr_left
  intro t _
  simp only [Function.comp, id]
  omega
theorem trm_neg {w : List Int} (h : ∀ t ∈ w, 0 ≤ t) : ∀ s ∈ trm w, s < 0 := by
  intro s hs
  obtain ⟨t, ht, rfl⟩ := List.mem_map.1 hs
  have := h t ht
  show -t - 1 < 0
  omega
theorem Dv.replay (hg : InG g) {l d w : List Int} (h : Dv g l d w) : ∀ (t F rest : List Int) (k : Nat), (∀ s ∈ t, s < 0) → replayS g (t ++ l ++ F) (d ++ rest) k = replayS g (t ++ trm w ++ F) rest (k + d.length) := by
  induction h with
  | nil => intro t F rest k _; rfl
  | @term s l d w hs _ ih =>
    intro t F rest k ht
    have := ih (t ++ [s]) F rest k (fun x hx => by
      rcases List.mem_append.1 hx with hx | hx
      · exact ht x hx
      · have : x = s := by simpa using hx
        omega)
    have e : trm ((-s - 1) :: w) = s :: trm w := by unfold trm; rw [List.map_cons]; congr 1; omega
    rw [e]
    simpa using this
  | @var i l d1 d2 w1 w2 hi x _ ih1 ih2 =>
    intro t F rest k ht
    have e1 : t ++ (lft g i :: l) ++ F = t ++ g.rules[i].left :: (l ++ F) := by rw [lfF_eq hi]; simp
    have e2 : ((i : Int) :: (d1 ++ d2)) ++ rest = (i : Int) :: (d1 ++ (d2 ++ rest)) := by simp
    have hs := step_at hg ht hi (rest := l ++ F)
    rw [e1, e2]
    simp only [replayS, hs, if_true]
    rw [← rgF_eq hi, ih1 t (l ++ F) (d2 ++ rest) (k + 1) ht]
    have hw1 := trm_neg (x.pos hg)
    have := ih2 (t ++ trm w1) F rest (k + 1 + d1.length) (fun s hs => by
      rcases List.mem_append.1 hs with hs | hs
      · exact ht s hs
      · exact hw1 s hs)
    have e3 : t ++ trm w1 ++ (l ++ F) = t ++ trm w1 ++ l ++ F := by simp
    have e4 : t ++ trm (w1 ++ w2) ++ F = t ++ trm w1 ++ trm w2 ++ F := by unfold trm; simp
    rw [e3, this, e4]
    congr 1
    simp; omega
abbrev Nd := Int × Nat × Nat
abbrev Way := Nat × List Nat
def sub (w : List Int) (a b : Nat) : List Int := (w.drop a).take (b - a)
theorem sub_len {w : List Int} {a b : Nat} (h1 : a ≤ b) (h2 : b ≤ w.length) : (sub w a b).length = b - a := by unfold sub; simp; omega
theorem sub_nil (w : List Int) (a : Nat) : sub w a a = [] := by unfold sub; simp
theorem sub_append {w : List Int} {a c b : Nat} (h1 : a ≤ c) (h2 : c ≤ b) : sub w a c ++ sub w c b = sub w a b := by
  unfold sub
  have e : w.drop c = (w.drop a).drop (c - a) := by rw [List.drop_drop]; congr 1; omega
  rw [e, show b - a = (c - a) + (b - c) by omega, List.take_add]
theorem sub_cons {w : List Int} {a b : Nat} (h1 : a < b) (h2 : b ≤ w.length) : sub w a b = w.getD a 0 :: sub w (a + 1) b := by
  have h3 : a < w.length := by omega
  unfold sub
  rw [List.drop_eq_getElem_cons h3, show b - a = (b - (a + 1)) + 1 by omega, List.take_succ_cons]
  simp [List.getD, List.getElem?_eq_getElem h3]
theorem sub_all (w : List Int) : sub w 0 w.length = w := by unfold sub; simp
def fit (w : List Int) (rd : Nd → Nat) (ah : Nat) (s : Int) (a b : Nat) : Bool :=
  if 0 ≤ s then decide (0 < rd (s, a, b)) && (decide (ah = 0) || decide (rd (s, a, b) < ah)) else decide (b = a + 1) && decide (w.getD a 0 = -s - 1)
def Seg (w : List Int) (rd : Nd → Nat) (ah : Nat) : List Int → Nat → List Nat → Nat → Prop
  | [], a, [], b => a = b
  | s :: ss, a, c :: cs, b => a ≤ c ∧ fit w rd ah s a c = true ∧ Seg w rd ah ss c cs b
  | _, _, _, _ => False
theorem Seg.le {w : List Int} {rd : Nd → Nat} {ah : Nat} : ∀ {ss : List Int} {a : Nat} {cs : List Nat} {b : Nat}, Seg w rd ah ss a cs b → a ≤ b
  | [], a, [], b, h => Nat.le_of_eq h
  | [], a, _ :: _, b, h => h.elim
  | _ :: _, a, [], b, h => h.elim
  | s :: ss, a, c :: cs, b, h => Nat.le_trans h.1 (Seg.le h.2.2)
theorem Seg.len {w : List Int} {rd : Nd → Nat} {ah : Nat} : ∀ {ss : List Int} {a : Nat} {cs : List Nat} {b : Nat}, Seg w rd ah ss a cs b → cs.length = ss.length
  | [], a, [], b, h => rfl
  | [], a, _ :: _, b, h => h.elim
  | _ :: _, a, [], b, h => h.elim
  | s :: ss, a, c :: cs, b, h => by rw [List.length_cons, List.length_cons, Seg.len h.2.2]
theorem fit_weak {w : List Int} {rd : Nd → Nat} {ah : Nat} {s : Int} {a b : Nat} (h : fit w rd ah s a b = true) : fit w rd 0 s a b = true := by
  unfold fit at h ⊢
  split
  · rename_i hs; rw [if_pos hs] at h; simp at h ⊢; exact h.1
  · rename_i hs; rw [if_neg hs] at h; exact h
theorem Seg.weak {w : List Int} {rd : Nd → Nat} {ah : Nat} : ∀ {ss : List Int} {a : Nat} {cs : List Nat} {b : Nat}, Seg w rd ah ss a cs b → Seg w rd 0 ss a cs b
  | [], a, [], b, h => h
  | [], a, _ :: _, b, h => h.elim
  | _ :: _, a, [], b, h => h.elim
  | s :: ss, a, c :: cs, b, h => ⟨h.1, fit_weak h.2.1, Seg.weak h.2.2⟩
def enum (w : List Int) (rd : Nd → Nat) (ah : Nat) : List Int → Nat → Nat → List (List Nat)
  | [], a, b => if a = b then [[]] else []
  | s :: ss, a, b => (List.range' a (b + 1 - a)).flatMap fun c => if fit w rd ah s a c = true then (enum w rd ah ss c b).map (c :: ·) else []
theorem mem_enum {w : List Int} {rd : Nd → Nat} {ah : Nat} : ∀ {ss : List Int} {a b : Nat} {cs : List Nat}, cs ∈ enum w rd ah ss a b ↔ Seg w rd ah ss a cs b
  | [], a, b, cs => by
    unfold enum
    by_cases e : a = b
    · rw [if_pos e]
      cases cs with
      | nil => simp [Seg, e]
      | cons => simp [Seg]
    · rw [if_neg e]
      cases cs with
      | nil => simp [Seg, e]
      | cons => simp [Seg]
  | s :: ss, a, b, cs => by
    unfold enum
    rw [List.mem_flatMap]
    constructor
    · rintro ⟨c, hc, h⟩
      split at h
      · rename_i hf
        obtain ⟨ds, hd, rfl⟩ := List.mem_map.1 h
        have := List.mem_range'.1 hc
        obtain ⟨i, hi, rfl⟩ := this
        exact ⟨by omega, hf, mem_enum.1 hd⟩
      · cases h
    · intro h
      cases cs with
      | nil => exact h.elim
      | cons c cs =>
        have h1 := h.1
        have h2 := Seg.le h.2.2
        refine ⟨c, List.mem_range'.2 ⟨c - a, by omega, by omega⟩, ?_⟩
        rw [if_pos h.2.1]
        exact List.mem_map.2 ⟨cs, mem_enum.2 h.2.2, rfl⟩
theorem enum_nodup {w : List Int} {rd : Nd → Nat} {ah : Nat} : ∀ (ss : List Int) (a b : Nat), (enum w rd ah ss a b).Nodup
  | [], a, b => by unfold enum; split <;> simp
  | s :: ss, a, b => by
    unfold enum
    rw [List.nodup_iff_pairwise_ne, List.pairwise_flatMap]
    refine ⟨fun c _ => ?_, ?_⟩
    · split
      · rw [List.pairwise_map]
        exact (List.nodup_iff_pairwise_ne.1 (enum_nodup ss c b)).imp fun h e => h (List.cons.inj e).2
      · exact .nil
    · have := List.pairwise_lt_range' (s := a) (n := b + 1 - a)
      refine this.imp fun {c d} hcd x hx y hy e => ?_
      split at hx
      · split at hy
        · obtain ⟨_, _, rfl⟩ := List.mem_map.1 hx
          obtain ⟨_, _, rfl⟩ := List.mem_map.1 hy
          have := (List.cons.inj e).1
          omega
        · cases hy
      · cases hx
def ofv (g : Gram) (v : Int) : List Nat := (List.range g.rules.length).filter fun r => decide (lft g r = v)
def waysL (g : Gram) (w : List Int) (rd : Nd → Nat) (ah : Nat) (x : Nd) : List Way := (ofv g x.1).flatMap fun r => (enum w rd ah (rgt g r) x.2.1 x.2.2).map fun cs => (r, cs)
theorem mem_ways {w : List Int} {rd : Nd → Nat} {ah : Nat} {x : Nd} {y : Way} : y ∈ waysL g w rd ah x ↔ y.1 < g.rules.length ∧ lft g y.1 = x.1 ∧ Seg w rd ah (rgt g y.1) x.2.1 y.2 x.2.2 := by
  unfold waysL ofv
  rw [List.mem_flatMap]
  constructor
  · rintro ⟨r, hr, h⟩
    obtain ⟨cs, hc, rfl⟩ := List.mem_map.1 h
    obtain ⟨h1, h2⟩ := List.mem_filter.1 hr
    exact ⟨List.mem_range.1 h1, of_decide_eq_true h2, mem_enum.1 hc⟩
  · rintro ⟨h1, h2, h3⟩
    exact ⟨y.1, List.mem_filter.2 ⟨List.mem_range.2 h1, decide_eq_true h2⟩, List.mem_map.2 ⟨y.2, mem_enum.2 h3, rfl⟩⟩
theorem ways_nodup (w : List Int) (rd : Nd → Nat) (ah : Nat) (x : Nd) : (waysL g w rd ah x).Nodup := by
  unfold waysL
  rw [List.nodup_iff_pairwise_ne, List.pairwise_flatMap]
  refine ⟨fun r _ => ?_, ?_⟩
  · rw [List.pairwise_map]
    exact (List.nodup_iff_pairwise_ne.1 (enum_nodup _ _ _)).imp fun h e => h (Prod.mk.inj e).2
  · have : (ofv g x.1).Pairwise (· < ·) := List.Pairwise.filter _ List.pairwise_lt_range
    refine this.imp fun {c d} hcd p hp q hq e => ?_
    obtain ⟨_, _, rfl⟩ := List.mem_map.1 hp
    obtain ⟨_, _, rfl⟩ := List.mem_map.1 hq
    have := (Prod.mk.inj e).1
    omega
structure FoOK (g : Gram) (w : List Int) (rd : Nd → Nat) : Prop where
  val : ∀ x, rd x ≠ 0 → 0 ≤ x.1 ∧ x.2.1 ≤ x.2.2 ∧ x.2.2 ≤ w.length
  sound : ∀ x, rd x ≠ 0 → ∃ y, y ∈ waysL g w rd (rd x) x
  compl : ∀ x y, x.2.1 ≤ x.2.2 → x.2.2 ≤ w.length → y ∈ waysL g w rd 0 x → rd x ≠ 0
inductive DvL (g : Gram) (w : List Int) : List Int → Nat → List Nat → List Int → Prop
  | nil (a : Nat) : DvL g w [] a [] []
  | term {s : Int} {ss : List Int} {a c : Nat} {cs : List Nat} {d : List Int} (h : s < 0) (k : DvL g w ss c cs d) : DvL g w (s :: ss) a (c :: cs) d
  | var {s : Int} {ss : List Int} {a c : Nat} {cs : List Nat} {d1 d2 : List Int} (h : 0 ≤ s) (x : Dv g [s] d1 (sub w a c)) (k : DvL g w ss c cs d2) : DvL g w (s :: ss) a (c :: cs) (d1 ++ d2)
theorem DvL.dv {w : List Int} {rd : Nd → Nat} {ah : Nat} {ss : List Int} {a : Nat} {cs : List Nat} {d : List Int} (h : DvL g w ss a cs d) : ∀ {b : Nat}, b ≤ w.length → Seg w rd ah ss a cs b → Dv g ss d (sub w a b) := by
  induction h with
  | nil a => intro b hb hs; have : a = b := hs; subst this; rw [sub_nil]; exact .nil
  | @term s ss a c cs d h _ ih =>
    intro b hb hs
    obtain ⟨h1, h2, h3⟩ := hs
    have hcb := Seg.le h3
    unfold fit at h2
    rw [if_neg (by omega)] at h2
    simp only [Bool.and_eq_true, decide_eq_true_eq] at h2
    obtain ⟨rfl, h4⟩ := h2
    rw [sub_cons (by omega) hb, h4]
    exact .term h (ih hb h3)
  | @var s ss a c cs d1 d2 h x _ ih =>
    intro b hb hs
    obtain ⟨h1, h2, h3⟩ := hs
    rw [← sub_append h1 (Seg.le h3)]
    exact x.append (ih hb h3)
theorem FoOK.lay {w : List Int} {rd : Nd → Nat} (fo : FoOK g w rd) (hg : InG g) {l d u : List Int} (h : Dv g l d u) : ∀ {a b : Nat}, a ≤ b → b ≤ w.length → u = sub w a b → ∃ cs, Seg w rd 0 l a cs b ∧ DvL g w l a cs d := by
  induction h with
  | nil =>
    intro a b h1 h2 e
    have := congrArg List.length e
    rw [sub_len h1 h2] at this
    simp at this
    exact ⟨[], by show a = b; omega, .nil a⟩
  | @term s l d u hs _ ih =>
    intro a b h1 h2 e
    have hlt : a < b := by
      have := congrArg List.length e
      rw [sub_len h1 h2] at this
      simp at this
      omega
    rw [sub_cons hlt h2] at e
    obtain ⟨e1, e2⟩ := List.cons.inj e
    obtain ⟨cs, h3, h4⟩ := ih (by omega) h2 e2
    refine ⟨(a + 1) :: cs, ⟨by omega, ?_, h3⟩, .term hs h4⟩
    unfold fit
    rw [if_neg (by omega), ← e1]
    simp
  | @var i l d1 d2 w1 w2 hi x k ih1 ih2 =>
    intro a b h1 h2 e
    have hl := congrArg List.length e
    rw [sub_len h1 h2, List.length_append] at hl
    have hc1 : a ≤ a + w1.length := by omega
    have hc2 : a + w1.length ≤ b := by omega
    rw [← sub_append hc1 hc2] at e
    have hlen : w1.length = (sub w a (a + w1.length)).length := by rw [sub_len hc1 (by omega)]; omega
    obtain ⟨e1, e2⟩ := List.append_inj e hlen
    obtain ⟨cs1, h3, h4⟩ := ih1 hc1 (by omega) e1
    obtain ⟨cs2, h5, h6⟩ := ih2 hc2 h2 e2
    have h0 := lft0 hg hi
    have hrd : rd (lft g i, a, a + w1.length) ≠ 0 := fo.compl (lft g i, a, a + w1.length) (i, cs1) hc1 (by show a + w1.length ≤ w.length; omega) (mem_ways.2 ⟨hi, rfl, h3⟩)
    refine ⟨(a + w1.length) :: cs2, ⟨hc1, ?_, h5⟩, ?_⟩
    · unfold fit
      rw [if_pos h0]
      simp
      omega
    · have hx : Dv g [lft g i] ((i : Int) :: d1) (sub w a (a + w1.length)) := by rw [← e1]; exact .one hi x
      have := DvL.var h0 hx h6
      simpa using this
theorem FoOK.ways {w : List Int} {rd : Nd → Nat} (fo : FoOK g w rd) (hg : InG g) {x : Nd} (h0 : 0 ≤ x.1) (h1 : x.2.1 ≤ x.2.2) (h2 : x.2.2 ≤ w.length) {d : List Int} :
    Dv g [x.1] d (sub w x.2.1 x.2.2) ↔ ∃ y e, y ∈ waysL g w rd 0 x ∧ d = (y.1 : Int) :: e ∧ DvL g w (rgt g y.1) x.2.1 y.2 e := by
  constructor
  · intro h
    obtain ⟨i, e, hi, hl, rfl, h3⟩ := h.one_inv h0
    obtain ⟨cs, h4, h5⟩ := fo.lay hg h3 h1 h2 rfl
    exact ⟨(i, cs), e, mem_ways.2 ⟨hi, hl, h4⟩, rfl, h5⟩
  · rintro ⟨y, e, hy, rfl, h3⟩
    obtain ⟨h4, h5, h6⟩ := mem_ways.1 hy
    rw [← h5]
    exact .one h4 (h3.dv h2 h6)
theorem FoOK.has {w : List Int} {rd : Nd → Nat} (fo : FoOK g w rd) (hg : InG g) {x : Nd} (h0 : 0 ≤ x.1) (h1 : x.2.1 ≤ x.2.2) (h2 : x.2.2 ≤ w.length) {d : List Int} (h : Dv g [x.1] d (sub w x.2.1 x.2.2)) : rd x ≠ 0 := by
  obtain ⟨y, e, hy, _⟩ := (fo.ways hg h0 h1 h2).1 h
  exact fo.compl x y h1 h2 hy
end Go.AM.Fo
namespace Go.AM.Fo
variable {g : Gram} {w : List Int} {rd : Nd → Nat}
def kid1 (s : Int) (a c : Nat) : Nd := (if 0 ≤ s then s else -1, a, c)
def kidsL : List Int → Nat → List Nat → List Nd
  | s :: ss, a, c :: cs => kid1 s a c :: kidsL ss c cs
  | _, _, _ => []
theorem kids_len : ∀ (ss : List Int) (a : Nat) (cs : List Nat), cs.length = ss.length → (kidsL ss a cs).length = ss.length
  | [], _, _, _ => rfl
  | s :: ss, a, [], h => by simp at h
  | s :: ss, a, c :: cs, h => by
    show (kidsL ss c cs).length + 1 = ss.length + 1
    rw [kids_len ss c cs (by simpa using h)]
def partsL (f : Nat → Nd → List Int) : Nat → List Nd → List Int
  | _, [] => []
  | j, y :: ys => f j y ++ partsL f (j + 1) ys
theorem parts_congr {f f' : Nat → Nd → List Int} : ∀ (ys : List Nd) (j : Nat), (∀ i y, ys[i]? = some y → f (j + i) y = f' (j + i) y) → partsL f j ys = partsL f' j ys
  | [], _, _ => rfl
  | y :: ys, j, h => by
    have h1 : f j y = f' j y := h 0 y rfl
    have h2 : partsL f (j + 1) ys = partsL f' (j + 1) ys := parts_congr ys (j + 1) fun i z hz => by
      have := h (i + 1) z (by simpa using hz)
      rwa [show j + (i + 1) = j + 1 + i by omega] at this
    show f j y ++ partsL f (j + 1) ys = f' j y ++ partsL f' (j + 1) ys
    rw [h1, h2]
theorem parts_snoc (f : Nat → Nd → List Int) (y : Nd) : ∀ (ys : List Nd) (j : Nat), partsL f j (ys ++ [y]) = partsL f j ys ++ f (j + ys.length) y
  | [], j => by simp [partsL]
  | z :: ys, j => by
    show f j z ++ partsL f (j + 1) (ys ++ [y]) = (f j z ++ partsL f (j + 1) ys) ++ _
    rw [parts_snoc f y ys, List.append_assoc, List.length_cons, show j + 1 + ys.length = j + (ys.length + 1) by omega]
def plk (g : Gram) (w : List Int) (rd : Nd → Nat) : Nat → Nd → List Int
  | 0, _ => []
  | k + 1, x => match waysL g w rd (rd x) x with
    | [] => []
    | y :: _ => (y.1 : Int) :: partsL (fun _ z => if 0 ≤ z.1 then plk g w rd k z else []) 0 (kidsL (rgt g y.1) x.2.1 y.2)
def pl (g : Gram) (w : List Int) (rd : Nd → Nat) (x : Nd) : List Int := plk g w rd (rd x) x
def byF (g : Gram) (w : List Int) (rd : Nd → Nat) (wh : Int) (own : List Int) (i : Nat) (z : Nd) : List Int := if (i : Int) = wh then own else if 0 ≤ z.1 then pl g w rd z else []
def byL (g : Gram) (w : List Int) (rd : Nd → Nat) (x : Nd) (y : Way) (wh : Int) (own : List Int) : List Int := (y.1 : Int) :: partsL (byF g w rd wh own) 0 (kidsL (rgt g y.1) x.2.1 y.2)
theorem Seg.kid {ah : Nat} : ∀ {ss : List Int} {a : Nat} {cs : List Nat} {b : Nat}, Seg w rd ah ss a cs b → ∀ (i : Nat) (z : Nd), (kidsL ss a cs)[i]? = some z → a ≤ z.2.1 ∧ z.2.1 ≤ z.2.2 ∧ z.2.2 ≤ b ∧
    ((0 ≤ z.1 ∧ ss[i]? = some z.1 ∧ 0 < rd z ∧ (ah = 0 ∨ rd z < ah)) ∨ (z.1 = -1 ∧ z.2.2 = z.2.1 + 1 ∧ ∃ s, ss[i]? = some s ∧ s < 0))
  | [], a, [], b, h, i, z, hz => by simp [kidsL] at hz
  | [], a, _ :: _, b, h, i, z, hz => h.elim
  | _ :: _, a, [], b, h, i, z, hz => h.elim
  | s :: ss, a, c :: cs, b, h, i, z, hz => by
    obtain ⟨h1, h2, h3⟩ := h
    have hcb := Seg.le h3
    cases i with
    | zero =>
      simp [kidsL] at hz
      subst hz
      unfold kid1
      refine ⟨Nat.le_refl _, h1, hcb, ?_⟩
      unfold fit at h2
      by_cases hs : 0 ≤ s
      · rw [if_pos hs] at h2
        simp at h2
        left
        simp only [if_pos hs]
        exact ⟨hs, by simp, h2.1, h2.2⟩
      · rw [if_neg hs] at h2
        simp at h2
        right
        simp only [if_neg hs]
        exact ⟨by simp, h2.1, s, by simp, by omega⟩
    | succ i =>
      have hz' : (kidsL ss c cs)[i]? = some z := by simpa [kidsL] using hz
      obtain ⟨k1, k2, k3, k4⟩ := Seg.kid h3 i z hz'
      refine ⟨by omega, k2, k3, ?_⟩
      rcases k4 with k4 | k4
      · left; simpa using k4
      · right; simpa using k4
theorem plk_eq (hval : ∀ x, rd x ≠ 0 → True) : ∀ (k : Nat) (x : Nd), rd x ≠ 0 → rd x ≤ k → plk g w rd k x = pl g w rd x := by
  intro k
  induction k using Nat.strongRecOn with
  | ind k ih =>
    intro x h0 hk
    obtain ⟨m, hm⟩ : ∃ m, rd x = m + 1 := ⟨rd x - 1, by omega⟩
    obtain ⟨k', rfl⟩ : ∃ k', k = k' + 1 := ⟨k - 1, by omega⟩
    unfold pl
    rw [hm]
    unfold plk
    rw [hm]
    have hmem : ∀ y, y ∈ waysL g w rd (m + 1) x → Seg w rd (m + 1) (rgt g y.1) x.2.1 y.2 x.2.2 := fun y hy => (mem_ways.1 hy).2.2
    cases hL : waysL g w rd (m + 1) x with
    | nil => rfl
    | cons y ys =>
      simp only
      have hs := hmem y (by rw [hL]; exact List.mem_cons_self ..)
      congr 1
      apply parts_congr
      intro i z hz
      obtain ⟨_, _, _, hk4⟩ := Seg.kid hs i z hz
      rcases hk4 with ⟨z0, _, z1, z2⟩ | ⟨z0, _⟩
      · simp only [if_pos z0]
        have hlt : rd z < m + 1 := by omega
        rw [ih k' (by omega) z (by omega) (by omega)]
        by_cases hkm : m < k' + 1
        · rw [ih m (by omega) z (by omega) (by omega)]
        · omega
      · have : ¬ (0 ≤ z.1) := by omega
        simp only [if_neg this]
theorem pl_eq {x : Nd} (h0 : rd x ≠ 0) {y : Way} {ys : List Way} (hL : waysL g w rd (rd x) x = y :: ys) : pl g w rd x = byL g w rd x y (-1) [] := by
  obtain ⟨m, hm⟩ : ∃ m, rd x = m + 1 := ⟨rd x - 1, by omega⟩
  have hs := (mem_ways.1 (show y ∈ waysL g w rd (rd x) x by rw [hL]; exact List.mem_cons_self ..)).2.2
  unfold pl
  rw [hm]
  unfold plk
  rw [hL]
  simp only
  unfold byL
  congr 1
  apply parts_congr
  intro i z hz
  obtain ⟨_, _, _, hk4⟩ := Seg.kid hs i z hz
  unfold byF
  have hne : ¬ (((0 + i : Nat) : Int) = -1) := by omega
  rw [if_neg hne]
  rcases hk4 with ⟨z0, _, z1, z2⟩ | ⟨z0, _⟩
  · rw [if_pos z0, if_pos z0]
    exact plk_eq (fun _ _ => trivial) m z (by omega) (by omega)
  · have h1 : ¬ (0 ≤ z.1) := by omega
    rw [if_neg h1, if_neg h1]
theorem parts_dv {ah : Nat} {f : Nat → Nd → List Int} : ∀ {ss : List Int} {a : Nat} {cs : List Nat} {b : Nat} (j : Nat), Seg w rd ah ss a cs b →
    (∀ i z, (kidsL ss a cs)[i]? = some z → (0 ≤ z.1 → Dv g [z.1] (f (j + i) z) (sub w z.2.1 z.2.2)) ∧ (z.1 < 0 → f (j + i) z = [])) → DvL g w ss a cs (partsL f j (kidsL ss a cs))
  | [], a, [], b, j, h, hf => .nil a
  | [], a, _ :: _, b, j, h, hf => h.elim
  | _ :: _, a, [], b, j, h, hf => h.elim
  | s :: ss, a, c :: cs, b, j, h, hf => by
    obtain ⟨h1, h2, h3⟩ := h
    have hr := parts_dv (f := f) (j + 1) h3 fun i z hz => by
      have := hf (i + 1) z (by simpa [kidsL] using hz)
      rwa [show j + (i + 1) = j + 1 + i by omega] at this
    have hf0 := hf 0 (kid1 s a c) rfl
    rw [Nat.add_zero] at hf0
    obtain ⟨k1, k2⟩ := hf0
    show DvL g w (s :: ss) a (c :: cs) (f j (kid1 s a c) ++ partsL f (j + 1) (kidsL ss c cs))
    unfold kid1 at k1 k2 ⊢
    by_cases hs : 0 ≤ s
    · simp only [if_pos hs] at k1 k2 ⊢
      exact .var hs (k1 hs) hr
    · simp only [if_neg hs] at k1 k2 ⊢
      rw [k2 (by omega)]
      exact .term (by omega) hr
theorem FoOK.pl_dv (fo : FoOK g w rd) (hg : InG g) : ∀ (k : Nat) (x : Nd), rd x ≤ k → rd x ≠ 0 → Dv g [x.1] (pl g w rd x) (sub w x.2.1 x.2.2) := by
  intro k
  induction k with
  | zero => intro x h h0; omega
  | succ k ih =>
    intro x h h0
    obtain ⟨v1, v2, v3⟩ := fo.val x h0
    obtain ⟨y, hy⟩ := fo.sound x h0
    cases hL : waysL g w rd (rd x) x with
    | nil => rw [hL] at hy; cases hy
    | cons y ys =>
      rw [pl_eq h0 hL]
      have hm := mem_ways.1 (show y ∈ waysL g w rd (rd x) x by rw [hL]; exact List.mem_cons_self ..)
      refine (fo.ways hg v1 v2 v3).2 ⟨y, _, mem_ways.2 ⟨hm.1, hm.2.1, hm.2.2.weak⟩, rfl, parts_dv 0 hm.2.2 fun i z hz => ?_⟩
      obtain ⟨_, _, _, hk4⟩ := Seg.kid hm.2.2 i z hz
      unfold byF
      rw [if_neg (by omega)]
      rcases hk4 with ⟨z0, _, z1, z2⟩ | ⟨z0, _⟩
      · exact ⟨fun _ => by rw [if_pos z0]; exact ih z (by omega) (by omega), fun h => by omega⟩
      · exact ⟨fun h => by omega, fun _ => by rw [if_neg (by omega)]⟩
theorem FoOK.by_dv (fo : FoOK g w rd) (hg : InG g) {x : Nd} (h0 : rd x ≠ 0) {y : Way} (hy : y ∈ waysL g w rd 0 x) {wh : Int} {own : List Int}
    (hown : ∀ (i : Nat) z, (i : Int) = wh → (kidsL (rgt g y.1) x.2.1 y.2)[i]? = some z → 0 ≤ z.1 ∧ Dv g [z.1] own (sub w z.2.1 z.2.2)) : Dv g [x.1] (byL g w rd x y wh own) (sub w x.2.1 x.2.2) := by
  obtain ⟨v1, v2, v3⟩ := fo.val x h0
  have hm := mem_ways.1 hy
  refine (fo.ways hg v1 v2 v3).2 ⟨y, _, hy, rfl, parts_dv 0 hm.2.2 fun i z hz => ?_⟩
  obtain ⟨_, _, _, hk4⟩ := Seg.kid hm.2.2 i z hz
  unfold byF
  rw [Nat.zero_add]
  by_cases e : (i : Int) = wh
  · rw [if_pos e]
    obtain ⟨o1, o2⟩ := hown i z e hz
    exact ⟨fun _ => o2, fun h => by omega⟩
  · rw [if_neg e]
    rcases hk4 with ⟨z0, _, z1, z2⟩ | ⟨z0, _⟩
    · exact ⟨fun _ => by rw [if_pos z0]; exact fo.pl_dv hg _ z (Nat.le_refl _) (by omega), fun h => by omega⟩
    · exact ⟨fun h => by omega, fun _ => by rw [if_neg (by omega)]⟩
theorem seg_uniq (hg : InG g) : ∀ {ss : List Int} {a b b' : Nat} {cs cs' : List Nat} {d d' x x' : List Int}, b ≤ w.length → b' ≤ w.length → Seg w rd 0 ss a cs b → Seg w rd 0 ss a cs' b' → DvL g w ss a cs d → DvL g w ss a cs' d' → d ++ x = d' ++ x' → cs = cs'
  | [], a, b, b', [], [], d, d', x, x', hb, hb', h, h', k, k', e => rfl
  | [], a, b, b', _ :: _, _, d, d', x, x', hb, hb', h, h', k, k', e => h.elim
  | [], a, b, b', [], _ :: _, d, d', x, x', hb, hb', h, h', k, k', e => h'.elim
  | _ :: _, a, b, b', [], _, d, d', x, x', hb, hb', h, h', k, k', e => h.elim
  | _ :: _, a, b, b', _ :: _, [], d, d', x, x', hb, hb', h, h', k, k', e => h'.elim
  | s :: ss, a, b, b', c :: cs, c' :: cs', d, d', x, x', hb, hb', h, h', k, k', e => by
    obtain ⟨h1, h2, h3⟩ := h
    obtain ⟨h1', h2', h3'⟩ := h'
    have hcb := Seg.le h3
    have hcb' := Seg.le h3'
    cases k with
    | term hs k =>
      cases k' with
      | term _ k' =>
        unfold fit at h2 h2'
        rw [if_neg (by omega)] at h2 h2'
        simp at h2 h2'
        obtain ⟨rfl, _⟩ := h2
        obtain ⟨rfl, _⟩ := h2'
        rw [seg_uniq hg hb hb' h3 h3' k k' e]
      | var hs' _ _ => omega
    | @var _ _ _ _ _ d1 d2 hs x1 k =>
      cases k' with
      | term hs' _ => omega
      | @var _ _ _ _ _ e1 e2 _ x2 k' =>
        simp only [List.append_assoc] at e
        obtain ⟨rfl, e3⟩ := x1.pre hg x2 e
        have hl := congrArg List.length e3
        rw [sub_len h1 (by omega), sub_len h1' (by omega)] at hl
        obtain rfl : c = c' := by omega
        rw [seg_uniq hg hb hb' h3 h3' k k' (List.append_cancel_left e)]
theorem by_unlike (fo : FoOK g w rd) (hg : InG g) {x : Nd} (h0 : rd x ≠ 0) {y y' : Way} (hy : y ∈ waysL g w rd 0 x) (hy' : y' ∈ waysL g w rd 0 x) (hne : y ≠ y') : byL g w rd x y (-1) [] ≠ byL g w rd x y' (-1) [] := by
  intro e
  obtain ⟨v1, v2, v3⟩ := fo.val x h0
  have hm := mem_ways.1 hy
  have hm' := mem_ways.1 hy'
  have key : ∀ y, y ∈ waysL g w rd 0 x → DvL g w (rgt g y.1) x.2.1 y.2 (partsL (byF g w rd (-1) []) 0 (kidsL (rgt g y.1) x.2.1 y.2)) := fun y hy => by
    have hm := mem_ways.1 hy
    refine parts_dv 0 hm.2.2 fun i z hz => ?_
    obtain ⟨_, _, _, hk4⟩ := Seg.kid hm.2.2 i z hz
    unfold byF
    rw [if_neg (by omega)]
    rcases hk4 with ⟨z0, _, z1, z2⟩ | ⟨z0, _⟩
    · exact ⟨fun _ => by rw [if_pos z0]; exact fo.pl_dv hg _ z (Nat.le_refl _) (by omega), fun h => by omega⟩
    · exact ⟨fun h => by omega, fun _ => by rw [if_neg (by omega)]⟩
  unfold byL at e
  obtain ⟨e1, e2⟩ := List.cons.inj e
  have k1 := key y hy
  have k2 := key y' hy'
  obtain ⟨r, cs⟩ := y
  obtain ⟨r', cs'⟩ := y'
  simp only at e1 e2 hm hm' k1 k2
  obtain rfl : r = r' := by omega
  have := seg_uniq hg v3 v3 hm.2.2 hm'.2.2 k1 k2 (x := []) (x' := []) (by rw [List.append_nil, List.append_nil]; exact e2)
  exact hne (by rw [this])
theorem parts_own (wh : Nat) {own own' : List Int} : ∀ (ys : List Nd) (j : Nat), j ≤ wh → wh < j + ys.length → partsL (byF g w rd wh own) j ys = partsL (byF g w rd wh own') j ys → own = own'
  | [], j, h1, h2, _ => by simp at h2; omega
  | y :: ys, j, h1, h2, e => by
    have e : byF g w rd wh own j y ++ partsL (byF g w rd wh own) (j + 1) ys = byF g w rd wh own' j y ++ partsL (byF g w rd wh own') (j + 1) ys := e
    by_cases hj : j = wh
    · subst hj
      have h3 : partsL (byF g w rd j own) (j + 1) ys = partsL (byF g w rd j own') (j + 1) ys := parts_congr ys (j + 1) fun i z _ => by
        have h4 : ¬ (((j + 1 + i : Nat) : Int) = (j : Int)) := by omega
        unfold byF; rw [if_neg h4, if_neg h4]
      rw [h3] at e
      have := List.append_cancel_right e
      unfold byF at this
      simpa using this
    · have h3 : byF g w rd wh own j y = byF g w rd wh own' j y := by
        have h4 : ¬ ((j : Int) = (wh : Int)) := by omega
        unfold byF; rw [if_neg h4, if_neg h4]
      rw [h3] at e
      exact parts_own wh ys (j + 1) (by omega) (by simp at h2; omega) (List.append_cancel_left e)
theorem by_own {x : Nd} {y : Way} {wh : Nat} {own own' : List Int} (hw : wh < (kidsL (rgt g y.1) x.2.1 y.2).length) (h : own ≠ own') : byL g w rd x y wh own ≠ byL g w rd x y wh own' := by
  intro e
  unfold byL at e
  exact h (parts_own wh _ 0 (Nat.zero_le _) (by omega) (List.cons.inj e).2)
theorem FoOK.uniq (fo : FoOK g w rd) (hg : InG g) {R : Nd → Prop} (hR : ∀ x, R x → rd x ≠ 0 ∧ ∃ y, waysL g w rd 0 x = [y] ∧ ∀ z ∈ kidsL (rgt g y.1) x.2.1 y.2, 0 ≤ z.1 → R z) :
    ∀ (n : Nat) (x : Nd) (d d' : List Int), R x → d.length ≤ n → Dv g [x.1] d (sub w x.2.1 x.2.2) → Dv g [x.1] d' (sub w x.2.1 x.2.2) → d = d' := by
  intro n
  induction n with
  | zero =>
    intro x d d' hx hn h _
    obtain ⟨v1, _, _⟩ := fo.val x (hR x hx).1
    obtain ⟨i, e, _, _, rfl, _⟩ := h.one_inv v1
    simp at hn
  | succ n ih =>
    intro x d d' hx hn h h'
    obtain ⟨h0, y, hy, hk⟩ := hR x hx
    obtain ⟨v1, v2, v3⟩ := fo.val x h0
    obtain ⟨y1, e, m1, rfl, k1⟩ := (fo.ways hg v1 v2 v3).1 h
    obtain ⟨y2, e', m2, rfl, k2⟩ := (fo.ways hg v1 v2 v3).1 h'
    rw [hy] at m1 m2
    obtain rfl : y1 = y := by simpa using m1
    obtain rfl : y2 = y1 := by simpa using m2
    congr 1
    have hn' : e.length ≤ n := by simpa using hn
    have key : ∀ (ss : List Int) (a : Nat) (cs : List Nat) (e e' : List Int), (∀ z ∈ kidsL ss a cs, 0 ≤ z.1 → R z) → e.length ≤ n → DvL g w ss a cs e → DvL g w ss a cs e' → e = e' := by
      intro ss
      induction ss with
      | nil => intro a cs e e' _ _ k k'; cases k; cases k'; rfl
      | cons s ss ihs =>
        intro a cs e e' hz hl k k'
        cases k with
        | @term _ _ _ c cs _ hs k =>
          cases k' with
          | term _ k' => exact ihs c cs _ _ (fun z hzz => hz z (by simp [kidsL, hzz])) hl k k'
          | var hs' _ _ => omega
        | @var _ _ _ c cs d1 d2 hs x1 k =>
          cases k' with
          | term hs' _ => omega
          | @var _ _ _ _ _ e1 e2 _ x2 k' =>
            rw [List.length_append] at hl
            have hRz : R (s, a, c) := by
              have := hz (kid1 s a c) (by simp [kidsL])
              unfold kid1 at this
              simp only [if_pos hs] at this
              exact this hs
            rw [ih (s, a, c) d1 e1 hRz (by omega) x1 x2, ihs c cs d2 e2 (fun z hzz => hz z (by simp [kidsL, hzz])) (by omega) k k']
    exact key _ _ _ e e' hk hn' k1 k2
end Go.AM.Fo
namespace Go.AM.Fo
variable {g : Gram} {w : List Int} {rd : Nd → Nat}
def vM : Nat := 16777216
def vV : Nat := 2396745
def tT : Nat → Nat
  | 0 => 0
  | d + 1 => 1 + 8 * tT d
theorem tT_mono : ∀ {a b : Nat}, a ≤ b → tT a ≤ tT b
  | 0, _, _ => Nat.zero_le _
  | a + 1, 0, h => by omega
  | a + 1, b + 1, h => by
    have := tT_mono (a := a) (b := b) (by omega)
    show 1 + 8 * tT a ≤ 1 + 8 * tT b
    omega
theorem tT_8 : tT 8 = vV := rfl
def dn (rd : Nd → Nat) (x : Nd) : Nat := (List.range 8).countP fun (u : Nat) => decide (rd ((u : Int), x.2.1, x.2.2) ≠ 0) && decide (rd ((u : Int), x.2.1, x.2.2) ≤ rd x)
theorem dn_le (x : Nd) : dn rd x ≤ 8 := by have := List.countP_le_length (p := fun (u : Nat) => decide (rd ((u : Int), x.2.1, x.2.2) ≠ 0) && decide (rd ((u : Int), x.2.1, x.2.2) ≤ rd x)) (l := List.range 8); simpa [dn] using this
theorem countP_lt {α : Type} {p q : α → Bool} : ∀ {l : List α}, (∀ a ∈ l, p a = true → q a = true) → (∃ a ∈ l, q a = true ∧ p a = false) → l.countP p < l.countP q
  | [], _, h => by obtain ⟨a, ha, _⟩ := h; cases ha
  | x :: l, h, h' => by
    rw [List.countP_cons, List.countP_cons]
    have hle : l.countP p ≤ l.countP q := List.countP_mono_left fun a ha => h a (List.mem_cons_of_mem _ ha)
    obtain ⟨a, ha, h1, h2⟩ := h'
    rcases List.mem_cons.1 ha with rfl | ha
    · rw [h1, h2]; simp; omega
    · have ih := countP_lt (fun a ha => h a (List.mem_cons_of_mem _ ha)) ⟨a, ha, h1, h2⟩
      have hx := h x (List.mem_cons_self ..)
      cases hp : p x with
      | false => simp; omega
      | true => rw [hx hp]; simp; omega
theorem dn_lt {x z : Nd} (h0 : 0 ≤ x.1) (h8 : x.1 < 8) (hx : rd x ≠ 0) (h : rd z < rd x) (h1 : z.2 = x.2) : dn rd z < dn rd x := by
  unfold dn
  rw [h1]
  refine countP_lt (fun u _ hu => ?_) ⟨x.1.toNat, List.mem_range.2 (by omega), ?_, ?_⟩
  · simp only [Bool.and_eq_true, decide_eq_true_eq] at hu ⊢
    exact ⟨hu.1, by omega⟩
  · rw [Int.toNat_of_nonneg h0]
    simp only [Bool.and_eq_true, decide_eq_true_eq]
    exact ⟨hx, Nat.le_refl _⟩
  · rw [Int.toNat_of_nonneg h0]
    have : ¬ rd (x.1, x.2.1, x.2.2) ≤ rd z := by show ¬ rd x ≤ rd z; omega
    simp [this]
theorem dn_pos {x : Nd} (h0 : 0 ≤ x.1) (h8 : x.1 < 8) (hx : rd x ≠ 0) : 0 < dn rd x := by
  unfold dn
  rw [List.countP_pos_iff]
  refine ⟨x.1.toNat, List.mem_range.2 (by omega), ?_⟩
  rw [Int.toNat_of_nonneg h0]
  simp only [Bool.and_eq_true, decide_eq_true_eq]
  exact ⟨hx, Nat.le_refl _⟩
section
variable {ah : Nat} {f : Nat → Nd → List Int}
theorem parts_U (b : Nat) : ∀ (ys : List Nd) (j : Nat), (∀ i z, ys[i]? = some z → (f (j + i) z).length ≤ b) → (partsL f j ys).length ≤ b * ys.length
  | [], _, _ => Nat.zero_le _
  | y :: ys, j, h => by
    have h1 := h 0 y rfl
    have h2 := parts_U b ys (j + 1) fun i z hz => by
      have := h (i + 1) z (by simpa using hz)
      rwa [show j + (i + 1) = j + 1 + i by omega] at this
    show (f j y ++ partsL f (j + 1) ys).length ≤ b * (ys.length + 1)
    rw [List.length_append, Nat.mul_succ]
    rw [Nat.add_zero] at h1
    omega
theorem parts_A : ∀ {ss : List Int} {a : Nat} {cs : List Nat} {b : Nat} (j : Nat), Seg w rd ah ss a cs b →
    (∀ i z, (kidsL ss a cs)[i]? = some z → (f (j + i) z).length ≤ 16 * vM * (z.2.2 - z.2.1) + vV) → (partsL f j (kidsL ss a cs)).length ≤ 16 * vM * (b - a) + vV * ss.length
  | [], a, [], b, j, h, hf => Nat.zero_le _
  | [], a, _ :: _, b, j, h, hf => h.elim
  | _ :: _, a, [], b, j, h, hf => h.elim
  | s :: ss, a, c :: cs, b, j, h, hf => by
    obtain ⟨h1, h2, h3⟩ := h
    have hcb := Seg.le h3
    have hr := parts_A (j + 1) h3 fun i z hz => by
      have := hf (i + 1) z (by simpa [kidsL] using hz)
      rwa [show j + (i + 1) = j + 1 + i by omega] at this
    have h0 := hf 0 (kid1 s a c) rfl
    rw [Nat.add_zero] at h0
    show (f j (kid1 s a c) ++ partsL f (j + 1) (kidsL ss c cs)).length ≤ _
    rw [List.length_append, List.length_cons]
    have h0' : (f j (kid1 s a c)).length ≤ 16 * vM * (c - a) + vV := h0
    unfold vM vV at *
    omega
theorem parts_O {own k : Nat} : ∀ {ss : List Int} {a : Nat} {cs : List Nat} {b : Nat} (j : Nat), Seg w rd ah ss a cs b → ∀ {zo : Nd}, (kidsL ss a cs)[k]? = some zo → (f (j + k) zo).length ≤ own →
    (∀ i z, i ≠ k → (kidsL ss a cs)[i]? = some z → (f (j + i) z).length ≤ 16 * vM * (z.2.2 - z.2.1) + vV) → (partsL f j (kidsL ss a cs)).length + 16 * vM * (zo.2.2 - zo.2.1) ≤ own + 16 * vM * (b - a) + vV * ss.length := by
  induction k with
  | zero =>
    intro ss a cs b j h zo hz ho hf
    cases ss with
    | nil => cases cs <;> simp [kidsL] at hz
    | cons s ss =>
      cases cs with
      | nil => exact h.elim
      | cons c cs =>
        obtain ⟨h1, h2, h3⟩ := h
        have hcb := Seg.le h3
        have hr := parts_A (f := f) (j + 1) h3 fun i z hz => by
          have := hf (i + 1) z (by omega) (by simpa [kidsL] using hz)
          rwa [show j + (i + 1) = j + 1 + i by omega] at this
        simp [kidsL] at hz
        subst hz
        rw [Nat.add_zero] at ho
        show (f j (kid1 s a c) ++ partsL f (j + 1) (kidsL ss c cs)).length + 16 * vM * (c - a) ≤ _
        rw [List.length_append, List.length_cons]
        unfold vM vV at *
        omega
  | succ k ih =>
    intro ss a cs b j h zo hz ho hf
    cases ss with
    | nil => cases cs <;> simp [kidsL] at hz
    | cons s ss =>
      cases cs with
      | nil => exact h.elim
      | cons c cs =>
        obtain ⟨h1, h2, h3⟩ := h
        have hcb := Seg.le h3
        have hr := ih (j + 1) h3 (zo := zo) (by simpa [kidsL] using hz) (by rwa [show j + 1 + k = j + (k + 1) by omega]) fun i z hi hz => by
          have := hf (i + 1) z (by omega) (by simpa [kidsL] using hz)
          rwa [show j + (i + 1) = j + 1 + i by omega] at this
        have h0 := hf 0 (kid1 s a c) (by omega) rfl
        rw [Nat.add_zero] at h0
        have h0' : (f j (kid1 s a c)).length ≤ 16 * vM * (c - a) + vV := h0
        show (f j (kid1 s a c) ++ partsL f (j + 1) (kidsL ss c cs)).length + _ ≤ _
        rw [List.length_append, List.length_cons]
        unfold vM vV at *
        omega
theorem parts_1 : ∀ {ss : List Int} {a : Nat} {cs : List Nat} {b : Nat} (j : Nat), Seg w rd ah ss a cs b → a < b →
    (∀ i z, (kidsL ss a cs)[i]? = some z → (z.2.1 = z.2.2 → (f (j + i) z).length ≤ vV) ∧ (z.2.1 < z.2.2 → (f (j + i) z).length + 8 * vM ≤ 16 * vM * (z.2.2 - z.2.1))) →
    (partsL f j (kidsL ss a cs)).length + 8 * vM + vV ≤ 16 * vM * (b - a) + vV * ss.length
  | [], a, [], b, j, h, hab, hf => by have : a = b := h; omega
  | [], a, _ :: _, b, j, h, hab, hf => h.elim
  | _ :: _, a, [], b, j, h, hab, hf => h.elim
  | s :: ss, a, c :: cs, b, j, h, hab, hf => by
    obtain ⟨h1, h2, h3⟩ := h
    have hcb := Seg.le h3
    have hf' : ∀ i z, (kidsL ss c cs)[i]? = some z → (z.2.1 = z.2.2 → (f (j + 1 + i) z).length ≤ vV) ∧ (z.2.1 < z.2.2 → (f (j + 1 + i) z).length + 8 * vM ≤ 16 * vM * (z.2.2 - z.2.1)) := fun i z hz => by
      have := hf (i + 1) z (by simpa [kidsL] using hz)
      rwa [show j + (i + 1) = j + 1 + i by omega] at this
    have h0 := hf 0 (kid1 s a c) rfl
    rw [Nat.add_zero] at h0
    obtain ⟨k1, k2⟩ := h0
    have k1 : a = c → (f j (kid1 s a c)).length ≤ vV := k1
    have k2 : a < c → (f j (kid1 s a c)).length + 8 * vM ≤ 16 * vM * (c - a) := k2
    show (f j (kid1 s a c) ++ partsL f (j + 1) (kidsL ss c cs)).length + 8 * vM + vV ≤ _
    rw [List.length_append, List.length_cons]
    by_cases hcb' : c < b
    · have hr := parts_1 (j + 1) h3 hcb' hf'
      by_cases hac : a = c
      · have := k1 hac
        unfold vM vV at *
        omega
      · have := k2 (by omega)
        unfold vM vV at *
        omega
    · have hr := parts_U (f := f) vV (kidsL ss c cs) (j + 1) fun i z hz => by
        obtain ⟨q1, q2, q3, _⟩ := Seg.kid h3 i z hz
        exact (hf' i z hz).1 (by omega)
      rw [kids_len ss c cs (Seg.len h3)] at hr
      have := k2 (by omega)
      unfold vM vV at *
      omega
theorem parts_2 : ∀ {ss : List Int} {a : Nat} {cs : List Nat} {b : Nat} (j : Nat), Seg w rd ah ss a cs b → a < b →
    (∀ i z, (kidsL ss a cs)[i]? = some z → z.2.2 - z.2.1 < b - a ∧ (z.2.1 = z.2.2 → (f (j + i) z).length ≤ vV) ∧ (z.2.1 < z.2.2 → (f (j + i) z).length + 8 * vM ≤ 16 * vM * (z.2.2 - z.2.1))) →
    (partsL f j (kidsL ss a cs)).length + 16 * vM + vV ≤ 16 * vM * (b - a) + vV * ss.length
  | [], a, [], b, j, h, hab, hf => by have : a = b := h; omega
  | [], a, _ :: _, b, j, h, hab, hf => h.elim
  | _ :: _, a, [], b, j, h, hab, hf => h.elim
  | s :: ss, a, c :: cs, b, j, h, hab, hf => by
    obtain ⟨h1, h2, h3⟩ := h
    have hcb := Seg.le h3
    have hf' : ∀ i z, (kidsL ss c cs)[i]? = some z → z.2.2 - z.2.1 < b - a ∧ (z.2.1 = z.2.2 → (f (j + 1 + i) z).length ≤ vV) ∧ (z.2.1 < z.2.2 → (f (j + 1 + i) z).length + 8 * vM ≤ 16 * vM * (z.2.2 - z.2.1)) := fun i z hz => by
      have := hf (i + 1) z (by simpa [kidsL] using hz)
      rwa [show j + (i + 1) = j + 1 + i by omega] at this
    have h0 := hf 0 (kid1 s a c) rfl
    rw [Nat.add_zero] at h0
    obtain ⟨k0, k1, k2⟩ := h0
    have k0 : c - a < b - a := k0
    have k1 : a = c → (f j (kid1 s a c)).length ≤ vV := k1
    have k2 : a < c → (f j (kid1 s a c)).length + 8 * vM ≤ 16 * vM * (c - a) := k2
    show (f j (kid1 s a c) ++ partsL f (j + 1) (kidsL ss c cs)).length + 16 * vM + vV ≤ _
    rw [List.length_append, List.length_cons]
    by_cases hac : a = c
    · have := k1 hac
      subst hac
      have hr := parts_2 (j + 1) h3 hab hf'
      unfold vM vV at *
      omega
    · have := k2 (by omega)
      have hr := parts_1 (j + 1) h3 (by omega) fun i z hz => (hf' i z hz).2
      unfold vM vV at *
      omega
theorem parts_3 {D : Nat} : ∀ {ss : List Int} {a : Nat} {cs : List Nat} {b : Nat} (j : Nat), Seg w rd ah ss a cs b → a < b → (∃ (i : Nat) (z : Nd), (kidsL ss a cs)[i]? = some z ∧ z.2.1 = a ∧ z.2.2 = b) →
    (∀ i z, (kidsL ss a cs)[i]? = some z → (z.2.1 = z.2.2 → (f (j + i) z).length ≤ vV) ∧ (z.2.1 = a → z.2.2 = b → (f (j + i) z).length ≤ D)) →
    (partsL f j (kidsL ss a cs)).length + vV ≤ D + vV * ss.length
  | [], a, [], b, j, h, hab, hx, hf => by have : a = b := h; omega
  | [], a, _ :: _, b, j, h, hab, hx, hf => h.elim
  | _ :: _, a, [], b, j, h, hab, hx, hf => h.elim
  | s :: ss, a, c :: cs, b, j, h, hab, hx, hf => by
    obtain ⟨h1, h2, h3⟩ := h
    have hcb := Seg.le h3
    have hf' : ∀ i z, (kidsL ss c cs)[i]? = some z → (z.2.1 = z.2.2 → (f (j + 1 + i) z).length ≤ vV) ∧ (z.2.1 = a → z.2.2 = b → (f (j + 1 + i) z).length ≤ D) := fun i z hz => by
      have := hf (i + 1) z (by simpa [kidsL] using hz)
      rwa [show j + (i + 1) = j + 1 + i by omega] at this
    have h0 := hf 0 (kid1 s a c) rfl
    rw [Nat.add_zero] at h0
    obtain ⟨k1, k2⟩ := h0
    have k1 : a = c → (f j (kid1 s a c)).length ≤ vV := k1
    have k2 : a = a → c = b → (f j (kid1 s a c)).length ≤ D := k2
    show (f j (kid1 s a c) ++ partsL f (j + 1) (kidsL ss c cs)).length + vV ≤ _
    rw [List.length_append, List.length_cons]
    by_cases hc : c = b
    · have hr := parts_U (f := f) vV (kidsL ss c cs) (j + 1) fun i z hz => by
        obtain ⟨q1, q2, q3, _⟩ := Seg.kid h3 i z hz
        exact (hf' i z hz).1 (by omega)
      rw [kids_len ss c cs (Seg.len h3)] at hr
      have := k2 rfl hc
      unfold vV at *
      omega
    · obtain ⟨i, z, hz, e1, e2⟩ := hx
      cases i with
      | zero =>
        simp [kidsL] at hz
        subst hz
        exact absurd e2 hc
      | succ i =>
        have hz' : (kidsL ss c cs)[i]? = some z := by simpa [kidsL] using hz
        obtain ⟨q1, _⟩ := Seg.kid h3 i z hz'
        obtain rfl : a = c := by omega
        have hr := parts_3 (D := D) (j + 1) h3 hab ⟨i, z, hz', e1, e2⟩ hf'
        have := k1 rfl
        unfold vV at *
        omega
end
structure Sml (g : Gram) (w : List Int) : Prop where
  vars : g.vars.length ≤ 8
  rgt : ∀ r, (rgt g r).length ≤ 8
  word : w.length ≤ 10
theorem way_kid8 (hg : InG g) {ah : Nat} {x : Nd} {y : Way} (sm : Sml g w) (hy : y ∈ waysL g w rd ah x) {z : Nd} (hz : z ∈ kidsL (rgt g y.1) x.2.1 y.2) : z.1 < 8 := by
  obtain ⟨i, hi, he⟩ := List.getElem_of_mem hz
  have hm := mem_ways.1 hy
  obtain ⟨_, _, _, h4⟩ := Seg.kid hm.2.2 i z (by rw [List.getElem?_eq_getElem hi, he])
  rcases h4 with ⟨_, h5, _⟩ | ⟨h5, _⟩
  · have h6 := List.mem_of_getElem? h5
    rw [rgF_eq hm.1] at h6
    have := hg.right _ (List.getElem_mem hm.1) _ h6
    have := sm.vars
    omega
  · omega
theorem FoOK.pl_len (fo : FoOK g w rd) (hg : InG g) (sm : Sml g w) : ∀ (k : Nat) (x : Nd), rd x ≤ k → rd x ≠ 0 → x.1 < 8 →
    (x.2.1 = x.2.2 → (pl g w rd x).length ≤ tT (dn rd x)) ∧ (x.2.1 < x.2.2 → (pl g w rd x).length + 16 * vM ≤ 16 * vM * (x.2.2 - x.2.1) + vM * dn rd x) := by
  intro k
  induction k with
  | zero => intro x h h0; omega
  | succ k ih =>
    intro x h h0 h8
    obtain ⟨v1, v2, v3⟩ := fo.val x h0
    obtain ⟨y, hy⟩ := fo.sound x h0
    cases hL : waysL g w rd (rd x) x with
    | nil => rw [hL] at hy; cases hy
    | cons y ys =>
      rw [pl_eq h0 hL]
      have hym : y ∈ waysL g w rd (rd x) x := by rw [hL]; exact List.mem_cons_self ..
      have hm := mem_ways.1 hym
      have hr8 := sm.rgt y.1
      have hd1 := dn_pos v1 h8 h0
      have hd8 := dn_le (rd := rd) x
      have kid : ∀ i z, (kidsL (rgt g y.1) x.2.1 y.2)[i]? = some z → x.2.1 ≤ z.2.1 ∧ z.2.1 ≤ z.2.2 ∧ z.2.2 ≤ x.2.2 ∧ ((0 ≤ z.1 ∧ rd z < rd x ∧ byF g w rd (-1) [] (0 + i) z = pl g w rd z ∧ (z.2.1 = z.2.2 → (pl g w rd z).length ≤ tT (dn rd z)) ∧ (z.2.1 < z.2.2 → (pl g w rd z).length + 16 * vM ≤ 16 * vM * (z.2.2 - z.2.1) + vM * dn rd z)) ∨ (z.1 = -1 ∧ z.2.2 = z.2.1 + 1 ∧ byF g w rd (-1) [] (0 + i) z = [])) := by
        intro i z hz
        obtain ⟨q1, q2, q3, q4⟩ := Seg.kid hm.2.2 i z hz
        refine ⟨q1, q2, q3, ?_⟩
        have hne : ¬ (((0 + i : Nat) : Int) = -1) := by omega
        unfold byF
        rw [if_neg hne]
        rcases q4 with ⟨z0, _, z1, z2⟩ | ⟨z0, z1, _⟩
        · left
          rw [if_pos z0]
          have := way_kid8 hg sm hym (List.mem_of_getElem? hz)
          exact ⟨z0, by omega, rfl, ih z (by omega) (by omega) this⟩
        · right
          have h1 : ¬ (0 ≤ z.1) := by omega
          rw [if_neg h1]
          exact ⟨z0, z1, rfl⟩
      unfold byL
      rw [List.length_cons]
      constructor
      · intro he
        have hu := parts_U (f := byF g w rd (-1) []) (tT (dn rd x - 1)) (kidsL (rgt g y.1) x.2.1 y.2) 0 fun i z hz => by
          obtain ⟨q1, q2, q3, q4⟩ := kid i z hz
          rcases q4 with ⟨z0, z1, z2, z3, _⟩ | ⟨_, z1, z2⟩
          · rw [z2]
            have hlt := dn_lt v1 h8 h0 z1 (Prod.ext (by omega) (by omega))
            exact Nat.le_trans (z3 (by omega)) (tT_mono (by omega))
          · rw [z2]; exact Nat.zero_le _
        rw [kids_len _ _ _ (Seg.len hm.2.2)] at hu
        obtain ⟨d, hd⟩ : ∃ d, dn rd x = d + 1 := ⟨dn rd x - 1, by omega⟩
        rw [hd] at hu ⊢
        show _ ≤ 1 + 8 * tT d
        have : tT (d + 1 - 1) * (rgt g y.1).length ≤ tT d * 8 := Nat.mul_le_mul (by simp) hr8
        omega
      · intro hlt
        have hz8 : ∀ z, tT (dn rd z) ≤ vV := fun z => by rw [← tT_8]; exact tT_mono (dn_le z)
        have hvr : vV * (rgt g y.1).length ≤ vV * 8 := Nat.mul_le_mul (Nat.le_refl _) hr8
        by_cases hx : ∃ (i : Nat) (z : Nd), (kidsL (rgt g y.1) x.2.1 y.2)[i]? = some z ∧ z.2.1 = x.2.1 ∧ z.2.2 = x.2.2
        · have h3 := parts_3 (f := byF g w rd (-1) []) (D := 16 * vM * (x.2.2 - x.2.1) + vM * dn rd x - 17 * vM) 0 hm.2.2 hlt hx fun i z hz => by
            obtain ⟨q1, q2, q3, q4⟩ := kid i z hz
            rcases q4 with ⟨z0, z1, z2, z3, z4⟩ | ⟨_, z1, z2⟩
            · rw [z2]
              refine ⟨fun e => Nat.le_trans (z3 e) (hz8 z), fun e1 e2 => ?_⟩
              have := z4 (by omega)
              have hdl := dn_lt v1 h8 h0 z1 (Prod.ext e1 e2)
              rw [e1, e2] at this
              unfold vM at *
              omega
            · rw [z2]; exact ⟨fun _ => Nat.zero_le _, fun _ _ => Nat.zero_le _⟩
          unfold vM vV at *
          omega
        · have h2 := parts_2 (f := byF g w rd (-1) []) 0 hm.2.2 hlt fun i z hz => by
            obtain ⟨q1, q2, q3, q4⟩ := kid i z hz
            have hsp : z.2.2 - z.2.1 < x.2.2 - x.2.1 := by
              rcases Nat.lt_or_ge (z.2.2 - z.2.1) (x.2.2 - x.2.1) with h | h
              · exact h
              · exact absurd ⟨i, z, hz, by omega, by omega⟩ hx
            refine ⟨hsp, ?_⟩
            rcases q4 with ⟨z0, z1, z2, z3, z4⟩ | ⟨_, z1, z2⟩
            · rw [z2]
              refine ⟨fun e => Nat.le_trans (z3 e) (hz8 z), fun e => ?_⟩
              have := z4 e
              have := dn_le (rd := rd) z
              unfold vM at *
              omega
            · rw [z2]
              refine ⟨fun _ => Nat.zero_le _, fun e => ?_⟩
              simp
              unfold vM
              omega
          unfold vM vV at *
          omega
theorem FoOK.pl_len2 (fo : FoOK g w rd) (hg : InG g) (sm : Sml g w) {x : Nd} (h0 : rd x ≠ 0) (h8 : x.1 < 8) : (pl g w rd x).length ≤ 16 * vM * (x.2.2 - x.2.1) + vV := by
  obtain ⟨v1, v2, v3⟩ := fo.val x h0
  obtain ⟨h1, h2⟩ := fo.pl_len hg sm _ x (Nat.le_refl _) h0 h8
  have hd := dn_le (rd := rd) x
  rcases Nat.lt_or_ge x.2.1 x.2.2 with h | h
  · have := h2 h
    unfold vM vV at *
    omega
  · have h3 := h1 (by omega)
    have := tT_mono hd
    rw [tT_8] at this
    omega
def vC : Nat := 19173961
theorem FoOK.by_len (fo : FoOK g w rd) (hg : InG g) (sm : Sml g w) {x : Nd} {y : Way} (hy : y ∈ waysL g w rd 0 x) : (byL g w rd x y (-1) []).length ≤ 16 * vM * (x.2.2 - x.2.1) + vC := by
  have hm := mem_ways.1 hy
  have hr8 := sm.rgt y.1
  have h1 := parts_A (f := byF g w rd (-1) []) 0 hm.2.2 fun i z hz => by
    obtain ⟨q1, q2, q3, q4⟩ := Seg.kid hm.2.2 i z hz
    have hne : ¬ (((0 + i : Nat) : Int) = -1) := by omega
    unfold byF
    rw [if_neg hne]
    rcases q4 with ⟨z0, _, z1, z2⟩ | ⟨z0, z1, _⟩
    · rw [if_pos z0]; exact fo.pl_len2 hg sm (by omega) (way_kid8 hg sm hy (List.mem_of_getElem? hz))
    · have h1 : ¬ (0 ≤ z.1) := by omega
      rw [if_neg h1]; exact Nat.zero_le _
  have hvr : vV * (rgt g y.1).length ≤ vV * 8 := Nat.mul_le_mul (Nat.le_refl _) hr8
  unfold byL
  rw [List.length_cons]
  unfold vM vV vC at *
  omega
theorem FoOK.by_len2 (fo : FoOK g w rd) (hg : InG g) (sm : Sml g w) {x : Nd} {y : Way} (hy : y ∈ waysL g w rd 0 x) {k : Nat} {z : Nd} (hz : (kidsL (rgt g y.1) x.2.1 y.2)[k]? = some z) (own : List Int) :
    (byL g w rd x y k own).length + 16 * vM * (z.2.2 - z.2.1) ≤ own.length + 16 * vM * (x.2.2 - x.2.1) + vC := by
  have hm := mem_ways.1 hy
  have hr8 := sm.rgt y.1
  have h1 := parts_O (own := own.length) (k := k) (f := byF g w rd k own) 0 hm.2.2 hz (by unfold byF; rw [if_pos (by omega)]; exact Nat.le_refl _) fun i z hi hz => by
    obtain ⟨q1, q2, q3, q4⟩ := Seg.kid hm.2.2 i z hz
    have hne : ¬ (((0 + i : Nat) : Int) = (k : Int)) := by omega
    unfold byF
    rw [if_neg hne]
    rcases q4 with ⟨z0, _, z1, z2⟩ | ⟨z0, z1, _⟩
    · rw [if_pos z0]; exact fo.pl_len2 hg sm (by omega) (way_kid8 hg sm hy (List.mem_of_getElem? hz))
    · have h1 : ¬ (0 ≤ z.1) := by omega
      rw [if_neg h1]; exact Nat.zero_le _
  have hvr : vV * (rgt g y.1).length ≤ vV * 8 := Nat.mul_le_mul (Nat.le_refl _) hr8
  unfold byL
  rw [List.length_cons]
  unfold vM vV vC at *
  omega
end Go.AM.Fo
namespace Go.AM.Fo
variable {g : Gram} {w : List Int} {rd rd' : Nd → Nat}
theorem Seg.upd {ah ah' : Nat} (h : ∀ z, 0 < rd z → (ah = 0 ∨ rd z < ah) → 0 < rd' z ∧ (ah' = 0 ∨ rd' z < ah')) : ∀ {ss : List Int} {a : Nat} {cs : List Nat} {b : Nat}, Seg w rd ah ss a cs b → Seg w rd' ah' ss a cs b
  | [], a, [], b, k => k
  | [], a, _ :: _, b, k => k.elim
  | _ :: _, a, [], b, k => k.elim
  | s :: ss, a, c :: cs, b, k => by
    refine ⟨k.1, ?_, Seg.upd h k.2.2⟩
    have h2 := k.2.1
    unfold fit at h2 ⊢
    by_cases hs : 0 ≤ s
    · rw [if_pos hs] at h2 ⊢
      simp only [Bool.and_eq_true, Bool.or_eq_true, decide_eq_true_eq] at h2 ⊢
      exact h _ h2.1 h2.2
    · rw [if_neg hs] at h2 ⊢
      exact h2
def Fnd (g : Gram) (w : List Int) (rd : Nd → Nat) (x : Nd) : Prop := x.2.1 ≤ x.2.2 ∧ x.2.2 ≤ w.length ∧ ∃ y, y ∈ waysL g w rd 0 x
structure RI (g : Gram) (w : List Int) (n : Nat) (rd : Nd → Nat) : Prop where
  val : ∀ x, rd x ≠ 0 → 0 ≤ x.1 ∧ x.1 < g.vars.length ∧ x.2.1 ≤ x.2.2 ∧ x.2.2 ≤ w.length ∧ rd x < n
  sound : ∀ x, rd x ≠ 0 → ∃ y, y ∈ waysL g w rd (rd x) x
theorem RI.start (g : Gram) (w : List Int) : RI g w 1 (fun _ => 0) := ⟨fun x h => absurd rfl h, fun x h => absurd rfl h⟩
theorem RI.step {n : Nat} (h : RI g w n rd) (hg : InG g) (hn : 0 < n) (h1 : ∀ x, rd x ≠ 0 → rd' x = rd x) (h2 : ∀ x, rd x = 0 → rd' x ≠ 0 → rd' x = n ∧ Fnd g w rd x) : RI g w (n + 1) rd' := by
  refine ⟨fun x hx => ?_, fun x hx => ?_⟩
  · by_cases h0 : rd x = 0
    · obtain ⟨e, f1, f2, y, hy⟩ := h2 x h0 hx
      have hm := mem_ways.1 hy
      refine ⟨?_, ?_, f1, f2, by omega⟩
      · rw [← hm.2.1]; exact lft0 hg hm.1
      · rw [← hm.2.1, lfF_eq hm.1]; exact hg.left1 _ (List.getElem_mem hm.1)
    · obtain ⟨v0, v1, v2, v3, v4⟩ := h.val x h0
      exact ⟨v0, v1, v2, v3, by rw [h1 x h0]; omega⟩
  · by_cases h0 : rd x = 0
    · obtain ⟨e, f1, f2, y, hy⟩ := h2 x h0 hx
      have hm := mem_ways.1 hy
      refine ⟨y, mem_ways.2 ⟨hm.1, hm.2.1, ?_⟩⟩
      rw [e]
      exact Seg.upd (fun z hz _ => by
        have := h1 z (by omega)
        have := (h.val z (by omega)).2.2.2.2
        omega) hm.2.2
    · obtain ⟨y, hy⟩ := h.sound x h0
      have hm := mem_ways.1 hy
      refine ⟨y, mem_ways.2 ⟨hm.1, hm.2.1, ?_⟩⟩
      rw [h1 x h0]
      exact Seg.upd (fun z hz hz2 => by
        have := h1 z (by omega)
        omega) hm.2.2
theorem RI.over {n : Nat} (h : RI g w n rd) (hno : ∀ x, rd x = 0 → ¬ Fnd g w rd x) : FoOK g w rd where
  val := fun x hx => by obtain ⟨v0, v1, v2, v3, v4⟩ := h.val x hx; exact ⟨v0, v2, v3⟩
  sound := h.sound
  compl := fun x y h1 h2 hy h0 => hno x h0 ⟨h1, h2, y, hy⟩
def Ends (w : List Int) (rd : Nd → Nat) (ss : List Int) (a c : Nat) : Prop := ∃ cs, Seg w rd 0 ss a cs c
theorem Seg.snoc {s : Int} {c : Nat} : ∀ {ss : List Int} {a : Nat} {cs : List Nat} {b : Nat}, Seg w rd 0 ss a cs b → b ≤ c → fit w rd 0 s b c = true → Seg w rd 0 (ss ++ [s]) a (cs ++ [c]) c
  | [], a, [], b, k, h, hf => by obtain rfl : a = b := k; exact ⟨h, hf, rfl⟩
  | [], a, _ :: _, b, k, h, hf => k.elim
  | _ :: _, a, [], b, k, h, hf => k.elim
  | x :: ss, a, d :: cs, b, k, h, hf => ⟨k.1, k.2.1, Seg.snoc k.2.2 h hf⟩
theorem Seg.unsnoc {s : Int} {c : Nat} : ∀ {ss : List Int} {a : Nat} {cs : List Nat}, Seg w rd 0 (ss ++ [s]) a cs c → ∃ ds b, Seg w rd 0 ss a ds b ∧ b ≤ c ∧ fit w rd 0 s b c = true
  | [], a, [], k => k.elim
  | [], a, [d], k => by
    have e : d = c := k.2.2
    subst e
    exact ⟨[], a, rfl, k.1, k.2.1⟩
  | [], a, _ :: _ :: _, k => k.2.2.elim
  | _ :: _, a, [], k => k.elim
  | x :: ss, a, d :: cs, k => by
    obtain ⟨ds, b, h1, h2, h3⟩ := Seg.unsnoc (ss := ss) k.2.2
    exact ⟨d :: ds, b, ⟨k.1, k.2.1, h1⟩, h2, h3⟩
theorem ends_nil {a c : Nat} : Ends w rd [] a c ↔ a = c := by
  constructor
  · rintro ⟨cs, h⟩
    cases cs with
    | nil => exact h
    | cons => exact h.elim
  · intro e; exact ⟨[], e⟩
theorem ends_snoc {ss : List Int} {s : Int} {a c : Nat} : Ends w rd (ss ++ [s]) a c ↔ ∃ b, Ends w rd ss a b ∧ b ≤ c ∧ fit w rd 0 s b c = true := by
  constructor
  · rintro ⟨cs, h⟩
    obtain ⟨ds, b, h1, h2, h3⟩ := Seg.unsnoc h
    exact ⟨b, ⟨ds, h1⟩, h2, h3⟩
  · rintro ⟨b, ⟨ds, h1⟩, h2, h3⟩
    exact ⟨_, Seg.snoc h1 h2 h3⟩
theorem Ends.le {ss : List Int} {a c : Nat} (h : Ends w rd ss a c) : a ≤ c := by obtain ⟨cs, h⟩ := h; exact Seg.le h
theorem fnd_iff {x : Nd} : Fnd g w rd x ↔ x.2.2 ≤ w.length ∧ ∃ r, r < g.rules.length ∧ lft g r = x.1 ∧ Ends w rd (rgt g r) x.2.1 x.2.2 := by
  constructor
  · rintro ⟨h1, h2, y, hy⟩
    have hm := mem_ways.1 hy
    exact ⟨h2, y.1, hm.1, hm.2.1, y.2, hm.2.2⟩
  · rintro ⟨h2, r, hr, hl, cs, hs⟩
    exact ⟨Seg.le hs, h2, (r, cs), mem_ways.2 ⟨hr, hl, hs⟩⟩
def root (w : List Int) : Nd := (0, 0, w.length)
structure Cm (g : Gram) (w : List Int) (rd : Nd → Nat) (todo : List Nd) (par : Nd → Nd × Int) : Prop where
  ne : todo[0]? = some (root w)
  nd : todo.Nodup
  ok : ∀ z ∈ todo, rd z ≠ 0 ∧ z.1 < 8
  rt : (par (root w)).2 < 0
  st : ∀ (j : Nat) (z : Nd), todo[j]? = some z → 0 < j → ∃ (i : Nat) (x : Nd) (y : Way) (k : Nat), i < j ∧ todo[i]? = some x ∧ par z = (x, (k : Int)) ∧ waysL g w rd 0 x = [y] ∧ (kidsL (rgt g y.1) x.2.1 y.2)[k]? = some z ∧ 0 ≤ z.1
inductive Up (g : Gram) (w : List Int) (rd : Nd → Nat) (par : Nd → Nd × Int) : Nd → List Int → List Int → Prop
  | stop {x : Nd} {own : List Int} (h : (par x).2 < 0) : Up g w rd par x own own
  | step {x : Nd} {own out : List Int} {y : Way} {ys : List Way} (h : 0 ≤ (par x).2) (hy : waysL g w rd 0 (par x).1 = y :: ys) (k : Up g w rd par (par x).1 (byL g w rd (par x).1 y (par x).2 own) out) : Up g w rd par x own out
section
variable {todo : List Nd} {par : Nd → Nd × Int}
theorem Cm.start (fo : FoOK g w rd) (h : rd (root w) ≠ 0) {par : Nd → Nd × Int} (hp : (par (root w)).2 < 0) : Cm g w rd [root w] par where
  ne := rfl
  nd := by simp
  ok := fun z hz => by
    have : z = root w := by simpa using hz
    subst this
    exact ⟨h, by show (0 : Int) < 8; omega⟩
  rt := hp
  st := fun j z hz hj => by
    have := (List.getElem?_eq_some_iff.1 hz).1
    simp at this
    omega
theorem Cm.push (c : Cm g w rd todo par) {z x : Nd} {y : Way} {i k : Nat} (hx : todo[i]? = some x) (hy : waysL g w rd 0 x = [y]) (hz : (kidsL (rgt g y.1) x.2.1 y.2)[k]? = some z) (h0 : 0 ≤ z.1) (hn : z ∉ todo) (hr : rd z ≠ 0) (h8 : z.1 < 8)
    {par' : Nd → Nd × Int} (hp : par' z = (x, (k : Int))) (hpo : ∀ a, a ∈ todo → par' a = par a) : Cm g w rd (todo ++ [z]) par' where
  ne := by
    have := (List.getElem?_eq_some_iff.1 c.ne).1
    rw [List.getElem?_append_left this]; exact c.ne
  nd := by
    rw [List.nodup_append]
    refine ⟨c.nd, by simp, fun a ha b hb e => ?_⟩
    have : b = z := by simpa using hb
    subst this e
    exact hn ha
  ok := fun a ha => by
    rcases List.mem_append.1 ha with ha | ha
    · exact c.ok a ha
    · have : a = z := by simpa using ha
      subst this; exact ⟨hr, h8⟩
  rt := by rw [hpo _ (List.mem_of_getElem? c.ne)]; exact c.rt
  st := fun j a ha hj => by
    by_cases hjl : j < todo.length
    · rw [List.getElem?_append_left hjl] at ha
      obtain ⟨i, x, y, k, h1, h2, h3, h4⟩ := c.st j a ha hj
      exact ⟨i, x, y, k, h1, by rw [List.getElem?_append_left (by omega)]; exact h2, by rw [hpo a (List.mem_of_getElem? ha)]; exact h3, h4⟩
    · have hj' : j = todo.length := by
        have := (List.getElem?_eq_some_iff.1 ha).1
        simp at this
        omega
      subst hj'
      have : z = a := by simpa using ha
      subst this
      have hil := (List.getElem?_eq_some_iff.1 hx).1
      exact ⟨i, x, y, k, hil, by rw [List.getElem?_append_left hil]; exact hx, hp, hy, hz, h0⟩
theorem Cm.one (c : Cm g w rd todo par) {j : Nat} {z : Nd} (hz : todo[j]? = some z) : (j = 0 ∧ z = root w ∧ (par z).2 < 0) ∨ (0 < j ∧ 0 ≤ (par z).2 ∧ ∃ (i : Nat) (y : Way) (k : Nat), i < j ∧ todo[i]? = some (par z).1 ∧ (par z).2 = (k : Int) ∧ waysL g w rd 0 (par z).1 = [y] ∧ (kidsL (rgt g y.1) (par z).1.2.1 y.2)[k]? = some z ∧ 0 ≤ z.1) := by
  cases j with
  | zero =>
    left
    rw [c.ne] at hz
    cases hz
    exact ⟨rfl, rfl, c.rt⟩
  | succ j =>
    right
    obtain ⟨i, x, y, k, h1, h2, h3, h4, h5, h6⟩ := c.st (j + 1) z hz (by omega)
    rw [h3]
    exact ⟨by omega, Int.natCast_nonneg k, i, y, k, h1, h2, rfl, h4, h5, h6⟩
theorem Cm.up_dv (c : Cm g w rd todo par) (fo : FoOK g w rd) (hg : InG g) : ∀ (j : Nat) (z : Nd) (own out : List Int), todo[j]? = some z → Dv g [z.1] own (sub w z.2.1 z.2.2) → Up g w rd par z own out → Dv g [0] out w := by
  intro j
  induction j using Nat.strongRecOn with
  | ind j ih =>
    intro z own out hz hd hu
    rcases c.one hz with ⟨rfl, rfl, h1⟩ | ⟨_, h1, i, y, k, h2, h3, h4, h5, h6, h7⟩
    · cases hu with
      | stop _ =>
        have e : sub w (root w).2.1 (root w).2.2 = w := sub_all w
        rw [e] at hd; exact hd
      | step h => omega
    · cases hu with
      | stop h => omega
      | @step _ _ _ y' ys h hy hk =>
        rw [h5] at hy
        cases hy
        refine ih i h2 _ _ _ h3 ?_ hk
        refine fo.by_dv hg (c.ok _ (List.mem_of_getElem? h3)).1 (by rw [h5]; simp) fun q a hq ha => ?_
        rw [h4] at hq
        have : q = k := by omega
        subst this
        rw [h6] at ha
        cases ha
        exact ⟨h7, hd⟩
theorem Cm.up_ne (c : Cm g w rd todo par) : ∀ (j : Nat) (z : Nd) (own own' out out' : List Int), todo[j]? = some z → own ≠ own' → Up g w rd par z own out → Up g w rd par z own' out' → out ≠ out' := by
  intro j
  induction j using Nat.strongRecOn with
  | ind j ih =>
    intro z own own' out out' hz hne hu hu'
    rcases c.one hz with ⟨rfl, rfl, h1⟩ | ⟨_, h1, i, y, k, h2, h3, h4, h5, h6, h7⟩
    · cases hu with
      | stop _ => cases hu' with
        | stop _ => exact hne
        | step h => omega
      | step h => omega
    · cases hu with
      | stop h => omega
      | step h hy hk =>
        cases hu' with
        | stop h => omega
        | step h' hy' hk' =>
          rw [h5] at hy hy'
          cases hy
          cases hy'
          refine ih i h2 _ _ _ _ _ h3 ?_ hk hk'
          rw [h4]
          exact by_own (List.getElem?_eq_some_iff.1 h6).1 hne
structure Once (g : Gram) (w : List Int) (rd : Nd → Nat) (todo : List Nd) (i : Nat) : Prop where
  one : ∀ (j : Nat) (x : Nd), j < i → todo[j]? = some x → ∃ y, waysL g w rd 0 x = [y] ∧ ∀ z ∈ kidsL (rgt g y.1) x.2.1 y.2, 0 ≤ z.1 → z ∈ todo
theorem Once.uniq (o : Once g w rd todo todo.length) (c : Cm g w rd todo par) (fo : FoOK g w rd) (hg : InG g) {d d' : List Int} (h : Dv g [0] d w) (h' : Dv g [0] d' w) : d = d' := by
  refine fo.uniq hg (R := fun x => x ∈ todo) (fun x hx => ?_) d.length (root w) d d' (List.mem_of_getElem? c.ne) (Nat.le_refl _) ?_ ?_
  · obtain ⟨j, hj, he⟩ := List.getElem_of_mem hx
    exact ⟨(c.ok x hx).1, o.one j x hj (by rw [List.getElem?_eq_getElem hj, he])⟩
  · have e : sub w (root w).2.1 (root w).2.2 = w := sub_all w
    rw [e]; exact h
  · have e : sub w (root w).2.1 (root w).2.2 = w := sub_all w
    rw [e]; exact h'
end
def Tn (g : Gram) (w : List Int) (n : Nat) : Prop := (n = 0 ∧ ∀ d, ¬ Dv g [0] d w) ∨ (n = 1 ∧ ∃ d, Dv g [0] d w ∧ ∀ d', Dv g [0] d' w → d' = d) ∨ (n = 2 ∧ ∃ d d', d ≠ d' ∧ Dv g [0] d w ∧ Dv g [0] d' w)
def allN (k L : Nat) : List Nd := (List.range k).flatMap fun (v : Nat) => (List.range (L + 1)).flatMap fun a => (List.range (L + 1)).map fun b => ((v : Int), a, b)
theorem mem_allN {k L : Nat} {x : Nd} (h0 : 0 ≤ x.1) (h1 : x.1 < k) (h2 : x.2.1 ≤ L) (h3 : x.2.2 ≤ L) : x ∈ allN k L := by
  unfold allN
  refine List.mem_flatMap.2 ⟨x.1.toNat, List.mem_range.2 (by omega), List.mem_flatMap.2 ⟨x.2.1, List.mem_range.2 (by omega), List.mem_map.2 ⟨x.2.2, List.mem_range.2 (by omega), ?_⟩⟩⟩
  rw [Int.toNat_of_nonneg h0]
theorem allN_len (k L : Nat) : (allN k L).length = k * ((L + 1) * (L + 1)) := by
  have h : ∀ (n : Nat) (f : Nat → List Nd) (c : Nat), (∀ v, (f v).length = c) → ((List.range n).flatMap f).length = n * c := by
    intro n f c hf
    induction n with
    | zero => simp
    | succ n ih => rw [List.range_succ, List.flatMap_append, List.length_append, ih]; simp [hf, Nat.succ_mul]
  unfold allN
  exact h _ _ _ fun v => h _ _ _ fun a => by simp
theorem nodes_len {k L : Nat} {l : List Nd} (hn : l.Nodup) (h : ∀ x ∈ l, 0 ≤ x.1 ∧ x.1 < k ∧ x.2.1 ≤ L ∧ x.2.2 ≤ L) : l.length ≤ k * ((L + 1) * (L + 1)) := by
  rw [← allN_len k L]
  have sub : ∀ {l m : List Nd}, l.Nodup → (∀ x, x ∈ l → x ∈ m) → l.length ≤ m.length := by
    intro l
    induction l with
    | nil => intro m _ _; exact Nat.zero_le _
    | cons a l ih =>
      intro m hl hs
      have ha := hs a (List.mem_cons_self ..)
      have h1 : (m.erase a).length + 1 = m.length := by rw [List.length_erase_of_mem ha]; have := List.length_pos_of_mem ha; omega
      have := ih (m := m.erase a) (List.nodup_cons.1 hl).2 fun x hx => by
        refine (List.mem_erase_of_ne ?_).2 (hs x (List.mem_cons_of_mem _ hx))
        rintro rfl
        exact (List.nodup_cons.1 hl).1 hx
      rw [List.length_cons]
      omega
  exact sub hn fun x hx => by
    obtain ⟨h1, h2, h3, h4⟩ := h x hx
    exact mem_allN h1 h2 h3 h4
end Go.AM.Fo
namespace Go.AM.Fo
structure Sums (g : Gram) : Prop where
  r : g.rules = [⟨0, [0, -1, 0], 0⟩, ⟨0, [-2], 0⟩]
section
variable {g : Gram} {w : List Int}
theorem Sums.len (s : Sums g) : g.rules.length = 2 := by rw [s.r]; rfl
theorem Sums.r0 (s : Sums g) : rgt g 0 = [0, -1, 0] := by unfold rgt; rw [s.r]; rfl
theorem Sums.r1 (s : Sums g) : rgt g 1 = [-2] := by unfold rgt; rw [s.r]; rfl
theorem Sums.l0 (s : Sums g) : lft g 0 = 0 := by unfold lft; rw [s.r]; rfl
theorem Sums.l1 (s : Sums g) : lft g 1 = 0 := by unfold lft; rw [s.r]; rfl
def negs (l : List Int) : Nat := l.countP fun s => decide (s < 0)
theorem Sums.size (s : Sums g) {l d w : List Int} (h : Dv g l d w) : d.length + negs l = w.length ∧ ∀ r ∈ d, r = 0 ∨ r = 1 := by
  induction h with
  | nil => exact ⟨rfl, fun r hr => by cases hr⟩
  | @term x l d w hs _ ih =>
    obtain ⟨h1, h2⟩ := ih
    refine ⟨?_, h2⟩
    unfold negs at h1 ⊢
    rw [List.countP_cons_of_pos (by simpa using hs), List.length_cons]
    omega
  | @var i l d1 d2 w1 w2 h _ _ ih1 ih2 =>
    obtain ⟨a1, a2⟩ := ih1
    obtain ⟨b1, b2⟩ := ih2
    rw [s.len] at h
    have hl : lft g i = 0 := by
      rcases (by omega : i = 0 ∨ i = 1) with rfl | rfl
      · exact s.l0
      · exact s.l1
    have hn : negs (rgt g i) = 1 := by
      rcases (by omega : i = 0 ∨ i = 1) with rfl | rfl
      · rw [s.r0]; rfl
      · rw [s.r1]; rfl
    rw [hn] at a1
    constructor
    · unfold negs at b1 ⊢
      rw [List.countP_cons_of_neg (by rw [hl]; simp), List.length_cons, List.length_append, List.length_append]
      omega
    · intro r hr
      rcases List.mem_cons.1 hr with rfl | hr
      · rcases (by omega : i = 0 ∨ i = 1) with rfl | rfl <;> simp
      · rcases List.mem_append.1 hr with hr | hr
        · exact a2 r hr
        · exact b2 r hr
theorem Sums.b (s : Sums g) : Dv g [0] [1] [1] := by
  have h : Dv g (rgt g 1) [] [1] := by rw [s.r1]; exact .term (by omega) .nil
  have := Dv.one (i := 1) (by rw [s.len]; omega) h
  rw [s.l1] at this; exact this
theorem Sums.a (s : Sums g) {d e u v : List Int} (h : Dv g [0] d u) (k : Dv g [0] e v) : Dv g [0] (0 :: (d ++ e)) (u ++ 0 :: v) := by
  have h2 : Dv g (rgt g 0) (d ++ e) (u ++ 0 :: v) := by
    rw [s.r0]
    have := h.append (.term (s := -1) (by omega) k)
    simpa using this
  have := Dv.one (i := 0) (by rw [s.len]; omega) h2
  rw [s.l0] at this; exact this
theorem Sums.two (s : Sums g) : Dv g [0] [0, 0, 1, 1, 1] [1, 0, 1, 0, 1] ∧ Dv g [0] [0, 1, 0, 1, 1] [1, 0, 1, 0, 1] := by
  have h1 := s.a s.b s.b
  have h2 := s.a h1 s.b
  have h3 := s.a s.b h1
  exact ⟨by simpa using h2, by simpa using h3⟩
theorem Sums.n5 (s : Sums g) {t : Nat} (h : Tn g [1, 0, 1, 0, 1] t) : t = 2 := by
  obtain ⟨h1, h2⟩ := s.two
  rcases h with ⟨_, h⟩ | ⟨_, d, _, h⟩ | ⟨h, _⟩
  · exact absurd h1 (h _)
  · have := (h _ h1).trans (h _ h2).symm
    cases this
  · exact h
theorem Sums.none0 (s : Sums g) (hg : InG g) (d : List Int) : ¬ Dv g [0] d [0] := by
  intro h
  obtain ⟨h1, _⟩ := s.size h
  obtain ⟨i, e, hi, _, rfl, hk⟩ := h.one_inv (Int.le_refl 0)
  rw [s.len] at hi
  have : e = [] := by
    simp [negs] at h1
    exact h1
  subst this
  rcases (by omega : i = 0 ∨ i = 1) with rfl | rfl
  · rw [s.r0] at hk
    have := (s.size hk).1
    obtain ⟨j, d1, d2, w1, w2, _, _, e, _⟩ := hk.var_inv (Int.le_refl 0)
    cases e
  · rw [s.r1] at hk
    obtain ⟨w', e, _⟩ := hk.term_inv (by omega) hg
    cases e
theorem Sums.n0 (s : Sums g) (hg : InG g) {t : Nat} (h : Tn g [0] t) : t = 0 := by
  rcases h with ⟨h, _⟩ | ⟨_, d, h, _⟩ | ⟨_, d, _, _, h, _⟩
  · exact h
  · exact absurd h (s.none0 hg d)
  · exact absurd h (s.none0 hg d)
theorem Sums.n3 (s : Sums g) (hg : InG g) {t : Nat} (h : Tn g [1, 0, 1] t) : t = 1 := by
  have h1 : Dv g [0] [0, 1, 1] [1, 0, 1] := by simpa using s.a s.b s.b
  have key : ∀ d, Dv g [0] d [1, 0, 1] → d = [0, 1, 1] := fun d hd => by
    obtain ⟨e1, e2⟩ := s.size hd
    have hl : d.length = 3 := by simpa [negs] using e1
    have hr := hd.replay hg [] [] [] 0 (fun s hs => by cases hs)
    simp only [List.nil_append, List.append_nil] at hr
    match d, hl with
    | [a, b, c], _ =>
      have ha := e2 a (by simp)
      have hb := e2 b (by simp)
      have hc := e2 c (by simp)
      have hs : ∀ f r, stepS g f r = stepS ⟨[], [], [⟨0, [0, -1, 0], 0⟩, ⟨0, [-2], 0⟩]⟩ f r := fun f r => by unfold stepS; simp only [s.r]
      have hR : ∀ (rs f : List Int) (k : Nat), replayS g f rs k = replayS ⟨[], [], [⟨0, [0, -1, 0], 0⟩, ⟨0, [-2], 0⟩]⟩ f rs k := by
        intro rs
        induction rs with
        | nil => intro f k; rfl
        | cons r rs ih => intro f k; simp only [replayS, hs, ih]
      rw [hR, hR] at hr
      rcases ha with rfl | rfl <;> rcases hb with rfl | rfl <;> rcases hc with rfl | rfl <;> first | rfl | (exfalso; revert hr; decide)
  rcases h with ⟨_, h⟩ | ⟨h, _⟩ | ⟨_, d, d', hne, hd, hd'⟩
  · exact absurd h1 (h _)
  · exact h
  · exact absurd ((key d hd).trans (key d' hd').symm) hne
end
end Go.AM.Fo
namespace Go.AM.Fo
theorem low_bits (a : Int) : ∃ j : Nat, j ≤ 255 ∧ IntKind.i64.wrap ((BitVec.ofInt IntKind.i64.bits a &&& BitVec.ofInt IntKind.i64.bits 255).toNat : Int) = (j : Int) := by
  have h : (BitVec.ofInt 64 a &&& BitVec.ofInt 64 255).toNat ≤ 255 := by
    rw [BitVec.toNat_and]
    have : (BitVec.ofInt 64 255).toNat = 255 := by decide
    rw [this]
    exact Nat.and_le_right
  refine ⟨(BitVec.ofInt 64 a &&& BitVec.ofInt 64 255).toNat, h, ?_⟩
  show IntKind.i64.wrap (((BitVec.ofInt 64 a &&& BitVec.ofInt 64 255).toNat : Nat) : Int) = _
  rw [wrap_in (by omega) (by omega)]
theorem rest_nat (j l : Nat) : ((j : Int).tmod (l : Int)) = ((j % l : Nat) : Int) := rfl
def lessG (g : Gram) (k : Nat) : Gram := ⟨g.terms, g.vars, g.rules.take k ++ g.rules.drop (k + 1)⟩
def up (k : Nat) (r : Int) : Int := if (k : Int) ≤ r then r + 1 else r
variable {g : Gram} {k : Nat}
def upN (k i : Nat) : Nat := if k ≤ i then i + 1 else i
theorem less_get (hk : k < g.rules.length) {i : Nat} : (lessG g k).rules[i]? = g.rules[upN k i]? := by
  unfold lessG upN
  simp only
  by_cases h : k ≤ i
  · rw [if_pos h, List.getElem?_append_right (by rw [List.length_take]; omega), List.getElem?_drop, List.length_take, Nat.min_eq_left (by omega)]
    congr 1; omega
  · rw [if_neg h, List.getElem?_append_left (by rw [List.length_take]; omega), List.getElem?_take]
    rw [if_pos (by omega)]
theorem less_len (hk : k < g.rules.length) : (lessG g k).rules.length + 1 = g.rules.length := by
  unfold lessG
  rw [List.length_append, List.length_take, List.length_drop]
  omega
theorem up_nat (i : Nat) : up k (i : Int) = ((upN k i : Nat) : Int) := by
  unfold up upN
  by_cases h : k ≤ i
  · rw [if_pos (by omega), if_pos h]; rfl
  · rw [if_neg (by omega), if_neg h]
theorem Dv.less (hk : k < g.rules.length) {l d w : List Int} (h : Dv (lessG g k) l d w) : Dv g l (d.map (up k)) w := by
  induction h with
  | nil => exact .nil
  | term h _ ih => exact .term h ih
  | @var i l d1 d2 w1 w2 h _ _ ih1 ih2 =>
    have hl := less_len hk
    have hi : upN k i < g.rules.length := by unfold upN; split <;> omega
    have e1 : rgt (lessG g k) i = rgt g (upN k i) := by unfold rgt; rw [less_get hk]
    have e2 : lft (lessG g k) i = lft g (upN k i) := by unfold lft; rw [less_get hk]
    rw [e1] at ih1
    rw [e2, List.map_cons, List.map_append, up_nat]
    exact .var hi ih1 ih2
theorem up_inj {a b : Int} (h : up k a = up k b) : a = b := by
  unfold up at h
  split at h <;> split at h <;> omega
theorem map_up_inj : ∀ {a b : List Int}, a.map (up k) = b.map (up k) → a = b
  | [], [], _ => rfl
  | [], _ :: _, h => by cases h
  | _ :: _, [], h => by cases h
  | x :: a, y :: b, h => by
    simp only [List.map_cons, List.cons.injEq] at h
    rw [up_inj h.1, map_up_inj h.2]
theorem Tn.less (hk : k < g.rules.length) {w : List Int} {s t : Nat} (h : Tn (lessG g k) w s) (h' : Tn g w t) : s ≤ t := by
  rcases h with ⟨rfl, _⟩ | ⟨rfl, d, hd, _⟩ | ⟨rfl, d, d', hne, hd, hd'⟩
  · exact Nat.zero_le _
  · rcases h' with ⟨_, h⟩ | ⟨h, _⟩ | ⟨h, _⟩
    · exact absurd (hd.less hk) (h _)
    · omega
    · omega
  · rcases h' with ⟨_, h⟩ | ⟨_, e, _, h⟩ | ⟨h, _⟩
    · exact absurd (hd.less hk) (h _)
    · exact absurd (map_up_inj ((h _ (hd.less hk)).trans (h _ (hd'.less hk)).symm)) hne
    · omega
end Go.AM.Fo
