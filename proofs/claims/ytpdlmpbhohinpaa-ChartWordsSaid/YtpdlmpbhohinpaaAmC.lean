/- A part of a proof. Its conditions: none. -/
import Derived.Test.YtpdlmpbhohinpaaAmE
import Derived.ProofKit
import Derived.Deep.Slices
import Derived.Carry
import Derived.Lib.LaidTab
import Derived.ChangeSame
import Derived.LaidOnce
import Derived.Lay
import Derived.Deep.DeepHandedRow
import Derived.Test.YtpdlmpbhohinpaaAmD
import Derived.Test.YtpdlmpbhohinpaaAmB
set_option linter.all false
namespace Go.AM
open Go.RowKit
inductive AR (P : Program) (H : Heap) : TypeId → List Value → Prop where
  | bool (t : TypeId) (b : Bool) (ht : P.underlying t = some .bool) : AR P H t [.bool b]
  | int (t : TypeId) (k : IntKind) (n : Int) (ht : P.underlying t = some (.int k)) (hw : (Lit.int k n).wf = true) : AR P H t [.int k n]
  | float (t : TypeId) (k : FloatKind) (b : Nat) (ht : P.underlying t = some (.float k)) (hw : (Lit.float k b).wf = true) : AR P H t [.float k b]
  | string (t : TypeId) (s : ByteArray) (ht : P.underlying t = some .string) (hs : s.size ≤ maxLen) : AR P H t [.string s]
  | nil (t e : TypeId) (ht : P.underlying t = some (.slice e)) : AR P H t [.slice none 0 0]
  | slice (t e : TypeId) (x m : Nat) (cs : List Value) (ht : P.underlying t = some (.slice e)) (hx : H x = .cells cs e false) (hl : cs.length = m * P.cellsOf e) (hm : m ≤ maxLen)
      (he : ∀ i, i < m → AR P H e ((cs.drop (i * P.cellsOf e)).take (P.cellsOf e))) : AR P H t [.slice (some ⟨x, 0, none⟩) m m]
  | struct (t : TypeId) (fs : Array Field) (cs : List Value) (ht : P.underlying t = some (.struct fs)) (hl : cs.length = P.cellsOf t)
      (hf : ∀ (i : Nat) (f : Field), fs[i]? = some f → AR P H f.type ((cs.drop f.offset).take (P.cellsOf f.type))) : AR P H t cs
theorem AR.mono {P : Program} {H H' : Heap} {t : TypeId} {cs : List Value} (h : AR P H t cs) (hle : ∀ x, H x ≠ .dead → H' x = H x) : AR P H' t cs := by
  induction h with
  | bool t b ht => exact .bool t b ht
  | int t k n ht hw => exact .int t k n ht hw
  | float t k b ht hw => exact .float t k b ht hw
  | string t s ht hs => exact .string t s ht hs
  | nil t e ht => exact .nil t e ht
  | slice t e x m cs ht hx hl hm _ ih => exact .slice t e x m cs ht (by rw [hle x (by rw [hx]; intro e; cases e), hx]) hl hm ih
  | struct t fs cs ht hl _ ih => exact .struct t fs cs ht hl ih
def lined (P : Program) : Nat → List Field → Nat → Bool
  | at_, [], stop => at_ == stop
  | at_, f :: fs, stop => f.offset == at_ && lined P (at_ + P.cellsOf f.type) fs stop
def plainT (P : Program) : Nat → TypeId → Bool
  | 0, _ => false
  | d + 1, t => match P.underlying t with
    | some .bool | some (.int _) | some (.float _) | some .string => P.cellsOf t == 1
    | some (.slice e) => P.cellsOf t == 1 && decide (P.cellsOf e ≠ 0) && plainT P d e
    | some (.struct fs) => lined P 0 fs.toList (P.cellsOf t) && fs.toList.all fun f => plainT P d f.type
    | _ => false
structure Sofar (P : Program) (w : World) (ι : Inj) (C : Heap) (n : Nat) : Prop where
  hr : HR P w.heap.size ι C w
  free : ∀ x, n ≤ x → ι x = none
  wf : WF n C
  ro : ∀ x t, ι x = some t → t.own = false
  pos : 0 < w.heap.size
structure More (ι : Inj) (C : Heap) (n : Nat) (κ : Inj) (C' : Heap) (n' : Nat) : Prop where
  le : Inj.le ι κ
  heap : ∀ x, C x ≠ .dead → C' x = C x
  n : n ≤ n'
theorem More.refl (ι : Inj) (C : Heap) (n : Nat) : More ι C n ι C n := ⟨Inj.le_refl ι, fun _ _ => rfl, Nat.le_refl _⟩
theorem More.trans {ι κ μ : Inj} {C C1 C2 : Heap} {n n1 n2 : Nat} (a : More ι C n κ C1 n1) (b : More κ C1 n1 μ C2 n2) : More ι C n μ C2 n2 :=
  ⟨Inj.le_trans a.le b.le, fun x h => by rw [b.heap x (by rw [a.heap x h]; exact h), a.heap x h], Nat.le_trans a.n b.n⟩
section
variable {P : Program} {w : World}
theorem Sofar.addRO {ι : Inj} {C : Heap} {n : Nat} (h : Sofar P w ι C n) {cs : List Value} {e : TypeId} {b o : Nat} (hb : b < w.heap.size)
    (hc : ∀ (i : Nat) (v : Value), cs[i]? = some v → ∃ v', w.cell? ⟨b, o + i, none⟩ = some v' ∧ VR ι v v' ∧ one v = true) :
    Sofar P w (iset ι n ⟨b, o, false, 0, 0⟩) (hset C n (.cells cs e false)) (n + 1) ∧ More ι C n (iset ι n ⟨b, o, false, 0, 0⟩) (hset C n (.cells cs e false)) (n + 1) := by
  have hn := h.free n (Nat.le_refl _)
  have hle := iset_le (ι := ι) ⟨b, o, false, 0, 0⟩ hn
  refine ⟨⟨⟨fun x => ?_, fun x y t u hx hy ex ey ho hbl => ?_, fun x t e => ?_, Nat.le_refl _, fun g hg => hle g _ (h.hr.gl g hg), fun x y t u cs' ty b ds ty' hx hy ex ey hbl => ?_⟩, fun x hx => ?_, fun x hx => ?_, fun x t e => ?_, h.pos⟩, ⟨hle, fun x hx => ?_, Nat.le_succ n⟩⟩
  · rw [hset_apply]; split
    · rename_i e; subst e
      refine ⟨_, iset_same _ _ _, rfl, fun i v e => ?_, fun e => by cases e⟩
      obtain ⟨v', h1, h2, h3⟩ := hc i v e
      exact ⟨v', h1, h2.mono hle, h3⟩
    · exact (h.hr.obj x).carry hle fun _ _ => rfl
  · exfalso
    by_cases e : x = n
    · subst e; rw [iset_same] at ex; cases ex; cases ho
    · rw [iset_other _ _ e] at ex
      rw [h.ro x t ex] at ho; cases ho
  · by_cases e1 : x = n
    · subst e1; rw [iset_same] at e; cases e; exact ⟨hb, (fun k => by cases k), fun _ => hb⟩
    · rw [iset_other _ _ e1] at e; exact h.hr.rng x t e
  · by_cases e1 : x = n
    · subst e1; rw [hset_same] at hx; cases hx
    · by_cases e2 : y = n
      · subst e2; rw [hset_same] at hy; cases hy
      · rw [hset_other _ _ e1] at hx
        rw [hset_other _ _ e2] at hy
        rw [iset_other _ _ e1] at ex
        rw [iset_other _ _ e2] at ey
        exact h.hr.last x y t u cs' ty b ds ty' hx hy ex ey hbl
  · rw [iset_other _ _ (by omega)]; exact h.free x (by omega)
  · rw [hset_other _ _ (by omega)]; exact h.wf x (by omega)
  · by_cases e1 : x = n
    · subst e1; rw [iset_same] at e; cases e; rfl
    · rw [iset_other _ _ e1] at e; exact h.ro x t e
  · by_cases e : x = n
    · subst e; exact absurd (h.wf x (Nat.le_refl _)) hx
    · exact hset_other _ _ e
theorem cells?_spec {base : Nat} {a : Addr} {m : Nat} {cs : List Value} (h : w.cells? base a m = some cs) : cs.length = m ∧ ∀ i, i < m → w.cell? (a.add i) = cs[i]? := by
  obtain ⟨_, h1, h2⟩ := World.cells?_some h
  exact ⟨h1, h2⟩
variable {H : Type} {enc : TypeId × Value → H}
def Opened (P : Program) (w : World) (ι : Inj) (C : Heap) (n : Nat) (t : TypeId) (cs : List Value) : Prop :=
  ∃ acs κ C' n', Sofar P w κ C' n' ∧ More ι C n κ C' n' ∧ VRs κ acs cs ∧ AR P C' t acs ∧ acs.length = P.cellsOf t ∧ acs.all one = true
theorem opened_flat {ι : Inj} {C : Heap} {n : Nat} {t : TypeId} {v : Value} (h : Sofar P w ι C n) (hf : still1 v = true) (hr : VR ι v v) (ha : AR P C t [v]) (hc : (P.cellsOf t == 1) = true) : Opened P w ι C n t [v] := by
  refine ⟨[v], ι, C, n, h, More.refl _ _ _, .cons hr (.nil ι), ha, ?_, by simp [still1_one hf]⟩
  have : P.cellsOf t = 1 := by simpa using hc
  simp [this]
theorem open_elems {e : TypeId} {a : Addr} {f : TypeId → List Value → Prop} {len : Nat} (hop : ∀ cs, f e cs → ∀ ι C n, Sofar P w ι C n → Opened P w ι C n e cs)
    (he : ∀ i, i < len → ∃ cs, w.cells? 0 (a.add (i * P.cellsOf e)) (P.cellsOf e) = some cs ∧ f e cs) : ∀ m, m ≤ len → ∀ ι C n, Sofar P w ι C n →
    ∃ (acs : List Value) (κ : Inj) (C' : Heap) (n' : Nat), Sofar P w κ C' n' ∧ More ι C n κ C' n' ∧ acs.length = m * P.cellsOf e ∧ (∀ i, i < m → AR P C' e ((acs.drop (i * P.cellsOf e)).take (P.cellsOf e))) ∧
      ∀ (i : Nat) (v : Value), acs[i]? = some v → ∃ v', w.cell? (a.add i) = some v' ∧ VR κ v v' ∧ one v = true := by
  intro m
  induction m with
  | zero => intro _ ι C n h; exact ⟨[], ι, C, n, h, More.refl _ _ _, by simp, fun i hi => by omega, fun i v e => by simp at e⟩
  | succ m ih =>
    intro hm ι C n h
    obtain ⟨acs, κ, C', n', h1, h2, h3, h4, h5⟩ := ih (by omega) ι C n h
    obtain ⟨cs, hcs, hf⟩ := he m (by omega)
    obtain ⟨bcs, μ, C'', n'', g1, g2, g3, g4, g5, g6⟩ := hop cs hf κ C' n' h1
    obtain ⟨hlen, hcell⟩ := cells?_spec hcs
    refine ⟨acs ++ bcs, μ, C'', n'', g1, h2.trans g2, by rw [List.length_append, h3, g5, Nat.succ_mul], fun i hi => ?_, fun i v hq => ?_⟩
    · by_cases him : i < m
      · have hle : i * P.cellsOf e + P.cellsOf e ≤ m * P.cellsOf e := by rw [← Nat.succ_mul]; exact Nat.mul_le_mul_right _ him
        rw [List.drop_append_of_le_length (by omega), List.take_append_of_le_length (by simp; omega)]
        exact (h4 i him).mono g2.heap
      · have : i = m := by omega
        subst this
        rw [← h3, List.drop_left, List.take_of_length_le (by omega)]
        exact g4
    · by_cases hia : i < acs.length
      · rw [List.getElem?_append_left hia] at hq
        obtain ⟨v', e1, e2, e3⟩ := h5 i v hq
        exact ⟨v', e1, e2.mono g2.le, e3⟩
      · rw [List.getElem?_append_right (by omega)] at hq
        obtain ⟨v', e1, e2⟩ := g3.get hq
        refine ⟨v', ?_, e2, List.all_eq_true.1 g6 v (List.mem_of_getElem? hq)⟩
        have hi' : i - acs.length < bcs.length := by
          rcases Nat.lt_or_ge (i - acs.length) bcs.length with g | g
          · exact g
          · rw [List.getElem?_eq_none g] at hq; cases hq
        have := hcell (i - acs.length) (by omega)
        rw [Go.Deep.add_add, ← h3, show acs.length + (i - acs.length) = i by omega] at this
        rw [this]; exact e1
theorem open_fields {f : TypeId → List Value → Prop} {cs : List Value} : ∀ (fs : List Field) (at_ stop : Nat), lined P at_ fs stop = true → stop ≤ cs.length →
    (∀ g ∈ fs, ∀ cs', f g.type cs' → ∀ ι C n, Sofar P w ι C n → Opened P w ι C n g.type cs') → (∀ g ∈ fs, f g.type ((cs.drop g.offset).take (P.cellsOf g.type))) → ∀ ι C n, Sofar P w ι C n →
    ∃ acs κ C' n', Sofar P w κ C' n' ∧ More ι C n κ C' n' ∧ VRs κ acs ((cs.drop at_).take (stop - at_)) ∧ acs.all one = true ∧ acs.length = stop - at_ ∧ at_ ≤ stop ∧
      ∀ g ∈ fs, at_ ≤ g.offset ∧ AR P C' g.type ((acs.drop (g.offset - at_)).take (P.cellsOf g.type)) := by
  intro fs
  induction fs with
  | nil =>
    intro at_ stop hl _ _ _ ι C n h
    have : at_ = stop := by simpa [lined] using hl
    subst this
    exact ⟨[], ι, C, n, h, More.refl _ _ _, by simpa using VRs.nil ι, rfl, by simp, Nat.le_refl _, fun g hg => by cases hg⟩
  | cons g fs ih =>
    intro at_ stop hl hst hop hf ι C n h
    simp only [lined, Bool.and_eq_true, beq_iff_eq] at hl
    obtain ⟨hoff, hl⟩ := hl
    obtain ⟨bcs, κ, C', n', g1, g2, g3, g4, g5, g6⟩ := hop g (by simp) _ (hf g (by simp)) ι C n h
    obtain ⟨acs, μ, C'', n'', h1, h2, h3, h4, h5, h6, h7⟩ := ih _ stop hl hst (fun g' hg' => hop g' (by simp [hg'])) (fun g' hg' => hf g' (by simp [hg'])) κ C' n' g1
    rw [hoff] at g3
    refine ⟨bcs ++ acs, μ, C'', n'', h1, g2.trans h2, ?_, by simp [g6, h4], by rw [List.length_append, g5, h5]; omega, by omega, fun g' hg' => ?_⟩
    · have e1 : (cs.drop at_).take (stop - at_) = (cs.drop at_).take (P.cellsOf g.type) ++ (cs.drop (at_ + P.cellsOf g.type)).take (stop - (at_ + P.cellsOf g.type)) := by
        have : stop - at_ = P.cellsOf g.type + (stop - (at_ + P.cellsOf g.type)) := by omega
        rw [this, List.take_add, List.drop_drop]
      rw [e1]
      exact (g3.mono h2.le).append h3
    · rcases List.mem_cons.1 hg' with e | e
      · subst e
        refine ⟨by omega, ?_⟩
        rw [hoff, Nat.sub_self, List.drop_zero, List.take_append_of_le_length (by omega), List.take_of_length_le (by omega)]
        exact g4.mono h2.heap
      · obtain ⟨k1, k2⟩ := h7 g' e
        refine ⟨by omega, ?_⟩
        rw [List.drop_append, List.drop_of_length_le (by omega), List.nil_append, g5, show g'.offset - at_ - P.cellsOf g.type = g'.offset - (at_ + P.cellsOf g.type) by omega]
        exact k2
theorem open_cells : ∀ (fuel d : Nat) (t : TypeId) (cs : List Value) (x : DataW H × List MemPlace), plainT P d t = true → DataW.trod enc P w 0 (fun _ => true) true fuel t cs = some x →
    ∀ ι C n, Sofar P w ι C n → Opened P w ι C n t cs := by
  intro fuel
  induction fuel with
  | zero => intro d t cs x _ h; simp [DataW.trod] at h
  | succ fuel ih =>
    intro d t cs x hp h ι C n hs
    cases d with
    | zero => simp [plainT] at hp
    | succ d =>
      simp only [plainT] at hp
      split at hp
      · rename_i ht
        obtain ⟨b, rfl, _⟩ := DataW.trod_bool ht h
        exact opened_flat hs rfl (.bool b) (.bool t b ht) hp
      · rename_i k ht
        obtain ⟨m, rfl, _, hw⟩ := DataW.trod_int ht h
        exact opened_flat hs rfl (.int k m) (.int t k m ht hw) hp
      · rename_i k ht
        have : ∃ b, cs = [.float k b] ∧ (Lit.float k b).wf = true := by
          unfold DataW.trod at h
          rw [ht] at h
          split at h <;> simp_all
        obtain ⟨b, rfl, hw⟩ := this
        exact opened_flat hs rfl (.float k b) (.float t k b ht hw) hp
      · rename_i ht
        obtain ⟨s, rfl, _, hw⟩ := DataW.trod_string ht h
        exact opened_flat hs rfl (.string s) (.string t s ht hw) hp
      · rename_i e ht
        simp only [Bool.and_eq_true, decide_eq_true_eq] at hp
        obtain ⟨⟨hc, he0⟩, hpe⟩ := hp
        have hc' : P.cellsOf t = 1 := by simpa using hc
        rcases DataW.trod_slice ht h with ⟨rfl, _⟩ | ⟨a, len, cap, elems, rest, m, hm, rfl, _, _, hlc, hmx, hel, h1, h2, _⟩
        · exact opened_flat hs rfl .sliceNil (.nil t e ht) hc
        · have hmf : m = fuel := by omega
          subst hmf
          by_cases hcap : cap = 0
          · have hl0 : len = 0 := by omega
            subst hcap hl0
            obtain ⟨k1, k2⟩ := hs.addRO (cs := []) (e := e) (b := 0) (o := 0) hs.pos (fun i v e => by simp at e)
            exact ⟨[.slice (some ⟨n, 0, none⟩) 0 0], _, _, n + 1, k1, k2, .cons (.sliceE n 0 a _ (iset_same _ _ _) rfl) (.nil _), .slice t e n 0 [] ht (hset_same _ _ _) (by simp) (Nat.zero_le _) (fun i hi => absurd hi (Nat.not_lt_zero _)), by simp [hc'], rfl⟩
          · obtain ⟨hr1, hr2⟩ := h2 rfl
            have hsome : ∀ i, i < len → ∃ cs, w.cells? 0 (a.add (i * P.cellsOf e)) (P.cellsOf e) = some cs ∧ (∃ x, DataW.trod enc P w 0 (fun _ => true) true m e cs = some x) := by
              intro i hi
              have := h1 i hi
              rw [List.getElem?_eq_getElem (by omega)] at this
              obtain ⟨cs', e1, e2⟩ := Option.bind_eq_some_iff.1 this
              exact ⟨cs', e1, _, e2⟩
            have hfirst : ∃ cs, w.cells? 0 (a.add 0) (P.cellsOf e) = some cs := by
              by_cases hl : 0 < len
              · obtain ⟨cs', e1, _⟩ := hsome 0 hl
                exact ⟨cs', by simpa using e1⟩
              · have hl0 : len = 0 := by omega
                have := hr2 0 (by omega)
                rw [List.getElem?_eq_getElem (by omega)] at this
                obtain ⟨cs', e1, _⟩ := Option.bind_eq_some_iff.1 this
                exact ⟨cs', by simpa [hl0] using e1⟩
            obtain ⟨cs0, hcs0⟩ := hfirst
            obtain ⟨hl0, hcell0⟩ := cells?_spec hcs0
            have hc0 := hcell0 0 (by omega)
            rw [List.getElem?_eq_getElem (by omega)] at hc0
            have ha : a.add 0 = a := by simp [Addr.add]
            rw [ha, ha] at hc0
            have hblk : a.block < w.heap.size := World.block_lt_of_cell? w a hc0
            have hspot : a.spot = none := by
              unfold World.cell? at hc0
              cases hsp : a.spot with
              | none => rfl
              | some s => simp [hsp] at hc0; split at hc0 <;> simp at hc0
            obtain ⟨b, o, sp⟩ := a
            simp only at hspot hblk
            subst hspot
            obtain ⟨acs, κ, C', n', g1, g2, g3, g4, g5⟩ := open_elems (f := fun e cs => ∃ x, DataW.trod enc P w 0 (fun _ => true) true m e cs = some x)
              (fun cs' hx ι C n h => by obtain ⟨x, hx⟩ := hx; exact ih d e cs' x hpe hx ι C n h) hsome len (Nat.le_refl _) ι C n hs
            obtain ⟨k1, k2⟩ := g1.addRO (e := e) hblk (fun i v e => by
              obtain ⟨v', e1, e2⟩ := g5 i v e
              rw [add_lit] at e1
              exact ⟨v', e1, e2⟩)
            refine ⟨[.slice (some ⟨n', 0, none⟩) len len], _, _, n' + 1, k1, g2.trans k2, .cons ?_ (.nil _), ?_, by simp [hc'], rfl⟩
            · exact .slice n' 0 len o cap _ (iset_same _ _ _) (fun _ => rfl) hlc hmx (fun e => by cases e)
            · refine .slice t e n' len acs ht (hset_same _ _ _) g3 (by omega) fun i hi => (g4 i hi).mono k2.heap
      · rename_i fs ht
        simp only [Bool.and_eq_true, List.all_eq_true] at hp
        obtain ⟨xs, m, hm, _, hlen, hxs, hf⟩ := DataW.trod_struct ht h
        have hmf : m = fuel := by omega
        subst hmf
        obtain ⟨acs, κ, C', n', g1, g2, g3, g4, g5, _, g7⟩ := open_fields (w := w) (f := fun t cs => ∃ x, DataW.trod enc P w 0 (fun _ => true) true m t cs = some x) (cs := cs) fs.toList 0 (P.cellsOf t) hp.1 (by omega)
          (fun g hg cs' hx ι C n h => by obtain ⟨x, hx⟩ := hx; exact ih d g.type cs' x (hp.2 g hg) hx ι C n h)
          (fun g hg => by
            obtain ⟨i, hi, rfl⟩ := List.getElem_of_mem hg
            have hi' : i < fs.size := by simpa using hi
            have := hf i fs[i] (Array.getElem?_eq_getElem hi')
            rw [List.getElem?_eq_getElem (by omega)] at this
            exact ⟨_, by simpa using this⟩) ι C n hs
        refine ⟨acs, κ, C', n', g1, g2, ?_, ?_, by omega, g4⟩
        · simpa [List.take_of_length_le (Nat.le_of_eq hlen)] using g3
        · refine .struct t fs acs ht (by omega) fun i f hi => ?_
          have hmem : f ∈ fs.toList := by have := Array.mem_of_getElem? hi; simpa using this
          have := (g7 f hmem).2
          simpa using this
      · cases hp
end
end Go.AM
namespace Go.AM
open Go.RowKit Go.ChangeShapes Go.WideShapes Go.ChangeAt
section
variable {P : Program} {H : Type} {enc : TypeId × Value → H}
def ARV (P : Program) (H : Heap) (t : TypeId) (v : Value) : Prop := AR P H t (vcells v) ∧ (aggT P t = some true → ∃ cs, v = .agg cs) ∧ (aggT P t = some false → one v = true)
inductive ARs (P : Program) (H : Heap) : List TypeId → List Value → Prop where
  | nil : ARs P H [] []
  | cons {t : TypeId} {v : Value} {ts : List TypeId} {vs : List Value} (h : ARV P H t v) (k : ARs P H ts vs) : ARs P H (t :: ts) (v :: vs)
theorem ARV.mono {H H' : Heap} {t : TypeId} {v : Value} (h : ARV P H t v) (hle : ∀ x, H x ≠ .dead → H' x = H x) : ARV P H' t v := ⟨h.1.mono hle, h.2⟩
theorem one_of_ok {t : TypeId} {W : World} {base d : Nat} {v : Value} (hp : plainT P d t = true) (ha : aggT P t = some false) (h : Value.okWide P W .any base t v) : v.oneCell' = true := by
  cases d with
  | zero => simp [plainT] at hp
  | succ d =>
    unfold aggT at ha
    simp only [plainT] at hp
    unfold Value.okWide at h
    unfold Cell.okWide Cell.ok at h
    split at hp <;> rename_i ht <;> (try rw [ht] at ha) <;> (try rw [ht] at h) <;> (first | (cases ha; done) | (cases hp; done) | skip) <;>
      (cases v <;> first | rfl | (simp at h) | (simp at hp))
theorem open_args : ∀ (ts : List TypeId) (vs : List Value) (ds : List (DataW H)) (ps : List MemPlace) (W : World) (base d : Nat), (∀ t ∈ ts, plainT P d t = true) →
    (∀ (j : Nat) t v, ts[j]? = some t → vs[j]? = some v → Value.okWide P W .any base t v) → DataW.TrodAll enc P W 0 (fun _ => true) true ts vs ds ps →
    ∀ ι C n, Sofar P W ι C n → ∃ avs κ C' n', Sofar P W κ C' n' ∧ More ι C n κ C' n' ∧ VRs κ avs vs ∧ ARs P C' ts avs := by
  intro ts
  induction ts with
  | nil =>
    intro vs ds ps W base d _ _ h ι C n hs
    obtain ⟨rfl, _, _⟩ := trodAll_nil h
    exact ⟨[], ι, C, n, hs, More.refl _ _ _, .nil ι, .nil⟩
  | cons t ts ih =>
    intro vs ds ps W base d hp hok h ι C n hs
    obtain ⟨v, vs1, d1, ds1, a, b, rfl, rfl, rfl, h1, h2⟩ := trodAll_cons h
    obtain ⟨fuel, h1⟩ := h1
    obtain ⟨acs, κ, C1, n1, g1, g2, g3, g4, g5, g6⟩ := open_cells fuel d t _ _ (hp t (by simp)) h1 ι C n hs
    obtain ⟨avs, μ, C2, n2, k1, k2, k3, k4⟩ := ih vs1 ds1 b W base d (fun t' ht' => hp t' (by simp [ht'])) (fun j t' v' e1 e2 => hok (j + 1) t' v' (by simpa using e1) (by simpa using e2)) h2 κ C1 n1 g1
    have hov := hok 0 t v rfl rfl
    have hagg : ∃ b, aggT P t = some b := by
      have hpt := hp t (by simp)
      cases d with
      | zero => simp [plainT] at hpt
      | succ d =>
        simp only [plainT] at hpt
        unfold aggT
        split at hpt <;> rename_i ht <;> simp [ht]
        cases hpt
    obtain ⟨b, hb⟩ := hagg
    have hval : ∃ av, VR κ av v ∧ ARV P C1 t av := by
      cases b with
      | true =>
        have hv : ∃ cs, v = .agg cs := by
          unfold aggT at hb
          unfold Value.okWide at hov
          split at hb <;> rename_i ht <;> simp only [ht] at hov <;> (try (cases hb; done))
          all_goals (obtain ⟨cs, e, _⟩ := hov; exact ⟨cs, e⟩)
        obtain ⟨cs, rfl⟩ := hv
        refine ⟨.agg acs.toArray, ?_, ?_, fun _ => ⟨_, rfl⟩, fun e => by rw [hb] at e; cases e⟩
        · have := g3.agg; simpa [Value.cells] using this
        · simpa [vcells, Value.cells] using g4
      | false =>
        have hv1 := one_of_ok (hp t (by simp)) hb hov
        have hc : v.cells.toList = [v] := by cases v <;> first | rfl | (simp [Value.oneCell'] at hv1)
        rw [hc] at g3
        match acs, g3 with
        | [av], g3 =>
          obtain ⟨v', k, e, r1, _⟩ := g3.cons_inv
          simp only [List.cons.injEq] at e
          obtain ⟨rfl, _⟩ := e
          have ho : one av = true := by simpa using g6
          have hvc : vcells av = [av] := by cases av <;> first | rfl | (simp [one] at ho)
          exact ⟨av, r1, by rw [hvc]; exact g4, fun e => by (rw [hb] at e; cases e), fun _ => ho⟩
        | [], g3 => simp [VRs] at g3
        | _ :: _ :: _, g3 => simp [VRs] at g3
    obtain ⟨av, r1, r2⟩ := hval
    exact ⟨av :: avs, μ, C2, n2, k1, g2.trans k2, .cons (r1.mono k2.le) k3, .cons (r2.mono k2.heap) k4⟩
theorem trodAll_stays (hl : laidOutB P = true) {W W' : World} (hb : Below W.heap.size W W') : ∀ (ts : List TypeId) (vs : List Value) (ds : List (DataW H)) (ps : List MemPlace),
    (∀ t ∈ ts, P.readableRec t = true ∧ t < P.types.size) → DataW.TrodAll enc P W 0 (fun _ => true) true ts vs ds ps → (∀ x ∈ ps, x.block < W.heap.size) →
    DataW.TrodAll enc P W' 0 (fun b => decide (b < W.heap.size)) true ts vs ds ps := by
  intro ts
  induction ts with
  | nil => intro vs ds ps _ h _; obtain ⟨rfl, rfl, rfl⟩ := trodAll_nil h; exact rfl
  | cons t ts ih =>
    intro vs ds ps ht h hp
    obtain ⟨v, vs1, d1, ds1, a, b, rfl, rfl, rfl, h1, h2⟩ := trodAll_cons h
    obtain ⟨hr, hrow⟩ := ht t (by simp)
    exact ⟨a, b, Below.trod hl hr hrow h1 hb (fun x hx => hp x (by simp [hx])), ih vs1 ds1 b (fun t' h' => ht t' (by simp [h'])) h2 (fun x hx => hp x (by simp [hx])), rfl⟩
theorem still1_of_flat1 {v : Value} (h : flat1 v = true) : still1 v = true := by
  unfold still1
  split
  · rfl
  · exact h
structure Globs (P : Program) (W : World) (G : Heap) : Prop where
  out : ∀ x, ngl P ≤ x → G x = .dead
  cells : ∀ x, G x ≠ .dead → ∃ cs ty, G x = .cells cs ty false ∧ cs.all flat1 = true ∧ ∀ (i : Nat) (v : Value), cs[i]? = some v → W.cell? ⟨x, i, none⟩ = some v
  there : ngl P ≤ W.heap.size
  pos : 0 < W.heap.size
def AllRO (H : Heap) : Prop := ∀ x cs ty own, H x = .cells cs ty own → own = false
def LawRuns (P : Program) (G : Heap) (F : FuncId) (ts : List TypeId) : Prop :=
  ∀ (n : Nat) (H : Heap) (vs : List Value), WF n H → ngl P ≤ n → (∀ x, G x ≠ .dead → H x = G x) → AllRO H → ARs P H ts vs → ∃ n' H', BS P (.call F vs n H) (.ret (.bool true) n' H')
theorem law_contract (hm : P.follows .mixedOrders = true) (hl : laidOutB P = true) {F : FuncId} {fn : Func} {s : ChangeSpec} {d : Nat} {tb : TypeId} {G : Heap} (hlaw : LawRuns P G F fn.params.toList) (hvars : s.vars = [])
    (hspec : ∀ ds : List (DataW H), ds.length = fn.params.size → s.fn H ds = { results := [.lit (.bool true)], args := ds })
    (hp : ∀ t ∈ fn.params.toList, plainT P d t = true ∧ P.readableRec t = true ∧ t < P.types.size) (hres : fn.resultTypes = #[tb]) (htb : P.underlying tb = some .bool)
    (W : World) (base : Nat) (args : Array Value) (ds gs : List (DataW H)) (before : List MemPlace)
    (hval : ∀ (j : Nat) t v, fn.params[j]? = some t → args[j]? = some v → Value.okWide P W .any base t v) (hW : DataW.Whole enc P fn.params.toList s.vars false W args.toList ds gs before) (hG : Globs P W G) :
    Calls P F args W fun e W' => ∃ v, e = .returned v ∧ s.post enc P fn false true false false W args v W' := by
  have hlt := hW.lt
  have hW' := hW
  obtain ⟨p, q, hA, hV, rfl, hfz, hnd⟩ := hW
  rw [hvars] at hV
  obtain ⟨rfl, rfl⟩ : gs = [] ∧ q = [] := by
    cases gs with
    | nil => exact ⟨rfl, hV⟩
    | cons => exact absurd hV (by simp [DataW.TrodVars])
  have hs0 : Sofar P W (fun x => if x < ngl P then some ⟨x, 0, false, 0, 0⟩ else none) G (ngl P) := by
    refine ⟨⟨fun x => ?_, fun x y t u hx hy ex ey ho => ?_, fun x t e => ?_, Nat.le_refl _, fun g hg => by simp [hg], fun x y t u cs ty b ds ty' hx hy ex ey hbl => ?_⟩, fun x hx => by rw [if_neg (by omega)], fun x hx => hG.out x hx, fun x t e => ?_, hG.pos⟩
    · by_cases hd : G x = .dead
      · rw [hd]; trivial
      · obtain ⟨cs, ty, hc, hf, hcell⟩ := hG.cells x hd
        have hx : x < ngl P := Nat.lt_of_not_le fun h => hd (hG.out x h)
        rw [hc]
        refine ⟨⟨x, 0, false, 0, 0⟩, by simp [hx], rfl, fun i v e => ?_, fun e => by cases e⟩
        have hv := List.all_eq_true.1 hf v (List.mem_of_getElem? e)
        refine ⟨v, by simpa using hcell i v e, flat1_refl _ hv, still1_one (still1_of_flat1 hv)⟩
    · split at ex
      · cases ex; cases ho
      · cases ex
    · split at e
      · rename_i hx; cases e; exact ⟨Nat.lt_of_lt_of_le hx hG.there, (fun k => by cases k), fun _ => Nat.lt_of_lt_of_le hx hG.there⟩
      · cases e
    · obtain ⟨_, _, hc, _⟩ := hG.cells x (by rw [hx]; intro e; cases e)
      rw [hc] at hx; cases hx
    · split at e
      · cases e; rfl
      · cases e
  obtain ⟨avs, κ, C, n, g1, g2, g3, g4⟩ := open_args fn.params.toList args.toList ds p W base d (fun t ht => (hp t ht).1) (fun j t v e1 e2 => hval j t v (by simpa using e1) (by simpa using e2)) hA _ _ _ hs0
  obtain ⟨n', H', hbs⟩ := hlaw n C avs g1.wf g2.n (fun x hx => g2.heap x hx) (fun x cs ty own hx => by
    have hob := g1.hr.obj x
    rw [hx] at hob
    obtain ⟨t, h1, h2, _⟩ := hob
    rw [← h2]; exact g1.ro x t h1) g4
  obtain ⟨hmono, hcs, _⟩ := sound hm hbs
  have hcall := hcs g1.wf W.heap.size κ C W args.toList g3 g1.hr (fun _ _ _ => rfl) (fun x h1 _ => g1.free x h1)
  rw [Array.toArray_toList] at hcall
  refine hcall.mono ?_
  rintro e W' ⟨v', κ', C', rfl, hvr, ha⟩
  cases hvr
  refine ⟨.bool true, rfl, ds, [], p, [], p, [], by simpa using hW', ?_, ?_, ?_, ?_, fun h => by cases h⟩
  · have hlen : ds.length = fn.params.size := by
      have key : ∀ (ts : List TypeId) (vs : List Value) (ds : List (DataW H)) (ps : List MemPlace), DataW.TrodAll enc P W 0 (fun _ => true) true ts vs ds ps → ds.length = ts.length := by
        intro ts
        induction ts with
        | nil => intro vs ds ps h; obtain ⟨_, rfl, _⟩ := trodAll_nil h; rfl
        | cons t ts ih =>
          intro vs ds ps h
          obtain ⟨v, vs1, d1, ds1, a, b, rfl, rfl, rfl, _, h2⟩ := trodAll_cons h
          simp [ih _ _ _ h2]
      rw [key _ _ _ _ hA]; simp
    rw [hres, List.append_nil, hspec ds hlen]
    exact trodAll_mk1 (shut_bool htb true)
  · have hlen : ds.length = fn.params.size := by
      have key : ∀ (ts : List TypeId) (vs : List Value) (ds : List (DataW H)) (ps : List MemPlace), DataW.TrodAll enc P W 0 (fun _ => true) true ts vs ds ps → ds.length = ts.length := by
        intro ts
        induction ts with
        | nil => intro vs ds ps h; obtain ⟨_, rfl, _⟩ := trodAll_nil h; rfl
        | cons t ts ih =>
          intro vs ds ps h
          obtain ⟨v, vs1, d1, ds1, a, b, rfl, rfl, rfl, _, h2⟩ := trodAll_cons h
          simp [ih _ _ _ h2]
      rw [key _ _ _ _ hA]; simp
    rw [List.append_nil, hspec ds hlen]
    exact trodAll_stays hl ha.below _ _ _ _ (fun t ht => (hp t ht).2) hA (fun x hx => by simpa using hlt x (by simp [hx]))
  · rw [hvars]
    have hlen : True := trivial
    have : (s.fn H (ds ++ [])).vars = [] := by
      rw [List.append_nil, hspec ds (by
        have key : ∀ (ts : List TypeId) (vs : List Value) (ds : List (DataW H)) (ps : List MemPlace), DataW.TrodAll enc P W 0 (fun _ => true) true ts vs ds ps → ds.length = ts.length := by
          intro ts
          induction ts with
          | nil => intro vs ds ps h; obtain ⟨_, rfl, _⟩ := trodAll_nil h; rfl
          | cons t ts ih =>
            intro vs ds ps h
            obtain ⟨v, vs1, d1, ds1, a, b, rfl, rfl, rfl, _, h2⟩ := trodAll_cons h
            simp [ih _ _ _ h2]
        rw [key _ _ _ _ hA]; simp)]
    rw [this]
    exact rfl
  · exact World.keptBut_mono (fun x hx => by cases hx) (ha.below.frame (fun _ => False))
end
end Go.AM
namespace Go.AM
open Go.RowKit
theorem heap_of_shaped {P : Program} {W : World} (hs : W.ShapedOpen P) {g : Nat} {zero : Array Value} {t : TypeId} (hg : g < P.globals.size)
    (h : ((begin P (fun _ _ => 0) default).world.heap[g]?).bind Obj.row? = some (zero, t)) : g < W.heap.size := by
  obtain ⟨cs, h1, _⟩ := hs.1 g zero t hg h
  rcases Nat.lt_or_ge g W.heap.size with k | k
  · exact k
  · rw [Array.getElem?_eq_none k] at h1; cases h1
end Go.AM
namespace Go.AM
open Go.RowKit
structure GRule where
  left : Int
  right : List Int
  weight : Nat
structure Gram where
  terms : List ByteArray
  vars : List ByteArray
  rules : List GRule
def RR (H : Heap) (a : Option Addr) (l : List GRule) : Prop :=
  l ≠ [] → ∃ x k cs ty own, a = some ⟨x, k, none⟩ ∧ H x = .cells cs ty own ∧ ∀ i r, l[i]? = some r →
    ∃ p, cs[k + i * 3]? = some (.int .i64 r.left) ∧ cs[k + i * 3 + 1]? = some (.slice p r.right.length r.right.length) ∧ cs[k + i * 3 + 2]? = some (.float .f64 r.weight) ∧ RS (Value.int .i64) H p r.right
theorem RR.mono {n n' : Nat} {H H' : Heap} {a : Option Addr} {l : List GRule} (h : RR H a l) (hw : WF n H) (hk : Kp n H n' H') : RR H' a l := by
  intro hl
  obtain ⟨x, k, cs, ty, own, e1, e2, e3⟩ := h hl
  refine ⟨x, k, cs, ty, own, e1, ?_, fun i r hi => ?_⟩
  · rw [hk.keep x, e2]
    apply Classical.byContradiction
    intro hx
    rw [hw x (by omega)] at e2; cases e2
  · obtain ⟨p, c1, c2, c3, c4⟩ := e3 i r hi
    exact ⟨p, c1, c2, c3, c4.mono hw hk⟩
theorem RR.atS {H : Heap} {a : Option Addr} {l : List GRule} (h : RR H a l) {i : Nat} (hi : i < l.length) :
    ∃ x k cs ty own p, a = some ⟨x, k, none⟩ ∧ H x = .cells cs ty own ∧ cs[k + i * 3]? = some (.int .i64 l[i].left) ∧ cs[k + i * 3 + 1]? = some (.slice p l[i].right.length l[i].right.length) ∧
      cs[k + i * 3 + 2]? = some (.float .f64 l[i].weight) ∧ RS (Value.int .i64) H p l[i].right := by
  obtain ⟨x, k, cs, ty, own, e1, e2, e3⟩ := h (by intro e; simp [e] at hi)
  obtain ⟨p, c1, c2, c3, c4⟩ := e3 i _ (List.getElem?_eq_getElem hi)
  exact ⟨x, k, cs, ty, own, p, e1, e2, c1, c2, c3, c4⟩
theorem RR.at {H : Heap} {a : Option Addr} {l : List GRule} (h : RR H a l) {i : Nat} (hi : i < l.length) :
    ∃ x k cs ty own p, a = some ⟨x, k, none⟩ ∧ H x = .cells cs ty own ∧ cs[k + i * 3]? = some (.int .i64 l[i].left) ∧ cs[k + i * 3 + 1]? = some (.slice p l[i].right.length l[i].right.length) ∧
      cs[k + i * 3 + 2]? = some (.float .f64 l[i].weight) ∧ RA (Value.int .i64) H p l[i].right := by
  obtain ⟨x, k, cs, ty, own, p, e1, e2, c1, c2, c3, c4⟩ := h.atS hi
  exact ⟨x, k, cs, ty, own, p, e1, e2, c1, c2, c3, c4.ra⟩
theorem take3 {cs : List Value} {k : Nat} {a b c : Value} (h0 : cs[k]? = some a) (h1 : cs[k + 1]? = some b) (h2 : cs[k + 2]? = some c) : (cs.drop k).take 3 = [a, b, c] := by
  apply List.ext_getElem?
  intro i
  rw [List.getElem?_take, List.getElem?_drop]
  match i with
  | 0 => simpa using h0
  | 1 => simpa using h1
  | 2 => simpa using h2
  | i + 3 => simp; omega
theorem len3 {cs : List Value} {k : Nat} {c : Value} (h2 : cs[k + 2]? = some c) : k + 3 ≤ cs.length := by
  rcases Nat.lt_or_ge (k + 2) cs.length with h | h
  · omega
  · rw [List.getElem?_eq_none h] at h2; cases h2
def gcells (pt pv pr : Option Addr) (g : Gram) : List Value :=
  [.slice pt g.terms.length g.terms.length, .slice pv g.vars.length g.vars.length, .slice pr g.rules.length g.rules.length]
def RG (H : Heap) (v : Value) (g : Gram) : Prop :=
  ∃ pt pv pr, v = .agg (gcells pt pv pr g).toArray ∧ RA Value.string H pt g.terms ∧ RA Value.string H pv g.vars ∧ RR H pr g.rules
theorem RG.mono {n n' : Nat} {H H' : Heap} {v : Value} {g : Gram} (h : RG H v g) (hw : WF n H) (hk : Kp n H n' H') : RG H' v g := by
  obtain ⟨pt, pv, pr, e, h1, h2, h3⟩ := h
  exact ⟨pt, pv, pr, e, h1.mono hw hk, h2.mono hw hk, h3.mono hw hk⟩
def inI (n : Int) : Prop := -9223372036854775808 ≤ n ∧ n ≤ 9223372036854775807
def maxL : Nat := 9223372036854775807
structure WG (g : Gram) : Prop where
  terms : g.terms.length ≤ maxL
  vars : g.vars.length ≤ maxL
  rules : g.rules.length ≤ maxL
  left : ∀ r ∈ g.rules, inI r.left
  right : ∀ r ∈ g.rules, r.right.length ≤ maxL ∧ ∀ s ∈ r.right, inI s
  weight : ∀ r ∈ g.rules, r.weight < 2 ^ 64
  size : ∀ s ∈ g.terms ++ g.vars, s.size ≤ maxL
theorem box_cells (pt pv pr : Option Addr) (g : Gram) : vcells (.agg (gcells pt pv pr g).toArray) = gcells pt pv pr g := rfl
theorem box_one (pt pv pr : Option Addr) (g : Gram) : (gcells pt pv pr g).all one = true := rfl
theorem gc_0 (pt pv pr : Option Addr) (g : Gram) : (gcells pt pv pr g)[0]? = some (.slice pt g.terms.length g.terms.length) := rfl
theorem gc_1 (pt pv pr : Option Addr) (g : Gram) : (gcells pt pv pr g)[1]? = some (.slice pv g.vars.length g.vars.length) := rfl
theorem gc_2 (pt pv pr : Option Addr) (g : Gram) : (gcells pt pv pr g)[2]? = some (.slice pr g.rules.length g.rules.length) := rfl
theorem gc_len (pt pv pr : Option Addr) (g : Gram) : (gcells pt pv pr g).length = 3 := rfl
theorem gc_all (pt pv pr : Option Addr) (g : Gram) : ((gcells pt pv pr g).drop 0).take 3 = gcells pt pv pr g := rfl
end Go.AM
namespace Go.AM
open Go.RowKit
theorem pick_list {α : Type} {Q : Nat → α → Prop} : ∀ (m : Nat), (∀ i, i < m → ∃ y, Q i y) → ∃ l : List α, l.length = m ∧ ∀ i y, l[i]? = some y → Q i y := by
  intro m
  induction m with
  | zero => intro _; exact ⟨[], rfl, fun i y h => by simp at h⟩
  | succ m ih =>
    intro h
    obtain ⟨l, h1, h2⟩ := ih fun i hi => h i (by omega)
    obtain ⟨y, hy⟩ := h m (by omega)
    refine ⟨l ++ [y], by simp [h1], fun i z e => ?_⟩
    by_cases hi : i < l.length
    · rw [List.getElem?_append_left hi] at e; exact h2 i z e
    · rw [List.getElem?_append_right (by omega)] at e
      have : i - l.length = 0 := by
        apply Classical.byContradiction
        intro hc
        obtain ⟨q, hq⟩ : ∃ q, i - l.length = q + 1 := ⟨i - l.length - 1, by omega⟩
        rw [hq] at e; simp at e
      have e' : i = m := by omega
      rw [this] at e
      simp at e
      subst e
      rw [e']; exact hy
theorem at1 {cs : List Value} {i : Nat} {v : Value} (h : (cs.drop i).take 1 = [v]) : cs[i]? = some v := by
  have : ((cs.drop i).take 1)[0]? = some v := by rw [h]; rfl
  rw [List.getElem?_take, List.getElem?_drop] at this
  simpa using this
variable {P : Program} {H : Heap}
theorem AR.int_inv {t : TypeId} {cs : List Value} (h : AR P H t cs) (ht : P.underlying t = some (.int .i64)) : ∃ n, cs = [.int .i64 n] ∧ inI n := by
  cases h with
  | int t k n ht' hw =>
    rw [ht] at ht'; cases ht'
    refine ⟨n, rfl, ?_⟩
    simp [Lit.wf, IntKind.min, IntKind.max, IntKind.signed, IntKind.bits] at hw
    unfold inI
    omega
  | _ => simp_all
theorem AR.str_inv {t : TypeId} {cs : List Value} (h : AR P H t cs) (ht : P.underlying t = some .string) : ∃ s, cs = [.string s] ∧ s.size ≤ maxL := by
  cases h with
  | string t s ht' hs =>
    refine ⟨s, rfl, Nat.le_trans hs ?_⟩
    unfold maxL maxLen
    omega
  | _ => simp_all
theorem AR.float_inv {t : TypeId} {cs : List Value} (h : AR P H t cs) (ht : P.underlying t = some (.float .f64)) : ∃ b, cs = [.float .f64 b] ∧ b < 2 ^ 64 := by
  cases h with
  | float t k b ht' hw =>
    rw [ht] at ht'; cases ht'
    refine ⟨b, rfl, ?_⟩
    simpa [Lit.wf] using hw
  | _ => simp_all
theorem AR.slice_inv {t e : TypeId} {cs : List Value} (h : AR P H t cs) (ht : P.underlying t = some (.slice e)) : cs = [.slice none 0 0] ∨ ∃ x m ds, cs = [.slice (some ⟨x, 0, none⟩) m m] ∧ H x = .cells ds e false ∧ m ≤ maxL ∧ ∀ i, i < m → AR P H e ((ds.drop (i * P.cellsOf e)).take (P.cellsOf e)) := by
  cases h with
  | nil => exact .inl rfl
  | slice t e' x m ds ht' hx hl hm he =>
    rw [ht] at ht'; cases ht'
    refine .inr ⟨x, m, ds, rfl, hx, Nat.le_trans hm ?_, he⟩
    unfold maxL maxLen
    omega
  | _ => simp_all
theorem AR.list_inv {α : Type} {enc : α → Value} {good : α → Prop} {t e : TypeId} {cs : List Value} (h : AR P H t cs) (ht : P.underlying t = some (.slice e)) (hc : P.cellsOf e = 1) (hi : ∀ ds, AR P H e ds → ∃ y, ds = [enc y] ∧ good y) :
    ∃ p l, cs = [.slice p l.length l.length] ∧ RS enc H p l ∧ l.length ≤ maxL ∧ ∀ y ∈ l, good y := by
  rcases h.slice_inv ht with rfl | ⟨x, m, ds, rfl, hx, hm, he⟩
  · exact ⟨none, [], rfl, .inl ⟨rfl, rfl⟩, by simp, fun y hy => by cases hy⟩
  · obtain ⟨l, h1, h2⟩ := pick_list (Q := fun i y => ds[i]? = some (enc y) ∧ good y) m fun i hi' => by
      obtain ⟨y, e1, e2⟩ := hi _ (he i hi')
      rw [hc, Nat.mul_one] at e1
      exact ⟨y, at1 e1, e2⟩
    subst h1
    refine ⟨_, l, rfl, .inr ⟨x, 0, ds, e, false, rfl, hx, ?_, fun i y e => by rw [Nat.zero_add]; exact (h2 i y e).1⟩, hm, fun y hy => ?_⟩
    · rw [Nat.zero_add]
      apply Classical.byContradiction
      intro hc
      have hlt : ds.length < l.length := by omega
      have := (h2 ds.length _ (List.getElem?_eq_getElem hlt)).1
      rw [List.getElem?_eq_none (Nat.le_refl _)] at this
      cases this
    obtain ⟨i, hi', rfl⟩ := List.getElem_of_mem hy
    exact (h2 i _ (List.getElem?_eq_getElem hi')).2
theorem AR.ints {t e : TypeId} {cs : List Value} (h : AR P H t cs) (ht : P.underlying t = some (.slice e)) (hc : P.cellsOf e = 1) (he : P.underlying e = some (.int .i64)) :
    ∃ p l, cs = [.slice p l.length l.length] ∧ RS (Value.int .i64) H p l ∧ l.length ≤ maxL ∧ ∀ y ∈ l, inI y := h.list_inv ht hc fun _ hd => hd.int_inv he
theorem AR.strs {t e : TypeId} {cs : List Value} (h : AR P H t cs) (ht : P.underlying t = some (.slice e)) (hc : P.cellsOf e = 1) (he : P.underlying e = some .string) :
    ∃ p l, cs = [.slice p l.length l.length] ∧ RA Value.string H p l ∧ l.length ≤ maxL ∧ ∀ y ∈ l, y.size ≤ maxL := by
  obtain ⟨p, l, e, h1, h2⟩ := h.list_inv ht hc fun _ hd => hd.str_inv he
  exact ⟨p, l, e, h1.ra, h2⟩
structure GramT (P : Program) (tg tr ti tn tss trs tis tf : TypeId) : Prop where
  g : ∃ f1 f2 f3 : Field, P.underlying tg = some (.struct #[f1, f2, f3]) ∧ f1.type = tss ∧ f1.offset = 0 ∧ f2.type = tss ∧ f2.offset = 1 ∧ f3.type = trs ∧ f3.offset = 2
  r : ∃ f1 f2 f3 : Field, P.underlying tr = some (.struct #[f1, f2, f3]) ∧ f1.type = ti ∧ f1.offset = 0 ∧ f2.type = tis ∧ f2.offset = 1 ∧ f3.type = tf ∧ f3.offset = 2
  i : P.underlying ti = some (.int .i64)
  n : P.underlying tn = some .string
  ss : P.underlying tss = some (.slice tn)
  rs : P.underlying trs = some (.slice tr)
  is : P.underlying tis = some (.slice ti)
  f : P.underlying tf = some (.float .f64)
  ci : P.cellsOf ti = 1
  cn : P.cellsOf tn = 1
  css : P.cellsOf tss = 1
  crs : P.cellsOf trs = 1
  cis : P.cellsOf tis = 1
  cf : P.cellsOf tf = 1
  cr : P.cellsOf tr = 3
  cg : P.cellsOf tg = 3
theorem AR.struct_inv {t : TypeId} {fs : Array Field} {cs : List Value} (h : AR P H t cs) (ht : P.underlying t = some (.struct fs)) : cs.length = P.cellsOf t ∧ ∀ (i : Nat) (f : Field), fs[i]? = some f → AR P H f.type ((cs.drop f.offset).take (P.cellsOf f.type)) := by
  cases h with
  | struct t fs' cs ht' hl hf =>
    rw [ht] at ht'; cases ht'
    exact ⟨hl, hf⟩
  | _ => simp_all
section
variable {tg tr ti tn tss trs tis tf : TypeId}
theorem AR.rule (T : GramT P tg tr ti tn tss trs tis tf) {cs : List Value} (h : AR P H tr cs) : ∃ (r : GRule) (p : Option Addr), cs = [.int .i64 r.left, .slice p r.right.length r.right.length, .float .f64 r.weight] ∧ RS (Value.int .i64) H p r.right ∧ inI r.left ∧ r.right.length ≤ maxL ∧ (∀ s ∈ r.right, inI s) ∧ r.weight < 2 ^ 64 := by
  obtain ⟨f1, f2, f3, e, a1, b1, a2, b2, a3, b3⟩ := T.r
  obtain ⟨hl, hf⟩ := h.struct_inv e
  rw [T.cr] at hl
  match cs, hl with
  | [x, y, z], _ =>
    have h1 := hf 0 f1 rfl
    have h2 := hf 1 f2 rfl
    have h3 := hf 2 f3 rfl
    rw [a1, b1, T.ci] at h1
    rw [a2, b2, T.cis] at h2
    rw [a3, b3, T.cf] at h3
    obtain ⟨n, e1, hn⟩ := h1.int_inv T.i
    obtain ⟨p, l, e2, hp, hl, hs⟩ := h2.ints T.is T.ci T.i
    obtain ⟨w, e3, hw⟩ := h3.float_inv T.f
    simp at e1 e2 e3
    subst e1 e2 e3
    exact ⟨⟨n, l, w⟩, p, rfl, hp, hn, hl, hs, hw⟩
theorem AR.rules (T : GramT P tg tr ti tn tss trs tis tf) {cs : List Value} (h : AR P H trs cs) : ∃ p l, cs = [.slice p l.length l.length] ∧ RR H p l ∧ l.length ≤ maxL ∧ ∀ r ∈ l, inI r.left ∧ (r.right.length ≤ maxL ∧ ∀ s ∈ r.right, inI s) ∧ r.weight < 2 ^ 64 := by
  rcases h.slice_inv T.rs with rfl | ⟨x, m, ds, rfl, hx, hm, he⟩
  · exact ⟨none, [], rfl, fun h => absurd rfl h, by simp, fun y hy => by cases hy⟩
  · obtain ⟨l, h1, h2⟩ := pick_list (Q := fun i (r : GRule) => (∃ p, ds[i * 3]? = some (.int .i64 r.left) ∧ ds[i * 3 + 1]? = some (.slice p r.right.length r.right.length) ∧ ds[i * 3 + 2]? = some (.float .f64 r.weight) ∧ RS (Value.int .i64) H p r.right) ∧ inI r.left ∧ (r.right.length ≤ maxL ∧ ∀ s ∈ r.right, inI s) ∧ r.weight < 2 ^ 64) m fun i hi' => by
      have h := he i hi'
      rw [T.cr] at h
      obtain ⟨r, p, e, hp, q1, q2, q3, q4⟩ := AR.rule T h
      have g : ∀ j, j < 3 → ds[i * 3 + j]? = ((ds.drop (i * 3)).take 3)[j]? := fun j hj => by rw [List.getElem?_take, if_pos hj, List.getElem?_drop]
      refine ⟨r, ⟨p, ?_, ?_, ?_, hp⟩, q1, ⟨q2, q3⟩, q4⟩
      · have := g 0 (by omega); rw [e] at this; simpa using this
      · have := g 1 (by omega); rw [e] at this; simpa using this
      · have := g 2 (by omega); rw [e] at this; simpa using this
    subst h1
    refine ⟨_, l, rfl, fun _ => ⟨x, 0, ds, tr, false, rfl, hx, fun i r e => ?_⟩, hm, fun r hr => ?_⟩
    · obtain ⟨⟨p, c0, c1, c2, c3⟩, _⟩ := h2 i r e
      exact ⟨p, by rw [Nat.zero_add]; exact c0, by rw [Nat.zero_add]; exact c1, by rw [Nat.zero_add]; exact c2, c3⟩
    · obtain ⟨i, hi', rfl⟩ := List.getElem_of_mem hr
      exact (h2 i _ (List.getElem?_eq_getElem hi')).2
theorem ARV.gram (T : GramT P tg tr ti tn tss trs tis tf) {v : Value} (ha : aggT P tg = some true) (h : ARV P H tg v) : ∃ g, RG H v g ∧ WG g := by
  obtain ⟨h1, h2, _⟩ := h
  obtain ⟨cs, rfl⟩ := h2 ha
  obtain ⟨f1, f2, f3, e, a1, b1, a2, b2, a3, b3⟩ := T.g
  have hvc : vcells (.agg cs) = cs.toList := rfl
  rw [hvc] at h1
  obtain ⟨hl, hf⟩ := h1.struct_inv e
  rw [T.cg] at hl
  obtain ⟨cs⟩ := cs
  simp only at hl hf
  match cs, hl with
  | [x, y, z], _ =>
    have h1 := hf 0 f1 rfl
    have h2 := hf 1 f2 rfl
    have h3 := hf 2 f3 rfl
    rw [a1, b1, T.css] at h1
    rw [a2, b2, T.css] at h2
    rw [a3, b3, T.crs] at h3
    obtain ⟨pt, lt, e1, ht, ht1, ht2⟩ := h1.strs T.ss T.cn T.n
    obtain ⟨pv, lv, e2, hv, hv1, hv2⟩ := h2.strs T.ss T.cn T.n
    obtain ⟨pr, lr, e3, hr, hr1, hr2⟩ := AR.rules T h3
    simp at e1 e2 e3
    subst e1 e2 e3
    refine ⟨⟨lt, lv, lr⟩, ⟨pt, pv, pr, rfl, ht, hv, hr⟩, ht1, hv1, hr1, fun r h => (hr2 r h).1, fun r h => (hr2 r h).2.1, fun r h => (hr2 r h).2.2, fun s hs => ?_⟩
    rcases List.mem_append.1 hs with hs | hs
    · exact ht2 s hs
    · exact hv2 s hs
end
theorem vcells_one {v : Value} (h : one v = true) : vcells v = [v] := by cases v <;> first | rfl | (simp [one] at h)
theorem ARV.intsI {v : Value} {t e : TypeId} (ht : P.underlying t = some (.slice e)) (hc : P.cellsOf e = 1) (he : P.underlying e = some (.int .i64)) (ha : aggT P t = some false) (h : ARV P H t v) :
    ∃ p l, v = .slice p l.length l.length ∧ RS (Value.int .i64) H p l ∧ l.length ≤ maxL ∧ ∀ y ∈ l, inI y := by
  obtain ⟨h1, _, h3⟩ := h
  obtain ⟨p, l, e', hp, hl, hs⟩ := h1.ints ht hc he
  refine ⟨p, l, ?_, hp, hl, hs⟩
  have ho := h3 ha
  rw [vcells_one ho] at e'
  simpa using e'
end Go.AM
namespace Go.AM
open Ieee
def Low (K : Int) (m : Nat) (e : Int) : Prop := m = 0 ∨ e + (m.log2 : Int) ≤ K
theorem Low.mono {K L : Int} {m : Nat} {e : Int} (h : Low K m e) (hl : K ≤ L) : Low L m e := by
  rcases h with h | h
  · exact .inl h
  · exact .inr (by omega)
theorem cut_even_le (neg : Bool) (n drop B : Nat) (h : n < B * 2 ^ drop) (hB : 0 < B) : Toward.cut .even neg n drop ≤ B := by
  unfold Toward.cut
  simp only
  have key : n / 1 <<< min drop (n.log2 + 2) < B := by
    rw [Nat.shiftLeft_eq, Nat.one_mul]
    rcases Nat.le_total drop (n.log2 + 2) with hd | hd
    · rw [Nat.min_eq_left hd]
      exact (Nat.div_lt_iff_lt_mul (Nat.two_pow_pos _)).2 h
    · rw [Nat.min_eq_right hd]
      have : n < 2 ^ (n.log2 + 2) := Nat.lt_of_lt_of_le Nat.lt_log2_self (Nat.pow_le_pow_right (by omega) (by omega))
      rw [Nat.div_eq_of_lt this]; exact hB
  have h1 : ∀ b : Bool, b.toNat ≤ 1 := fun b => by cases b <;> simp
  exact Nat.le_trans (Nat.add_le_add_left (h1 _) _) key
theorem low_write {K : Int} {s : Bool} {m : Nat} {e : Int} (h : Low K m e) (h0 : 0 ≤ K) (h1 : K ≤ 900) :
    ∃ m' e', Format.read double (Format.write double (.number s m e)) = .number s m' e' ∧ Low (K + 1) m' e' := by
  have rd : ∀ R : Nat, R ≤ (K + 1024).toNat * 2 ^ 52 → ∃ m' e', Format.read double (Format.word double s R) = .number s m' e' ∧ Low (K + 1) m' e' := by
    intro R hR
    have hK : (K + 1024).toNat ≤ 1924 := by omega
    have hR2 : R ≤ 1924 * 2 ^ 52 := Nat.le_trans hR (Nat.mul_le_mul_right _ hK)
    have hsw : Format.signWeight double = 2 ^ 63 := rfl
    have hbin : Format.binade double = 2 ^ 52 := rfl
    have hinf : Format.infRung double = 2047 * 2 ^ 52 := rfl
    have hlp : Format.leastPlace double = -1074 := rfl
    have hneg : (Format.word double s R / 2 ^ 63 % 2 == 1) = s := by
      unfold Format.word; rw [hsw]
      cases s
      · simp only [Bool.false_eq_true, if_false]; rw [Nat.div_eq_of_lt (by omega)]; rfl
      · simp only [if_true]; rw [show (2 ^ 63 + R) / 2 ^ 63 = 1 by omega]; rfl
    have hrung : Format.word double s R % 2 ^ 63 = R := by
      unfold Format.word; rw [hsw]
      cases s
      · simp only [Bool.false_eq_true, if_false]; omega
      · simp only [if_true]; omega
    unfold Format.read
    simp only [hsw, hbin, hinf, hlp, hneg, hrung]
    split
    · rename_i hlt
      refine ⟨_, _, rfl, ?_⟩
      rcases Nat.eq_zero_or_pos R with e | e
      · exact .inl e
      · right
        have : R.log2 < 52 := (Nat.log2_lt (by omega)).2 hlt
        omega
    · rename_i hge
      rw [if_pos (by omega)]
      refine ⟨_, _, rfl, .inr ?_⟩
      have hm : R % 2 ^ 52 < 2 ^ 52 := Nat.mod_lt _ (Nat.two_pow_pos _)
      have hl : (2 ^ 52 + R % 2 ^ 52).log2 < 53 := (Nat.log2_lt (by omega)).2 (by omega)
      have hq : R / 2 ^ 52 ≤ (K + 1024).toNat := by
        have := Nat.div_le_div_right (c := 2 ^ 52) hR
        rwa [Nat.mul_div_cancel _ (Nat.two_pow_pos _)] at this
      have hq1 : 1 ≤ R / 2 ^ 52 := by omega
      omega
  unfold Format.write Format.nearest
  simp only
  split
  · exact rd 0 (Nat.zero_le _)
  rename_i hm
  have hL : e + (m.log2 : Int) ≤ K := by rcases h with h | h; exact absurd h hm; exact h
  have hlp : Format.leastPlace double = -1074 := rfl
  have hfb : ((Format.fractionBits double : Nat) : Int) = 52 := rfl
  have hbin : Format.binade double = 2 ^ 52 := rfl
  have hinf : Format.infRung double = 2047 * 2 ^ 52 := rfl
  rw [hlp, hfb, hbin, hinf]
  generalize hlast : max (e + (m.log2 : Int) - 52) (-1074) = last
  have hl1 : e + (m.log2 : Int) - 52 ≤ last := by omega
  have hl2 : last ≤ K - 52 ∨ last = -1074 := by omega
  have hl3 : -1074 ≤ last := by omega
  have hkept : Toward.cut .even s (m <<< (e - last).toNat) (last - e).toNat ≤ 2 ^ 53 := by
    refine cut_even_le _ _ _ _ ?_ (Nat.two_pow_pos _)
    rw [Nat.shiftLeft_eq, ← Nat.pow_add]
    have h2 : m < 2 ^ (m.log2 + 1) := Nat.lt_log2_self
    calc m * 2 ^ (e - last).toNat < 2 ^ (m.log2 + 1) * 2 ^ (e - last).toNat := Nat.mul_lt_mul_of_pos_right h2 (Nat.two_pow_pos _)
      _ = 2 ^ (m.log2 + 1 + (e - last).toNat) := by rw [← Nat.pow_add]
      _ ≤ 2 ^ (53 + (last - e).toNat) := Nat.pow_le_pow_right (by omega) (by omega)
  refine rd _ (Nat.le_trans (Nat.min_le_left _ _) ?_)
  have hpl : (last - -1074).toNat ≤ (K + 1022).toNat := by omega
  calc (last - -1074).toNat * 2 ^ 52 + Toward.cut .even s (m <<< (e - last).toNat) (last - e).toNat ≤ (K + 1022).toNat * 2 ^ 52 + 2 ^ 53 := Nat.add_le_add (Nat.mul_le_mul_right _ hpl) hkept
    _ = ((K + 1022).toNat + 2) * 2 ^ 52 := by rw [Nat.add_mul]
    _ ≤ (K + 1024).toNat * 2 ^ 52 := Nat.mul_le_mul_right _ (by omega)
theorem log2_mul_le {m n : Nat} (hm : m ≠ 0) (hn : n ≠ 0) : (m * n).log2 ≤ m.log2 + n.log2 + 1 := by
  have h1 : m < 2 ^ (m.log2 + 1) := Nat.lt_log2_self
  have h2 : n < 2 ^ (n.log2 + 1) := Nat.lt_log2_self
  have : m * n < 2 ^ (m.log2 + n.log2 + 2) := by
    calc m * n < 2 ^ (m.log2 + 1) * 2 ^ (n.log2 + 1) := Nat.mul_lt_mul'' h1 h2
      _ = 2 ^ (m.log2 + n.log2 + 2) := by rw [← Nat.pow_add]; congr 1; omega
  have := (Nat.log2_lt (Nat.mul_ne_zero hm hn)).2 this
  omega
theorem low_mul {K L : Int} {x y : Nat} {s t : Bool} {m n : Nat} {e j : Int} (hx : Format.read double x = .number s m e) (hy : Format.read double y = .number t n j) (h1 : Low K m e) (h2 : Low L n j) (h0 : 0 ≤ K + L + 1) (h9 : K + L + 1 ≤ 900) :
    ∃ r m' e', Format.mul double x y = some r ∧ Format.read double r = .number (s ^^ t) m' e' ∧ Low (K + L + 2) m' e' := by
  have hl : Low (K + L + 1) (m * n) (e + j) := by
    rcases Nat.eq_zero_or_pos m with hm | hm
    · exact .inl (by simp [hm])
    rcases Nat.eq_zero_or_pos n with hn | hn
    · exact .inl (by simp [hn])
    right
    have a : e + (m.log2 : Int) ≤ K := by rcases h1 with h | h; omega; exact h
    have b : j + (n.log2 : Int) ≤ L := by rcases h2 with h | h; omega; exact h
    have := log2_mul_le (m := m) (n := n) (by omega) (by omega)
    omega
  obtain ⟨m', e', h3, h4⟩ := low_write (s := s ^^ t) hl h0 h9
  exact ⟨_, m', e', by unfold Format.mul; rw [hx, hy]; rfl, h3, h4.mono (by omega)⟩
theorem signed_abs (s : Bool) (m up : Nat) : (signed s m up).natAbs = m * 2 ^ up := by
  unfold signed
  rw [Nat.shiftLeft_eq]
  cases s <;> simp [Int.natAbs_mul, Int.natAbs_pow]
theorem low_add {K : Int} {x y : Nat} {s t : Bool} {m n : Nat} {e j : Int} (hx : Format.read double x = .number s m e) (hy : Format.read double y = .number t n j) (h1 : Low K m e) (h2 : Low K n j) (h0 : 0 ≤ K) (h9 : K ≤ 899) :
    ∃ r s' m' e', Format.add double x y = some r ∧ Format.read double r = .number s' m' e' ∧ Low (K + 2) m' e' := by
  have part : ∀ (m : Nat) (e base : Int), Low K m e → base ≤ e → m * 2 ^ (e - base).toNat < 2 ^ (K + 1 - base).toNat ∨ m = 0 := by
    intro m e base h hb
    rcases Nat.eq_zero_or_pos m with hm | hm
    · exact .inr hm
    left
    have a : e + (m.log2 : Int) ≤ K := by rcases h with h | h; omega; exact h
    have h2 : m < 2 ^ (m.log2 + 1) := Nat.lt_log2_self
    calc m * 2 ^ (e - base).toNat < 2 ^ (m.log2 + 1) * 2 ^ (e - base).toNat := Nat.mul_lt_mul_of_pos_right h2 (Nat.two_pow_pos _)
      _ = 2 ^ (m.log2 + 1 + (e - base).toNat) := by rw [← Nat.pow_add]
      _ ≤ 2 ^ (K + 1 - base).toNat := Nat.pow_le_pow_right (by omega) (by omega)
  generalize hb : min e j = base
  have hl : Low (K + 1) (signed s m (e - base).toNat + signed t n (j - base).toNat).natAbs base := by
    rcases Nat.eq_zero_or_pos (signed s m (e - base).toNat + signed t n (j - base).toNat).natAbs with h | h
    · exact .inl h
    right
    have tri := Int.natAbs_add_le (signed s m (e - base).toNat) (signed t n (j - base).toNat)
    rw [signed_abs, signed_abs] at tri
    have hbound : (signed s m (e - base).toNat + signed t n (j - base).toNat).natAbs < 2 ^ ((K + 1 - base).toNat + 1) := by
      rw [Nat.pow_succ]
      have p1 := part m e base h1 (by omega)
      have p2 := part n j base h2 (by omega)
      have pos := Nat.two_pow_pos (K + 1 - base).toNat
      rcases p1 with p1 | p1 <;> rcases p2 with p2 | p2
      · omega
      · subst p2; simp only [Nat.zero_mul] at tri; omega
      · subst p1; simp only [Nat.zero_mul] at tri; omega
      · subst p1; subst p2; simp only [Nat.zero_mul] at tri; omega
    have := (Nat.log2_lt (by omega)).2 hbound
    have hK : 0 ≤ K + 1 - base := by
      apply Classical.byContradiction
      intro hc
      have p1 := part m e base h1 (by omega)
      have p2 := part n j base h2 (by omega)
      rw [show (K + 1 - base).toNat = 0 by omega] at p1 p2
      have q1 : m = 0 := by
        rcases p1 with p1 | p1
        · have := Nat.two_pow_pos (e - base).toNat
          rcases Nat.eq_zero_or_pos m with h | h
          · exact h
          · have := Nat.mul_pos h this; omega
        · exact p1
      have q2 : n = 0 := by
        rcases p2 with p2 | p2
        · have := Nat.two_pow_pos (j - base).toNat
          rcases Nat.eq_zero_or_pos n with h | h
          · exact h
          · have := Nat.mul_pos h this; omega
        · exact p2
      subst q1; subst q2; simp only [Nat.zero_mul] at tri; omega
    omega
  obtain ⟨m', e', h3, h4⟩ := low_write (s := if signed s m (e - base).toNat + signed t n (j - base).toNat = 0 then s && t else decide (signed s m (e - base).toNat + signed t n (j - base).toNat < 0)) hl (by omega) (by omega)
  refine ⟨_, _, m', e', ?_, h3, h4.mono (by omega)⟩
  unfold Format.add
  rw [hx, hy]
  simp only [Datum.sum, hb, Option.map_some]
theorem low_int {K : Int} {s : Bool} {m : Nat} {e : Int} (h : Low K m e) (h0 : 0 ≤ K) : ∃ z, Datum.toInt .zero (.number s m e) = some z ∧ z.natAbs < 2 ^ (K + 1).toNat := by
  refine ⟨_, rfl, ?_⟩
  rw [signed_abs, Nat.pow_zero, Nat.mul_one]
  unfold Toward.cut
  simp only [Bool.toNat_false, Nat.add_zero]
  have hn : m <<< e.toNat < 2 ^ (K + 1).toNat * 2 ^ (-e).toNat := by
    rw [Nat.shiftLeft_eq]
    rcases Nat.eq_zero_or_pos m with hm | hm
    · subst hm; rw [Nat.zero_mul]; exact Nat.mul_pos (Nat.two_pow_pos _) (Nat.two_pow_pos _)
    have a : e + (m.log2 : Int) ≤ K := by rcases h with h | h; omega; exact h
    have h2 : m < 2 ^ (m.log2 + 1) := Nat.lt_log2_self
    calc m * 2 ^ e.toNat < 2 ^ (m.log2 + 1) * 2 ^ e.toNat := Nat.mul_lt_mul_of_pos_right h2 (Nat.two_pow_pos _)
      _ = 2 ^ (m.log2 + 1 + e.toNat) := by rw [← Nat.pow_add]
      _ ≤ 2 ^ ((K + 1).toNat + (-e).toNat) := Nat.pow_le_pow_right (by omega) (by omega)
      _ = _ := by rw [Nat.pow_add]
  generalize m <<< e.toNat = n at *
  rw [Nat.shiftLeft_eq, Nat.one_mul]
  rcases Nat.le_total (-e).toNat (n.log2 + 2) with hd | hd
  · rw [Nat.min_eq_left hd]
    exact (Nat.div_lt_iff_lt_mul (Nat.two_pow_pos _)).2 hn
  · rw [Nat.min_eq_right hd]
    have : n < 2 ^ (n.log2 + 2) := Nat.lt_of_lt_of_le Nat.lt_log2_self (Nat.pow_le_pow_right (by omega) (by omega))
    rw [Nat.div_eq_of_lt this]; exact Nat.two_pow_pos _
theorem low_order {x y : Nat} {m n : Nat} {e j : Int} (hx : Format.read double x = .number false m e) (hy : Format.read double y = .number false n j) (h : Format.order double x y = some .lt) : Low (j + (n.log2 : Int)) m e := by
  unfold Format.order at h
  rw [hx, hy] at h
  simp only [Datum.order, signed, Bool.false_eq_true, if_false, Option.some.injEq] at h
  rcases Nat.eq_zero_or_pos m with hm | hm
  · exact .inl hm
  right
  generalize hb : min e j = base at h
  rw [Nat.shiftLeft_eq, Nat.shiftLeft_eq] at h
  have hlt : m * 2 ^ (e - base).toNat < n * 2 ^ (j - base).toNat := by
    have hi : ((m * 2 ^ (e - base).toNat : Nat) : Int) < ((n * 2 ^ (j - base).toNat : Nat) : Int) := by
      apply Classical.byContradiction
      intro hc
      simp only [compare, compareOfLessAndEq, if_neg hc] at h
      split at h <;> cases h
    omega
  have h1 : 2 ^ m.log2 ≤ m := Nat.log2_self_le (by omega)
  have h2 : n < 2 ^ (n.log2 + 1) := Nat.lt_log2_self
  have h3 : 2 ^ (m.log2 + (e - base).toNat) < 2 ^ (n.log2 + 1 + (j - base).toNat) := by
    calc 2 ^ (m.log2 + (e - base).toNat) = 2 ^ m.log2 * 2 ^ (e - base).toNat := by rw [Nat.pow_add]
      _ ≤ m * 2 ^ (e - base).toNat := Nat.mul_le_mul_right _ h1
      _ < n * 2 ^ (j - base).toNat := hlt
      _ ≤ 2 ^ (n.log2 + 1) * 2 ^ (j - base).toNat := Nat.mul_le_mul_right _ (Nat.le_of_lt h2)
      _ = 2 ^ (n.log2 + 1 + (j - base).toNat) := (Nat.pow_add 2 (n.log2 + 1) (j - base).toNat).symm
  have h4 := (Nat.pow_lt_pow_iff_right (a := 2) (by omega)).1 h3
  omega
theorem read_e9 : Format.read double 4741671816366391296 = .number false 8388608000000000 (-23) := by decide
theorem read_e6 : Format.read double 4696837146684686336 = .number false 8589934592000000 (-33) := by decide
theorem read_half : Format.read double 4602678819172646912 = .number false 4503599627370496 (-53) := by decide
theorem read_zero : Format.read double 0 = .number false 0 (-1074) := by decide
theorem read_neg {b : Nat} (hb : b < 2 ^ 64) : Format.read double (b ^^^ 2 ^ 63) = (Format.read double b).opposite := by
  have h1 : (b ^^^ 2 ^ 63) % 2 ^ 63 = b % 2 ^ 63 := by rw [Nat.xor_mod_two_pow]; simp
  have h2 : (b ^^^ 2 ^ 63) / 2 ^ 63 = (b / 2 ^ 63) ^^^ 1 := by rw [Nat.xor_div_two_pow]
  have hsw : Format.signWeight double = 2 ^ 63 := rfl
  have hneg : ((b ^^^ 2 ^ 63) / 2 ^ 63 % 2 == 1) = !(b / 2 ^ 63 % 2 == 1) := by
    rw [h2]
    have hq : b / 2 ^ 63 = 0 ∨ b / 2 ^ 63 = 1 := by omega
    rcases hq with hq | hq <;> rw [hq] <;> rfl
  unfold Format.read
  simp only [hsw, h1, hneg]
  split
  · rfl
  · split
    · rfl
    · split <;> rfl
theorem told_ok {a : Nat} (h : Format.order double a 4741671816366391296 = some .lt) (hs : ∀ m e, Format.read double a = .number true m e → m = 0) (hi : Format.read double a ≠ .infinity true) :
    ∃ r1 r2 z, Format.mul double a 4696837146684686336 = some r1 ∧ Format.add double r1 4602678819172646912 = some r2 ∧ (Format.read double r2).toInt .zero = some z ∧ z.natAbs < 2 ^ 60 := by
  have key : ∃ s m e, Format.read double a = .number s m e ∧ Low 29 m e := by
    cases hr : Format.read double a with
    | nan s t => unfold Format.order at h; rw [hr] at h; simp [Datum.order] at h
    | infinity s =>
      unfold Format.order at h
      rw [hr, read_e9] at h
      cases s
      · simp [Datum.order] at h
      · exact absurd hr hi
    | number s m e =>
      refine ⟨s, m, e, rfl, ?_⟩
      cases s with
      | true => exact .inl (hs m e hr)
      | false =>
        have := low_order hr read_e9 h
        exact this.mono (by decide)
  obtain ⟨s, m, e, h1, h2⟩ := key
  obtain ⟨r1, m1, e1, a1, a2, a3⟩ := low_mul h1 read_e6 h2 (L := 20) (.inr (by decide)) (by omega) (by omega)
  obtain ⟨r2, s2, m2, e2, b1, b2, b3⟩ := low_add a2 read_half (a3.mono (by omega : _ ≤ (52 : Int))) (.inr (by decide)) (by omega) (by omega)
  obtain ⟨z, c1, c2⟩ := low_int (s := s2) b3 (by omega)
  refine ⟨r1, r2, z, a1, b1, by rw [b2]; exact c1, Nat.lt_of_lt_of_le c2 (Nat.pow_le_pow_right (by omega) (by omega))⟩
theorem div_ok (k : Int) (hk : k.natAbs < 2 ^ 64) : ∃ q, Format.div double (FloatKind.nearest .f64 k) 4696837146684686336 = some q := by
  have hl : Low 64 k.natAbs 0 := by
    rcases Nat.eq_zero_or_pos k.natAbs with h | h
    · exact .inl h
    · have := (Nat.log2_lt (by omega)).2 hk
      exact .inr (by omega)
  obtain ⟨m, e, h1, h2⟩ := low_write (s := decide (k < 0)) hl (by omega) (by omega)
  have hd : ∃ d, Datum.quotient (double.fractionBits + 2) (Format.read double (Format.write double (.number (decide (k < 0)) k.natAbs 0))) (Format.read double 4696837146684686336) = some d := by
    rw [h1, read_e6]
    exact ⟨_, rfl⟩
  obtain ⟨d, hd⟩ := hd
  refine ⟨Format.write double d, ?_⟩
  show (Datum.quotient (double.fractionBits + 2) (Format.read double (Format.write double (.number (decide (k < 0)) k.natAbs 0))) (Format.read double 4696837146684686336)).map _ = _
  rw [hd]; rfl
theorem pos_ok {b : Nat} (h : Format.order double b 0 ≠ some .lt) : (∀ m e, Format.read double b = .number true m e → m = 0) ∧ Format.read double b ≠ .infinity true := by
  unfold Format.order at h
  rw [read_zero] at h
  constructor
  · intro m e hr
    rw [hr] at h
    apply Classical.byContradiction
    intro hm
    apply h
    simp only [Datum.order, signed, Option.some.injEq]
    simp only [if_true, Bool.false_eq_true, if_false, Nat.zero_shiftLeft, Nat.shiftLeft_eq]
    have hp : 0 < m * 2 ^ (e - min e (-1074)).toNat := Nat.mul_pos (by omega) (Nat.two_pow_pos _)
    simp only [compare, compareOfLessAndEq]
    rw [if_pos (by omega)]
  · intro hr
    rw [hr] at h
    exact h rfl
theorem neg_ok {b : Nat} (hb : b < 2 ^ 64) (h : Format.order double b 0 = some .lt) (h9 : Format.order double (b ^^^ 2 ^ 63) 4741671816366391296 = some .lt) :
    (∀ m e, Format.read double (b ^^^ 2 ^ 63) = .number true m e → m = 0) ∧ Format.read double (b ^^^ 2 ^ 63) ≠ .infinity true := by
  have hn := read_neg hb
  unfold Format.order at h
  rw [read_zero] at h
  constructor
  · intro m e hr
    rw [hn] at hr
    cases hrb : Format.read double b with
    | nan s t => rw [hrb] at hr; cases hr
    | infinity s => rw [hrb] at hr; cases hr
    | number s m' e' =>
      rw [hrb] at hr h
      simp only [Datum.opposite, Datum.number.injEq, Bool.not_eq_true'] at hr
      obtain ⟨rfl, rfl, rfl⟩ := hr
      exfalso
      simp only [Datum.order, signed, Bool.false_eq_true, if_false, Option.some.injEq, Nat.zero_shiftLeft] at h
      generalize m' <<< (e' - min e' (-1074)).toNat = q at h
      simp only [compare, compareOfLessAndEq] at h
      rw [if_neg (by omega)] at h
      split at h <;> cases h
  · intro hr
    rw [hn] at hr
    cases hrb : Format.read double b with
    | nan s t => rw [hrb] at hr; cases hr
    | number s m' e' => rw [hrb] at hr; cases hr
    | infinity s =>
      rw [hrb] at hr h
      cases s
      · cases h
      · cases hr
end Go.AM
namespace Go.AM
open Go.RowKit
variable {α : Type}
def sl (y : Nat) : Nat → Value
  | 0 => .slice none 0 0
  | m + 1 => .slice (some ⟨y, 0, none⟩) (m + 1 : Nat) (m + 1 : Nat)
def llcells (ys : Nat → Nat) (ls : List (List α)) : List Value := ls.mapIdx fun v l => sl (ys v) l.length
structure LL (m : Nat) (H : Heap) (x ty ety : Nat) (enc : α → List Value) (ls : List (List α)) (ys : Nat → Nat) : Prop where
  hx : H x = .cells (llcells ys ls) ty true
  hy : ∀ v (h : v < ls.length), ls[v] ≠ [] → H (ys v) = .cells (ls[v].flatMap enc) ety true
  inj : ∀ u v (hu : u < ls.length) (hv : v < ls.length), ls[u] ≠ [] → ls[v] ≠ [] → ys u = ys v → u = v
  fy : ∀ v (h : v < ls.length), ls[v] ≠ [] → m ≤ ys v
  ne : ∀ v (h : v < ls.length), ls[v] ≠ [] → ys v ≠ x
section
variable {m n n' x ty ety : Nat} {H H' : Heap} {enc : α → List Value} {ls : List (List α)} {ys : Nat → Nat}
theorem live_lt (hw : WF n H) {z : Nat} (h : H z ≠ .dead) : z < n := by
  apply Classical.byContradiction
  intro hc
  exact h (hw z (by omega))
theorem live_of {z : Nat} {cs : List Value} {t : TypeId} {own : Bool} (h : H z = .cells cs t own) : H z ≠ .dead := by rw [h]; intro e; cases e
end
end Go.AM
namespace Go.AM
inductive Nul (g : Gram) : Int → Prop
  | mk (i : Nat) (h : i < g.rules.length) (h0 : ∀ s ∈ g.rules[i].right, 0 ≤ s) (h1 : ∀ s ∈ g.rules[i].right, Nul g s) : Nul g g.rules[i].left
inductive Prd (g : Gram) : Int → Prop
  | mk (i : Nat) (h : i < g.rules.length) (h1 : ∀ s ∈ g.rules[i].right, 0 ≤ s → Prd g s) : Prd g g.rules[i].left
inductive Der (rb : GRule → List Bool → Bool) (rules : List GRule) (hs : List Bool) : List Bool → Prop
  | refl : Der rb rules hs hs
  | step {h1 : List Bool} (d : Der rb rules hs h1) (r : GRule) (hr : r ∈ rules) (hb : rb r h1 = true) : Der rb rules hs (h1.set r.left.toNat true)
def nulB (right : List Int) (hs : List Bool) : Bool := right.all fun s => decide (0 ≤ s) && hs.getD s.toNat false
def prdB (right : List Int) (hs : List Bool) : Bool := right.all fun s => decide (s < 0) || hs.getD s.toNat false
structure InG (g : Gram) : Prop where
  left0 : ∀ r ∈ g.rules, 0 ≤ r.left
  left1 : ∀ r ∈ g.rules, r.left < g.vars.length
  right : ∀ r ∈ g.rules, ∀ s ∈ r.right, s < g.vars.length
  rightT : ∀ r ∈ g.rules, ∀ s ∈ r.right, s < 0 → -s - 1 < g.terms.length
def hold (hs : List Bool) (v : Int) : Prop := 0 ≤ v ∧ hs.getD v.toNat false = true
theorem hold_set {hs : List Bool} {w v : Int} (hw : 0 ≤ w) (h : hold (hs.set w.toNat true) v) : hold hs v ∨ v = w := by
  obtain ⟨h0, h⟩ := h
  rw [List.getD_eq_getElem?_getD, List.getElem?_set] at h
  by_cases e : w.toNat = v.toNat
  · exact .inr (by omega)
  · rw [if_neg e] at h
    exact .inl ⟨h0, by rwa [List.getD_eq_getElem?_getD]⟩
theorem nulB_hold {right : List Int} {hs : List Bool} : nulB right hs = true ↔ ∀ s ∈ right, hold hs s := by
  unfold nulB hold
  rw [List.all_eq_true]
  simp
theorem prdB_hold {right : List Int} {hs : List Bool} : prdB right hs = true ↔ ∀ s ∈ right, 0 ≤ s → hold hs s := by
  unfold prdB hold
  rw [List.all_eq_true]
  constructor
  · intro h s hs h0
    have := h s hs
    simp at this
    exact ⟨h0, by rcases this with h | h; omega; simpa using h⟩
  · intro h s hs
    rcases Int.lt_or_le s 0 with h0 | h0
    · simp [h0]
    · have := (h s hs h0).2
      simp at this
      simp [this]
theorem der_nul {g : Gram} (hg : InG g) {n : Nat} {hs : List Bool} (d : Der (fun r => nulB r.right) g.rules (List.replicate n false) hs) : ∀ v, hold hs v → Nul g v := by
  induction d with
  | refl =>
    intro v h
    exfalso
    have := h.2
    rw [List.getD_eq_getElem?_getD, List.getElem?_replicate] at this
    split at this <;> simp at this
  | step d r hr hb ih =>
    intro v h
    rcases hold_set (hg.left0 r hr) h with h | rfl
    · exact ih v h
    · obtain ⟨i, hi, rfl⟩ := List.getElem_of_mem hr
      exact .mk i hi (fun s hs => ((nulB_hold.1 hb) s hs).1) (fun s hs => ih s ((nulB_hold.1 hb) s hs))
theorem closed_nul {g : Gram} (hg : InG g) {hs : List Bool} (hc : ∀ r ∈ g.rules, hs.getD r.left.toNat false = true ∨ nulB r.right hs = false) : ∀ v, Nul g v → hold hs v := by
  intro v h
  induction h with
  | mk i h h0 h1 ih =>
    have hm := List.getElem_mem h
    rcases hc _ hm with e | e
    · exact ⟨hg.left0 _ hm, e⟩
    · rw [nulB_hold.2 fun s hs => ih s hs] at e; cases e
theorem der_prd {g : Gram} (hg : InG g) {n : Nat} {hs : List Bool} (d : Der (fun r => prdB r.right) g.rules (List.replicate n false) hs) : ∀ v, hold hs v → Prd g v := by
  induction d with
  | refl =>
    intro v h
    exfalso
    have := h.2
    rw [List.getD_eq_getElem?_getD, List.getElem?_replicate] at this
    split at this <;> simp at this
  | step d r hr hb ih =>
    intro v h
    rcases hold_set (hg.left0 r hr) h with h | rfl
    · exact ih v h
    · obtain ⟨i, hi, rfl⟩ := List.getElem_of_mem hr
      exact .mk i hi (fun s hs h0 => ih s ((prdB_hold.1 hb) s hs h0))
theorem closed_prd {g : Gram} (hg : InG g) {hs : List Bool} (hc : ∀ r ∈ g.rules, hs.getD r.left.toNat false = true ∨ prdB r.right hs = false) : ∀ v, Prd g v → hold hs v := by
  intro v h
  induction h with
  | mk i h h1 ih =>
    have hm := List.getElem_mem h
    rcases hc _ hm with e | e
    · exact ⟨hg.left0 _ hm, e⟩
    · rw [prdB_hold.2 fun s hs h0 => ih s hs h0] at e; cases e
structure Edg (g : Gram) (v : Int) (i at_ : Nat) (u : Int) : Prop where
  hi : i < g.rules.length
  left : g.rules[i].left = v
  hat : g.rules[i].right[at_]? = some u
  u0 : 0 ≤ u
  nul : ∀ q, q < at_ → ∀ s, g.rules[i].right[q]? = some s → Nul g s
def Beg (g : Gram) (v u : Int) : Prop := ∃ i at_, Edg g v i at_ u
inductive Rch (g : Gram) (v : Int) : Int → Prop
  | one {u : Int} (h : Beg g v u) : Rch g v u
  | more {u w : Int} (h : Rch g v u) (k : Beg g u w) : Rch g v w
end Go.AM
namespace Go.AM
structure GoodRow (g : Gram) (v : Nat) (r : List Bool) : Prop where
  len : r.length = g.vars.length
  mem : ∀ u : Nat, r[u]? = some true ↔ Rch g v u
structure Work (g : Gram) (v : Nat) (r : List Bool) (todo : List Nat) (busy : Nat → Prop) : Prop where
  sound : ∀ u : Nat, r[u]? = some true → Rch g v u
  known : ∀ u, u ∈ todo → u = v ∨ r[u]? = some true
  closed : ∀ u : Nat, u = v ∨ r[u]? = some true → u ∈ todo ∨ busy u ∨ ∀ w : Nat, Beg g u w → r[w]? = some true
end Go.AM
namespace Go.AM
structure RoundTo (rb : GRule → List Bool → Bool) (rules : List GRule) (k : Nat) (hs nx : List Bool) : Prop where
  len : nx.length = hs.length
  mem : ∀ v : Nat, v < hs.length → (nx.getD v false = true ↔ hs.getD v false = true ∨ ∃ i, ∃ h : i < rules.length, i < k ∧ rules[i].left = v ∧ rb rules[i] hs = true)
end Go.AM
namespace Go.AM
def neg (s : Int) : Bool := decide (s < 0)
theorem takeWhile_neg {l : List Int} {s : Int} (h : s ∈ l.takeWhile neg) : s < 0 := by
  induction l with
  | nil => simp at h
  | cons a l ih =>
    rw [List.takeWhile_cons] at h
    split at h
    · rename_i ha
      rcases List.mem_cons.1 h with rfl | h
      · simpa [neg] using ha
      · exact ih h
    · simp at h
def stepS (g : Gram) (form : List Int) (r : Int) : List Int × Nat :=
  if r < 0 ∨ (g.rules.length : Int) ≤ r then ([], 12) else
  match form.dropWhile neg with
  | [] => ([], 13)
  | u :: rest => match g.rules[r.toNat]? with
    | some rule => if rule.left = u then (form.takeWhile neg ++ rule.right ++ rest, 0) else ([], 14)
    | none => ([], 12)
structure Laid (done pend : List Int) : Prop where
  done : ∀ s ∈ done, s < 0
  pend : ∀ s, pend[0]? = some s → 0 ≤ s
end Go.AM
namespace Go.AM
def farN : Nat := 1073741824
inductive WdL (g : Gram) : List Int → Nat → Prop
  | nil : WdL g [] 0
  | term {s : Int} {rest : List Int} {n : Nat} (h : s < 0) (k : WdL g rest n) : WdL g (s :: rest) (n + 1)
  | var {i : Nat} (h : i < g.rules.length) {rest : List Int} {a b : Nat} (x : WdL g g.rules[i].right a) (k : WdL g rest b) : WdL g (g.rules[i].left :: rest) (a + b)
def sumC (c : Nat → Nat) : List Int → Nat
  | [] => 0
  | s :: rest => (if s < 0 then 1 else c s.toNat) + sumC c rest
theorem sumC_append (c : Nat → Nat) (a b : List Int) : sumC c (a ++ b) = sumC c a + sumC c b := by
  induction a with
  | nil => simp [sumC]
  | cons s a ih => simp [sumC, ih]; omega
def priceA (c : Nat → Nat) (d : Nat → Bool) : Nat → List Int → Option Nat
  | n, [] => some n
  | n, s :: rest => if s < 0 then priceA c d (n + 1) rest else if d s.toNat then priceA c d (min (n + c s.toNat) farN) rest else none
def allDone (d : Nat → Bool) (l : List Int) : Prop := ∀ s ∈ l, 0 ≤ s → d s.toNat = true
theorem priceA_some {c : Nat → Nat} {d : Nat → Bool} : ∀ (l : List Int) (n m : Nat), priceA c d n l = some m → allDone d l ∧ (m < farN → m = n + sumC c l) := by
  intro l
  induction l with
  | nil => intro n m h; simp [priceA] at h; subst h; exact ⟨(fun s hs => by cases hs), fun _ => by simp [sumC]⟩
  | cons s l ih =>
    intro n m h
    simp only [priceA] at h
    split at h
    · rename_i hs
      obtain ⟨h1, h2⟩ := ih _ _ h
      refine ⟨fun t ht h0 => ?_, fun hm => ?_⟩
      · rcases List.mem_cons.1 ht with rfl | ht
        · omega
        · exact h1 t ht h0
      · rw [h2 hm, sumC, if_pos hs]; omega
    · rename_i hs
      split at h
      · rename_i hd
        obtain ⟨h1, h2⟩ := ih _ _ h
        refine ⟨fun t ht h0 => ?_, fun hm => ?_⟩
        · rcases List.mem_cons.1 ht with rfl | ht
          · exact hd
          · exact h1 t ht h0
        · have := h2 hm
          rw [sumC, if_neg hs]; omega
      · cases h
theorem priceA_of {c : Nat → Nat} {d : Nat → Bool} : ∀ (l : List Int) (n : Nat), allDone d l → n + sumC c l < farN → priceA c d n l = some (n + sumC c l) := by
  intro l
  induction l with
  | nil => intro n _ _; simp [priceA, sumC]
  | cons s l ih =>
    intro n hd hf
    have hd' : allDone d l := fun t ht => hd t (by simp [ht])
    simp only [priceA]
    rw [sumC] at hf ⊢
    split
    · rename_i hs
      rw [if_pos hs] at hf
      rw [ih _ hd' (by omega)]
      congr 1; omega
    · rename_i hs
      rw [if_neg hs] at hf
      rw [if_pos (hd s (by simp) (by omega)), Nat.min_eq_left (by omega), ih _ hd' (by omega)]
      congr 1; omega
inductive Ranked (g : Gram) (c : Nat → Nat) (best : Nat → Int) : List Nat → Prop
  | nil : Ranked g c best []
  | snoc {l : List Nat} {v i : Nat} (h : Ranked g c best l) (hv : v ∉ l) (hi : i < g.rules.length) (hb : best v = (i : Int)) (hl : g.rules[i].left = (v : Int)) (hr : ∀ s ∈ g.rules[i].right, 0 ≤ s → s.toNat ∈ l) (hc : c v = sumC c g.rules[i].right) (hf : c v < farN) : Ranked g c best (l ++ [v])
theorem Ranked.wd {g : Gram} {c : Nat → Nat} {best : Nat → Int} {l : List Nat} (h : Ranked g c best l) : ∀ v, v ∈ l → WdL g [(v : Int)] (c v) := by
  induction h with
  | nil => intro v hv; cases hv
  | @snoc l v i h hv hi hb hl hr hc hf ih =>
    intro w hw
    rcases List.mem_append.1 hw with hw | hw
    · exact ih w hw
    · simp at hw
      subst hw
      have key : ∀ r : List Int, (∀ s ∈ r, 0 ≤ s → s.toNat ∈ l) → WdL g r (sumC c r) := by
        intro r
        induction r with
        | nil => intro _; exact .nil
        | cons s r ihr =>
          intro hr
          have hrest := ihr fun t ht => hr t (by simp [ht])
          rw [sumC]
          by_cases hs : s < 0
          · rw [if_pos hs, Nat.add_comm]
            exact .term hs hrest
          · rw [if_neg hs]
            have hm := ih s.toNat (hr s (by simp) (by omega))
            obtain ⟨k, rfl⟩ : ∃ k : Nat, s = k := ⟨s.toNat, by omega⟩
            rw [Int.toNat_natCast] at hm ⊢
            have join : ∀ (x : List Int) (a : Nat), WdL g x a → x = [(k : Int)] → WdL g ((k : Int) :: r) (a + sumC c r) := by
              intro x a hx
              cases hx with
              | nil => intro e; cases e
              | term h k' => intro e; simp at e; omega
              | @var i' h' rest a' b' x' k' =>
                intro e
                simp at e
                obtain ⟨e1, e2⟩ := e
                subst e2
                cases k'
                rw [← e1]
                exact .var h' x' hrest
            exact join _ _ hm rfl
      have := WdL.var hi (key _ hr) .nil
      rw [hl, ← hc] at this
      exact this
structure Dij (g : Gram) (c : Nat → Nat) (d : Nat → Bool) : Prop where
  least : ∀ v k, v < g.vars.length → d v = true → WdL g [(v : Int)] k → c v ≤ k
  relax : ∀ i (h : i < g.rules.length), d g.rules[i].left.toNat = false → allDone d g.rules[i].right → sumC c g.rules[i].right < farN → c g.rules[i].left.toNat ≤ sumC c g.rules[i].right
theorem Dij.bound {g : Gram} (hg : InG g) {c : Nat → Nat} {d : Nat → Bool} (h : Dij g c d) {m : Nat} (hm : ∀ v, v < g.vars.length → d v = false → m ≤ c v) (hf : m ≤ farN) :
    ∀ (l : List Int) (n : Nat), WdL g l n → (∀ s ∈ l, s < g.vars.length) → (∃ s ∈ l, 0 ≤ s ∧ d s.toNat = false) ∧ m ≤ n ∨ allDone d l ∧ sumC c l ≤ n := by
  intro l n hw
  induction hw with
  | nil => intro _; exact .inr ⟨(fun s hs => by cases hs), by simp [sumC]⟩
  | @term s rest n hs k ih =>
    intro hl
    rcases ih (fun t ht => hl t (by simp [ht])) with ⟨⟨t, ht, h0, h1⟩, h2⟩ | ⟨h1, h2⟩
    · exact .inl ⟨⟨t, by simp [ht], h0, h1⟩, by omega⟩
    · refine .inr ⟨fun t ht h0 => ?_, ?_⟩
      · rcases List.mem_cons.1 ht with rfl | ht
        · omega
        · exact h1 t ht h0
      · rw [sumC, if_pos hs]; omega
  | @var i hi rest a b x k ihx ihk =>
    intro hl
    have hm' := List.getElem_mem hi
    have hl0 := hg.left0 _ hm'
    have hl1 := hg.left1 _ hm'
    by_cases hd : d g.rules[i].left.toNat = true
    · have hla : c g.rules[i].left.toNat ≤ a := by
        have := h.least g.rules[i].left.toNat a (by omega) hd
        rw [Int.toNat_of_nonneg hl0] at this
        exact this (by simpa using WdL.var hi x .nil)
      rcases ihk (fun t ht => hl t (by simp [ht])) with ⟨⟨t, ht, h0, h1⟩, h2⟩ | ⟨h1, h2⟩
      · exact .inl ⟨⟨t, by simp [ht], h0, h1⟩, by omega⟩
      · refine .inr ⟨fun t ht h0 => ?_, ?_⟩
        · rcases List.mem_cons.1 ht with rfl | ht
          · exact hd
          · exact h1 t ht h0
        · rw [sumC, if_neg (by omega)]; omega
    · have hd' : d g.rules[i].left.toNat = false := by simpa using hd
      refine .inl ⟨⟨_, by simp, hl0, hd'⟩, ?_⟩
      have hmc := hm _ (show g.rules[i].left.toNat < g.vars.length by omega) hd'
      rcases ihx (fun t ht => hg.right _ hm' t ht) with ⟨_, h2⟩ | ⟨h1, h2⟩
      · omega
      · by_cases hs : sumC c g.rules[i].right < farN
        · have := h.relax i hi hd' h1 hs
          omega
        · omega
end Go.AM
namespace Go.AM
theorem sumC_congr {c c' : Nat → Nat} {l : List Nat} (h : ∀ v, v ∈ l → c' v = c v) : ∀ r : List Int, (∀ s ∈ r, 0 ≤ s → s.toNat ∈ l) → sumC c' r = sumC c r := by
  intro r
  induction r with
  | nil => intro _; rfl
  | cons s r ih =>
    intro hr
    rw [sumC, sumC, ih fun t ht => hr t (by simp [ht])]
    by_cases hs : s < 0
    · rw [if_pos hs, if_pos hs]
    · rw [if_neg hs, if_neg hs, h _ (hr s (by simp) (by omega))]
theorem Ranked.congr {g : Gram} {c c' : Nat → Nat} {b b' : Nat → Int} {l : List Nat} (h : Ranked g c b l) : (∀ v, v ∈ l → c' v = c v ∧ b' v = b v) → Ranked g c' b' l := by
  induction h with
  | nil => intro _; exact .nil
  | @snoc l v i h hv hi hb hl hr hc hf ih =>
    intro e
    have e' : ∀ w, w ∈ l → c' w = c w ∧ b' w = b w := fun w hw => e w (by simp [hw])
    have ev := e v (by simp)
    refine .snoc (ih e') hv hi (by rw [ev.2]; exact hb) hl hr ?_ (by rw [ev.1]; exact hf)
    rw [ev.1, hc, sumC_congr (fun w hw => (e' w hw).1) _ hr]
theorem Ranked.nodup {g : Gram} {c : Nat → Nat} {b : Nat → Int} {l : List Nat} (h : Ranked g c b l) : l.Nodup := by
  induction h with
  | nil => exact List.nodup_nil
  | snoc h hv hi hb hl hr hc hf ih =>
    rw [List.nodup_append]
    refine ⟨ih, by simp, fun a ha x hx => ?_⟩
    simp at hx; subst hx
    rintro rfl; exact hv ha
theorem Ranked.lt {g : Gram} (hg : InG g) {c : Nat → Nat} {b : Nat → Int} {l : List Nat} (h : Ranked g c b l) : ∀ v, v ∈ l → v < g.vars.length := by
  induction h with
  | nil => intro v hv; cases hv
  | @snoc l v i h hv hi hb hl hr hc hf ih =>
    intro w hw
    rcases List.mem_append.1 hw with hw | hw
    · exact ih w hw
    · simp at hw; subst hw
      have := hg.left1 _ (List.getElem_mem hi)
      rw [hl] at this; omega
theorem nodup_le : ∀ (n : Nat) (l : List Nat), l.Nodup → (∀ v, v ∈ l → v < n) → l.length ≤ n := by
  intro n
  induction n with
  | zero =>
    intro l _ hl
    cases l with
    | nil => simp
    | cons a l => exact absurd (hl a (by simp)) (by omega)
  | succ n ih =>
    intro l hd hl
    have h1 := ih (l.erase n) (hd.erase n) (fun v hv => by
      have := (hd.mem_erase_iff).1 hv
      have := hl v this.2
      omega)
    by_cases hn : n ∈ l
    · rw [List.length_erase_of_mem hn] at h1; omega
    · rw [List.erase_of_not_mem hn] at h1; omega
theorem all_in {n : Nat} {l : List Nat} (hd : l.Nodup) (hl : ∀ v, v ∈ l → v < n) (hn : l.length = n) : ∀ v, v < n → v ∈ l := by
  intro v hv
  apply Classical.byContradiction
  intro hc
  have h1 : (v :: l).Nodup := List.nodup_cons.2 ⟨hc, hd⟩
  have h2 := nodup_le n (v :: l) h1 (fun w hw => by
    rcases List.mem_cons.1 hw with rfl | hw
    · exact hv
    · exact hl w hw)
  rw [List.length_cons] at h2
  omega
structure CInv (g : Gram) (c : Nat → Nat) (b : Nat → Int) (d : Nat → Bool) (ord : List Nat) (i : Nat) : Prop where
  ranked : Ranked g c b ord
  done : ∀ v, v < g.vars.length → (d v = true ↔ v ∈ ord)
  least : ∀ v k, v < g.vars.length → d v = true → WdL g [(v : Int)] k → c v ≤ k
  cap : ∀ v, v < g.vars.length → c v ≤ farN
  ach : ∀ v, v < g.vars.length → d v = false → c v < farN → ∃ i, ∃ h : i < g.rules.length, b v = (i : Int) ∧ g.rules[i].left = (v : Int) ∧ (∀ s ∈ g.rules[i].right, 0 ≤ s → s.toNat ∈ ord) ∧ c v = sumC c g.rules[i].right
  relax : ∀ j (h : j < g.rules.length), j < i → d g.rules[j].left.toNat = false → allDone d g.rules[j].right → sumC c g.rules[j].right < farN → c g.rules[j].left.toNat ≤ sumC c g.rules[j].right
section
variable {g : Gram} {c : Nat → Nat} {b : Nat → Int} {d : Nat → Bool} {ord : List Nat} {i : Nat}
theorem CInv.start (c : Nat → Nat) (b : Nat → Int) (d : Nat → Bool) (hc : ∀ v, v < g.vars.length → c v = farN) (hd : ∀ v, v < g.vars.length → d v = false) : CInv g c b d [] 0 :=
  ⟨.nil, fun v hv => by rw [hd v hv]; simp, fun v k hv e => (by rw [hd v hv] at e; cases e), fun v hv => by rw [hc v hv]; exact Nat.le_refl _, fun v hv _ h => by rw [hc v hv] at h; omega, fun j h hj => by omega⟩
theorem allDone_ord (h : CInv g c b d ord i) (hg : InG g) {r : GRule} (hr : r ∈ g.rules) : allDone d r.right ↔ ∀ s ∈ r.right, 0 ≤ s → s.toNat ∈ ord := by
  constructor
  · intro ha s hs h0
    exact (h.done _ (by have := hg.right r hr s hs; omega)).1 (ha s hs h0)
  · intro ha s hs h0
    exact (h.done _ (by have := hg.right r hr s hs; omega)).2 (ha s hs h0)
theorem CInv.skip (h : CInv g c b d ord i) (hi : i < g.rules.length) (hn : d g.rules[i].left.toNat = false → allDone d g.rules[i].right → sumC c g.rules[i].right < farN → c g.rules[i].left.toNat ≤ sumC c g.rules[i].right) : CInv g c b d ord (i + 1) :=
  ⟨h.ranked, h.done, h.least, h.cap, h.ach, fun j hj hji => by
    by_cases e : j = i
    · subst e; exact hn
    · exact h.relax j hj (by omega)⟩
theorem CInv.take (h : CInv g c b d ord i) (hg : InG g) (hi : i < g.rules.length) {l : Nat} (hl : g.rules[i].left = (l : Int)) (hd : d l = false) (ha : allDone d g.rules[i].right) {m : Nat} (hm : m = sumC c g.rules[i].right) (hf : m < farN) (hlt : m < c l)
    {c' : Nat → Nat} {b' : Nat → Int} (hc : ∀ v, c' v = if v = l then m else c v) (hb : ∀ v, b' v = if v = l then (i : Int) else b v) : CInv g c' b' d ord (i + 1) := by
  have hlv : l < g.vars.length := by have := hg.left1 _ (List.getElem_mem hi); omega
  have hlo : l ∉ ord := fun hc => by rw [(h.done l hlv).2 hc] at hd; cases hd
  have hne : ∀ v, v ∈ ord → c' v = c v ∧ b' v = b v := fun v hv => by
    have : v ≠ l := fun e => hlo (e ▸ hv)
    exact ⟨by rw [hc, if_neg this], by rw [hb, if_neg this]⟩
  have hle : ∀ v, c' v ≤ c v := fun v => by
    rw [hc]; split
    · rename_i e; subst e; omega
    · exact Nat.le_refl _
  have hs : ∀ r : List Int, (∀ s ∈ r, 0 ≤ s → s.toNat ∈ ord) → sumC c' r = sumC c r := fun r hr => sumC_congr (fun v hv => (hne v hv).1) r hr
  have hord := (allDone_ord h hg (List.getElem_mem hi)).1 ha
  refine ⟨h.ranked.congr hne, h.done, fun v k hv hdv hw => Nat.le_trans (hle v) (h.least v k hv hdv hw), fun v hv => Nat.le_trans (hle v) (h.cap v hv), fun v hv hdv hcv => ?_, fun j hj hji hdj haj hsj => ?_⟩
  · by_cases e : v = l
    · subst e
      refine ⟨i, hi, by rw [hb, if_pos rfl], hl, hord, ?_⟩
      rw [hc, if_pos rfl, hs _ hord, hm]
    · rw [hc, if_neg e] at hcv
      obtain ⟨q, hq, e1, e2, e3, e4⟩ := h.ach v hv hdv hcv
      exact ⟨q, hq, by rw [hb, if_neg e]; exact e1, e2, e3, by rw [hc, if_neg e, hs _ e3, e4]⟩
  · have hoj := (allDone_ord h hg (List.getElem_mem hj)).1 haj
    rw [hs _ hoj] at hsj ⊢
    by_cases e : j = i
    · subst e
      have hlt' : g.rules[j].left.toNat = l := by omega
      rw [hlt', hc, if_pos rfl]; omega
    · exact Nat.le_trans (hle _) (h.relax j hj (by omega) hdj haj hsj)
theorem CInv.dij (h : CInv g c b d ord g.rules.length) : Dij g c d := ⟨h.least, fun j hj => h.relax j hj hj⟩
theorem CInv.choose (h : CInv g c b d ord g.rules.length) (hg : InG g) {a : Nat} (ha : a < g.vars.length) (hd : d a = false) (hf : c a < farN) (hm : ∀ v, v < g.vars.length → d v = false → c a ≤ c v) {d' : Nat → Bool} (hd' : ∀ v, d' v = if v = a then true else d v) : CInv g c b d' (ord ++ [a]) 0 := by
  obtain ⟨i, hi, e1, e2, e3, e4⟩ := h.ach a ha hd hf
  have hao : a ∉ ord := fun hc => by rw [(h.done a ha).2 hc] at hd; cases hd
  refine ⟨.snoc h.ranked hao hi e1 e2 e3 e4 hf, fun v hv => ?_, fun v k hv hdv hw => ?_, h.cap, fun v hv hdv hcv => ?_, fun j hj hji => by omega⟩
  · rw [hd', List.mem_append]
    split
    · rename_i e; subst e; simp
    · rename_i e
      rw [h.done v hv]; simp [e]
  · by_cases e : v = a
    · subst e
      rcases h.dij.bound hg hm (Nat.le_of_lt hf) _ _ hw (fun s hs => by simp at hs; omega) with ⟨_, h2⟩ | ⟨h1, _⟩
      · exact h2
      · have := h1 (v : Int) (by simp) (by omega)
        rw [Int.toNat_natCast, hd] at this; cases this
    · rw [hd', if_neg e] at hdv
      exact h.least v k hv hdv hw
  · have e : v ≠ a := by rintro rfl; rw [hd', if_pos rfl] at hdv; cases hdv
    rw [hd', if_neg e] at hdv
    obtain ⟨q, hq, f1, f2, f3, f4⟩ := h.ach v hv hdv hcv
    exact ⟨q, hq, f1, f2, fun s hs h0 => by simp [f3 s hs h0], f4⟩
structure CostOK (g : Gram) (c : Nat → Nat) (b : Nat → Int) : Prop where
  ranked : ∃ ord, Ranked g c b ord ∧ ∀ v, v < g.vars.length → v ∈ ord ∨ v ∉ ord ∧ c v = farN ∧ b v = -1
  least : ∀ v k, v < g.vars.length → WdL g [(v : Int)] k → c v ≤ k ∨ farN ≤ k ∧ c v = farN
theorem CInv.over (h : CInv g c b d ord i) (hg : InG g) (hx : i = g.rules.length ∧ (∀ v, v < g.vars.length → d v = false → farN ≤ c v) ∨ ord.length = g.vars.length) {c' : Nat → Nat} {b' : Nat → Int} (hc : ∀ v, v < g.vars.length → c' v = if d v then c v else farN) (hb : ∀ v, v < g.vars.length → b' v = if d v then b v else -1) : CostOK g c' b' := by
  have hr : Ranked g c' b' ord := h.ranked.congr fun v hv => by
    have hl := h.ranked.lt hg v hv
    have := (h.done v hl).2 hv
    rw [hc v hl, hb v hl, this]; exact ⟨rfl, rfl⟩
  refine ⟨⟨ord, hr, fun v hv => ?_⟩, fun v k hv hw => ?_⟩
  · by_cases e : v ∈ ord
    · exact .inl e
    · refine .inr ⟨e, ?_⟩
      have hd : d v = false := by
        cases hdv : d v
        · rfl
        · exact absurd ((h.done v hv).1 hdv) e
      rw [hc v hv, hb v hv, hd]; exact ⟨rfl, rfl⟩
  · cases hd : d v
    · right
      rw [hc v hv, hd]
      refine ⟨?_, rfl⟩
      rcases hx with ⟨rfl, hx⟩ | hx
      · rcases h.dij.bound hg (m := farN) hx (Nat.le_refl _) _ _ hw (fun s hs => by simp at hs; omega) with ⟨_, h2⟩ | ⟨h1, _⟩
        · exact h2
        · have := h1 (v : Int) (by simp) (by omega)
          rw [Int.toNat_natCast, hd] at this; cases this
      · have := (h.done v hv).2 (all_in h.ranked.nodup (h.ranked.lt hg) hx v hv)
        rw [hd] at this; cases this
    · left
      rw [hc v hv, hd]
      exact h.least v k hv hd hw
end
end Go.AM
namespace Go.AM
inductive Pre (g : Gram) (b : Nat → Int) : List Int → List Int → Prop
  | nil : Pre g b [] []
  | term {s : Int} {rest d : List Int} (h : s < 0) (k : Pre g b rest d) : Pre g b (s :: rest) d
  | var {i v : Nat} (hi : i < g.rules.length) (hb : b v = (i : Int)) (hl : g.rules[i].left = (v : Int)) {rest d1 d2 : List Int} (x : Pre g b g.rules[i].right d1) (k : Pre g b rest d2) : Pre g b ((v : Int) :: rest) ((i : Int) :: (d1 ++ d2))
inductive PreE (g : Gram) : List Int → List Int → Prop
  | nil : PreE g [] []
  | var {i : Nat} (hi : i < g.rules.length) {rest d1 d2 : List Int} (x : PreE g g.rules[i].right d1) (k : PreE g rest d2) : PreE g (g.rules[i].left :: rest) ((i : Int) :: (d1 ++ d2))
structure Slow (g : Gram) (F : Nat → Nat → Nat) : Prop where
  up : ∀ k v, F k v ≤ F (k + 1) v
  rule : ∀ k i (h : i < g.rules.length), k < g.vars.length → (∀ s ∈ g.rules[i].right, 0 ≤ s ∧ 1 ≤ F k s.toNat) → 1 + sumC (F k) g.rules[i].right ≤ F (k + 1) g.rules[i].left.toNat
end Go.AM
namespace Go.AM
inductive Usd (g : Gram) : Int → Prop
  | base (h : Prd g 0) : Usd g 0
  | step (i : Nat) (h : i < g.rules.length) (hu : Usd g g.rules[i].left) (hp : ∀ s ∈ g.rules[i].right, 0 ≤ s → Prd g s) {s : Int} (hs : s ∈ g.rules[i].right) (h0 : 0 ≤ s) : Usd g s
def UClosed (g : Gram) (ws o : List Bool) : Prop := ∀ r ∈ g.rules, hold o r.left → prdB r.right ws = true → ∀ s ∈ r.right, 0 ≤ s → hold o s
structure UWork (g : Gram) (ws r : List Bool) (todo : List Nat) (busy : Nat → Prop) : Prop where
  sound : ∀ u : Int, hold r u → Usd g u
  known : ∀ u, u ∈ todo → hold r (u : Nat)
  base : hold r 0
  closed : ∀ u : Nat, hold r u → u ∈ todo ∨ busy u ∨ ∀ q ∈ g.rules, q.left = (u : Int) → prdB q.right ws = true → ∀ s ∈ q.right, 0 ≤ s → hold r s
def RUr (ws o : List Bool) (r : GRule) (j : Nat) : Prop := hold o r.left → prdB r.right ws = true → ∀ (p : Nat) (s : Int), p < j → r.right[p]? = some s → 0 ≤ s → hold o s
structure RU (g : Gram) (ws o0 o : List Bool) (k j : Nat) : Prop where
  len : o.length = o0.length
  sound : ∀ v, hold o v → Usd g v
  mono : ∀ v, hold o0 v → hold o v
  stay : UClosed g ws o0 → ∀ v, hold o v → hold o0 v
  prog : (o = o0 ∧ (∀ (i : Nat) (h : i < g.rules.length), i < k → RUr ws o0 g.rules[i] g.rules[i].right.length) ∧ ∀ h : k < g.rules.length, RUr ws o0 g.rules[k] j) ∨ o0.count true < o.count true
section
variable {g : Gram} {ws o0 o : List Bool} {k j : Nat}
end
theorem wd_list {g : Gram} {c : Nat → Nat} : ∀ r : List Int, (∀ s ∈ r, 0 ≤ s → WdL g [s] (c s.toNat)) → WdL g r (sumC c r) := by
  intro r
  induction r with
  | nil => intro _; exact .nil
  | cons s r ihr =>
    intro hr
    have hrest := ihr fun t ht => hr t (by simp [ht])
    rw [sumC]
    by_cases hs : s < 0
    · rw [if_pos hs, Nat.add_comm]
      exact .term hs hrest
    · rw [if_neg hs]
      have hm := hr s (by simp) (by omega)
      have join : ∀ (x : List Int) (a : Nat), WdL g x a → x = [s] → WdL g (s :: r) (a + sumC c r) := by
        intro x a hx
        cases hx with
        | nil => intro e; cases e
        | term h k' => intro e; simp at e; omega
        | @var i' h' rest a' b' x' k' =>
          intro e
          simp at e
          obtain ⟨e1, e2⟩ := e
          subst e2
          cases k'
          rw [← e1]
          exact .var h' x' hrest
      exact join _ _ hm rfl
theorem sumC_mono {c o : Nat → Nat} : ∀ r : List Int, (∀ s ∈ r, 0 ≤ s → c s.toNat ≤ o s.toNat) → sumC c r ≤ sumC o r := by
  intro r
  induction r with
  | nil => intro _; exact Nat.le_refl _
  | cons s r ih =>
    intro h
    have h1 := ih fun t ht => h t (by simp [ht])
    simp only [sumC]
    by_cases hs : s < 0
    · simp only [hs, if_true]; omega
    · have := h s (by simp) (by omega)
      simp only [hs, if_false]; omega
theorem sumC_ge {c : Nat → Nat} : ∀ {r : List Int} {s : Int}, s ∈ r → 0 ≤ s → c s.toNat ≤ sumC c r := by
  intro r
  induction r with
  | nil => intro s h; cases h
  | cons t r ih =>
    intro s hs h0
    simp only [sumC]
    rcases List.mem_cons.1 hs with rfl | hs
    · rw [if_neg (by omega)]; omega
    · have := ih hs h0; omega
def sumF (c : Nat → Nat) : Nat → List Int → Nat
  | a, [] => a
  | a, s :: rest => sumF c (if s < 0 then a + 1 else min (a + c s.toNat) farN) rest
theorem sumF_min (c : Nat → Nat) : ∀ (r : List Int) (a b : Nat), min a farN = min b farN → min (sumF c a r) farN = min (b + sumC c r) farN := by
  intro r
  induction r with
  | nil => intro a b h; simpa [sumF, sumC] using h
  | cons s r ih =>
    intro a b h
    simp only [sumF, sumC]
    by_cases hs : s < 0
    · simp only [hs, if_true]
      rw [ih (a + 1) (b + 1) (by omega)]; congr 1; omega
    · simp only [hs, if_false]
      rw [ih _ (b + c s.toNat) (by omega)]; congr 1; omega
theorem sumF_snoc (c : Nat → Nat) : ∀ (r : List Int) (a : Nat) (s : Int), sumF c a (r ++ [s]) = if s < 0 then sumF c a r + 1 else min (sumF c a r + c s.toNat) farN := by
  intro r
  induction r with
  | nil => intro a s; rfl
  | cons t r ih => intro a s; simp only [List.cons_append, sumF]; exact ih _ s
structure Least (g : Gram) (c : Nat → Nat) : Prop where
  cap : ∀ v, v < g.vars.length → c v ≤ farN
  rel : ∀ r ∈ g.rules, c r.left.toNat ≤ min (sumC c r.right) farN
theorem CostOK.cap {g : Gram} {c : Nat → Nat} {b : Nat → Int} (h : CostOK g c b) : ∀ v, v < g.vars.length → c v ≤ farN := by
  obtain ⟨ord, hr, hall⟩ := h.ranked
  intro v hv
  rcases hall v hv with h1 | ⟨_, h1, _⟩
  · have key : ∀ l : List Nat, Ranked g c b l → ∀ v, v ∈ l → c v ≤ farN := by
      intro l hl
      induction hl with
      | nil => intro v hv; cases hv
      | snoc h hv hi hb hl hr hc hf ih =>
        intro w hw
        rcases List.mem_append.1 hw with hw | hw
        · exact ih w hw
        · simp at hw; subst hw; omega
    exact key ord hr v h1
  · omega
theorem CostOK.rel {g : Gram} (hg : InG g) {c : Nat → Nat} {b : Nat → Int} (h : CostOK g c b) : Least g c := by
  have hcap := h.cap
  refine ⟨hcap, fun r hr => ?_⟩
  have hl0 := hg.left0 r hr
  have hl1 := hg.left1 r hr
  have hc := hcap r.left.toNat (by omega)
  rcases Nat.lt_or_ge (sumC c r.right) farN with hs | hs
  · obtain ⟨ord, hrk, hall⟩ := h.ranked
    have hw : WdL g r.right (sumC c r.right) := wd_list _ fun s hs' h0 => by
      have := sumC_ge (c := c) hs' h0
      rcases hall s.toNat (by have := hg.right r hr s hs'; omega) with h1 | ⟨_, h1, _⟩
      · have := hrk.wd _ h1
        rwa [Int.toNat_of_nonneg h0] at this
      · omega
    obtain ⟨i, hi, rfl⟩ := List.getElem_of_mem hr
    have hv := WdL.var hi hw .nil
    have := h.least g.rules[i].left.toNat _ (by omega) (by rw [Int.toNat_of_nonneg hl0]; exact hv)
    omega
  · omega
theorem Ranked.at {g : Gram} {c : Nat → Nat} {b : Nat → Int} {l : List Nat} (h : Ranked g c b l) : ∀ (i v : Nat), l[i]? = some v → ∃ q, ∃ hq : q < g.rules.length, b v = (q : Int) ∧ g.rules[q].left = (v : Int) ∧ (∀ s ∈ g.rules[q].right, 0 ≤ s → ∃ p, p < i ∧ l[p]? = some s.toNat) ∧ c v = sumC c g.rules[q].right ∧ c v < farN := by
  induction h with
  | nil => intro i v h; simp at h
  | @snoc l v' q h hv hi hb hl hr hc hf ih =>
    intro i v e
    rw [List.getElem?_append] at e
    split at e
    · rename_i hil
      obtain ⟨q, hq, h1, h2, h3, h4⟩ := ih i v e
      refine ⟨q, hq, h1, h2, fun s hs h0 => ?_, h4⟩
      obtain ⟨p, hp, e2⟩ := h3 s hs h0
      exact ⟨p, hp, by rw [List.getElem?_append_left (by omega)]; exact e2⟩
    · rename_i hil
      have hi0 : i - l.length = 0 := by
        cases hx : i - l.length with
        | zero => rfl
        | succ k => rw [hx] at e; simp at e
      rw [hi0] at e
      simp at e
      subst e
      refine ⟨q, hi, hb, hl, fun s hs h0 => ?_, hc, hf⟩
      obtain ⟨p, hp, e2⟩ := List.getElem_of_mem (hr s hs h0)
      exact ⟨p, by omega, by rw [List.getElem?_append_left hp, List.getElem?_eq_getElem hp, e2]⟩
structure BF (g : Gram) (c : Nat → Nat) (b : Nat → Int) (ord : List Nat) (o : Nat → Nat) (i k : Nat) : Prop where
  lo : ∀ v, v < g.vars.length → c v ≤ o v
  hi : ∀ v, v < g.vars.length → o v ≤ farN
  rank : ∀ p v, p < i → ord[p]? = some v → o v = c v
  cur : ∀ v q, ord[i]? = some v → q < k → b v = (q : Int) → o v = c v
section
variable {g : Gram} {c : Nat → Nat} {b : Nat → Int} {ord : List Nat} {o : Nat → Nat} {i k : Nat}
theorem BF.start (hc : Least g c) (ho : ∀ v, v < g.vars.length → o v = farN) : BF g c b ord o 0 0 :=
  ⟨fun v hv => by rw [ho v hv]; exact hc.cap v hv, fun v hv => by rw [ho v hv]; exact Nat.le_refl _, fun p v hp => absurd hp (Nat.not_lt_zero _), fun v q _ hq => absurd hq (Nat.not_lt_zero _)⟩
theorem BF.relax (h : BF g c b ord o i k) (hg : InG g) (hc : Least g c) (hr : Ranked g c b ord) (hk : k < g.rules.length) {l : Nat} (hl : g.rules[k].left = (l : Int)) {m : Nat} (hm : min m farN = min (sumC o g.rules[k].right) farN) {o' : Nat → Nat} (ho' : ∀ v, o' v = if v = l then min (o l) m else o v) : BF g c b ord o' i (k + 1) := by
  have hmem := List.getElem_mem hk
  have hlv : l < g.vars.length := by have := hg.left1 _ hmem; omega
  have hcl := hc.rel _ hmem
  rw [hl, Int.toNat_natCast] at hcl
  have hmono : sumC c g.rules[k].right ≤ sumC o g.rules[k].right := sumC_mono _ fun s hs h0 => h.lo _ (by have := hg.right _ hmem s hs; omega)
  have hcm : c l ≤ m := by omega
  have keep : ∀ v, v < g.vars.length → o v = c v → o' v = c v := by
    intro v hv e
    rw [ho']; split
    · rename_i e2; subst e2; omega
    · exact e
  refine ⟨fun v hv => ?_, fun v hv => ?_, fun p v hp e => ?_, fun v q e hq hb => ?_⟩
  · rw [ho']; split
    · rename_i e; subst e; have := h.lo v hv; omega
    · exact h.lo v hv
  · rw [ho']; split
    · rename_i e; subst e; have := h.hi v hv; omega
    · exact h.hi v hv
  · exact keep v (hr.lt hg v (List.mem_of_getElem? e)) (h.rank p v hp e)
  · have hv := hr.lt hg v (List.mem_of_getElem? e)
    by_cases hqk : q < k
    · exact keep v hv (h.cur v q e hqk hb)
    · have : q = k := by omega
      subst this
      obtain ⟨q', hq', b1, b2, b3, b4, b5⟩ := hr.at i v e
      have : q' = q := by omega
      subst this
      have hvl : v = l := by omega
      subst hvl
      have hs : sumC o g.rules[q'].right = sumC c g.rules[q'].right := by
        apply Nat.le_antisymm
        · refine sumC_mono _ fun s hs h0 => ?_
          obtain ⟨p, hp, e2⟩ := b3 s hs h0
          exact Nat.le_of_eq (h.rank p _ hp e2)
        · exact hmono
      rw [ho', if_pos rfl]
      have := h.lo v hv
      omega
theorem BF.next (h : BF g c b ord o i g.rules.length) (hr : Ranked g c b ord) : BF g c b ord o (i + 1) 0 := by
  refine ⟨h.lo, h.hi, fun p v hp e => ?_, fun v q _ hq => absurd hq (Nat.not_lt_zero _)⟩
  by_cases hpi : p < i
  · exact h.rank p v hpi e
  · have : p = i := by omega
    subst this
    obtain ⟨q, hq, b1, _⟩ := hr.at p v e
    exact h.cur v q e hq b1
end
theorem BF.over {g : Gram} (hg : InG g) {c : Nat → Nat} {b : Nat → Int} {ord : List Nat} (hr : Ranked g c b ord) (hall : ∀ v, v < g.vars.length → v ∈ ord ∨ v ∉ ord ∧ c v = farN ∧ b v = -1) {o : Nat → Nat} (h : BF g c b ord o g.vars.length 0) : ∀ v, v < g.vars.length → o v = c v := by
  intro v hv
  rcases hall v hv with h1 | ⟨_, h1, _⟩
  · obtain ⟨p, hp, e⟩ := List.getElem_of_mem h1
    have := nodup_le g.vars.length ord hr.nodup (hr.lt hg)
    exact h.rank p v (by omega) (by rw [List.getElem?_eq_getElem hp, e])
  · have h2 := h.lo v hv
    have h3 := h.hi v hv
    omega
end Go.AM
namespace Go.AM
inductive PreW (g : Gram) (b : Nat → Int) : List Int → List Int → List Int → Prop
  | nil : PreW g b [] [] []
  | term {s : Int} {rest d w : List Int} (h : s < 0) (k : PreW g b rest d w) : PreW g b (s :: rest) d (s :: w)
  | var {i v : Nat} (hi : i < g.rules.length) (hb : b v = (i : Int)) (hl : g.rules[i].left = (v : Int)) {rest d1 d2 w1 w2 : List Int} (x : PreW g b g.rules[i].right d1 w1) (k : PreW g b rest d2 w2) : PreW g b ((v : Int) :: rest) ((i : Int) :: (d1 ++ d2)) (w1 ++ w2)
open Classical in
noncomputable def szOf (g : Gram) (b : Nat → Int) (v : Nat) : Nat := if h : ∃ D, Pre g b [(v : Int)] D then (Classical.choose h).length else 0
def wideM : Nat := 1048576
structure WD (g : Gram) (b : Nat → Int) (ord : List Nat) (st : Nat → Nat) (i k : Nat) : Prop where
  rank : ∀ p v, p < i → ord[p]? = some v → st v = min (szOf g b v) wideM
  cur : ∀ v, ord[i]? = some v → v < k → st v = min (szOf g b v) wideM
section
variable {g : Gram} {c : Nat → Nat} {b : Nat → Int} {ord : List Nat} {st : Nat → Nat} {i k : Nat}
end
theorem WdL.prd {g : Gram} {l : List Int} {n : Nat} (h : WdL g l n) : ∀ s ∈ l, 0 ≤ s → Prd g s := by
  induction h with
  | nil => intro s hs; cases hs
  | term hs _ ih =>
    intro s h h0
    rcases List.mem_cons.1 h with rfl | h
    · omega
    · exact ih s h h0
  | @var i hi rest m n x k ihx ihk =>
    intro s h h0
    rcases List.mem_cons.1 h with rfl | h
    · exact .mk i hi ihx
    · exact ihk s h h0
theorem WdL.nul {g : Gram} {l : List Int} {n : Nat} (h : WdL g l n) : n = 0 → (∀ r ∈ g.rules, 0 ≤ r.left) → ∀ s ∈ l, 0 ≤ s ∧ Nul g s := by
  induction h with
  | nil => intro _ _ s hs; cases hs
  | term hs _ ih => intro h; omega
  | @var i hi rest m n x k ihx ihk =>
    intro h hl s hs
    rcases List.mem_cons.1 hs with rfl | hs
    · exact ⟨hl _ (List.getElem_mem hi), .mk i hi (fun s hs => (ihx (by omega) hl s hs).1) fun s hs => (ihx (by omega) hl s hs).2⟩
    · exact ihk (by omega) hl s hs
end Go.AM
namespace Go.AM
theorem tw_at {l : List Int} {j : Nat} (hj : j < l.length) (h : ∀ s ∈ l.take j, s < 0) (h0 : 0 ≤ l[j]) : l.takeWhile neg = l.take j ∧ l.dropWhile neg = l[j] :: l.drop (j + 1) := by
  induction l generalizing j with
  | nil => simp at hj
  | cons a l ih =>
    cases j with
    | zero =>
      have e : neg a = false := by simp [neg]; simpa using h0
      simp [e]
    | succ j =>
      have ha := h a (by simp)
      have e : neg a = true := by simp [neg]; exact ha
      obtain ⟨h1, h2⟩ := ih (j := j) (by simpa using hj) (fun s hs => h s (by simp [hs])) (by simpa using h0)
      simp only [List.takeWhile_cons, List.dropWhile_cons, e, if_true, h1, h2]
      exact ⟨rfl, by simp⟩
theorem tw_all {l : List Int} (h : ∀ s ∈ l, s < 0) : l.takeWhile neg = l ∧ l.dropWhile neg = [] := by
  induction l with
  | nil => exact ⟨rfl, rfl⟩
  | cons a l ih =>
    have e : neg a = true := by simp [neg]; exact h a (by simp)
    obtain ⟨h1, h2⟩ := ih fun s hs => h s (by simp [hs])
    simp only [List.takeWhile_cons, List.dropWhile_cons, e, if_true, h1, h2]
    exact ⟨trivial, trivial⟩
end Go.AM
namespace Go.AM
open Go.RowKit
inductive Trie (α : Type) where
  | emp : Trie α
  | leaf (k : Nat) (v : α) : Trie α
  | node (p : Nat) (l r : Trie α) : Trie α
variable {α : Type}
noncomputable def Trie.get (d : α) (t : Trie α) (k : Nat) : α :=
  Trie.rec d (fun j v => Bool.rec d v (Nat.beq j k)) (fun p _ _ gl gr => Bool.rec gl gr (Nat.ble p k)) t
noncomputable def Trie.set (t : Trie α) (k : Nat) (x : α) : Trie α :=
  Trie.rec (.leaf k x) (fun j v => Bool.rec (Bool.rec (.node j (.leaf k x) (.leaf j v)) (.node k (.leaf j v) (.leaf k x)) (Nat.ble j k)) (.leaf k x) (Nat.beq j k)) (fun p l r pl pr => Bool.rec (.node p pl r) (.node p l pr) (Nat.ble p k)) t
noncomputable def Trie.bare (n : Nat) : Nat → Trie α :=
  Nat.rec (fun _ => .emp) (fun m t a => .node (Nat.add a (Nat.pow 2 m)) (t a) (t (Nat.add a (Nat.pow 2 m)))) n
theorem brec_if {β : Type} (x y : β) {p : Prop} [Decidable p] {b : Bool} (h : b = decide p) : (Bool.rec x y b : β) = if p then y else x := by
  subst h
  by_cases hp : p
  · simp [hp]
  · simp [hp]
theorem nble (a b : Nat) : Nat.ble a b = decide (a ≤ b) := by
  cases h : Nat.ble a b
  · symm; simp only [decide_eq_false_iff_not]; intro e; rw [Nat.ble_eq_true_of_le e] at h; cases h
  · symm; simp only [decide_eq_true_eq]; exact Nat.le_of_ble_eq_true h
theorem Trie.get_emp (d : α) (k : Nat) : (Trie.emp : Trie α).get d k = d := rfl
theorem Trie.get_leaf (d : α) (j : Nat) (v : α) (k : Nat) : (Trie.leaf j v).get d k = if j = k then v else d := brec_if _ _ (nbeq j k)
theorem Trie.get_node (d : α) (p : Nat) (l r : Trie α) (k : Nat) : (Trie.node p l r).get d k = if p ≤ k then r.get d k else l.get d k := brec_if _ _ (nble p k)
theorem Trie.set_emp (k : Nat) (x : α) : (Trie.emp : Trie α).set k x = .leaf k x := rfl
theorem Trie.set_leaf (j : Nat) (v : α) (k : Nat) (x : α) : (Trie.leaf j v).set k x = if j = k then .leaf k x else if j ≤ k then .node k (.leaf j v) (.leaf k x) else .node j (.leaf k x) (.leaf j v) := by
  rw [← brec_if _ _ (nble j k)]
  exact brec_if _ _ (nbeq j k)
theorem Trie.set_node (p : Nat) (l r : Trie α) (k : Nat) (x : α) : (Trie.node p l r).set k x = if p ≤ k then .node p l (r.set k x) else .node p (l.set k x) r := brec_if _ _ (nble p k)
theorem Trie.set_get (d : α) (t : Trie α) (k : Nat) (x : α) (j : Nat) : (t.set k x).get d j = cond (Nat.beq j k) x (t.get d j) := by
  have hb : cond (Nat.beq j k) x (t.get d j) = if j = k then x else t.get d j := by
    rw [nbeq]
    by_cases h : j = k <;> simp [h]
  rw [hb]
  clear hb
  induction t with
  | emp =>
    rw [set_emp, get_leaf, get_emp]
    by_cases h : j = k
    · rw [if_pos h.symm, if_pos h]
    · rw [if_neg (Ne.symm h), if_neg h]
  | leaf i v =>
    rw [set_leaf, get_leaf]
    by_cases h1 : i = k
    · rw [if_pos h1, get_leaf]
      subst h1
      by_cases h : j = i
      · subst h; simp
      · simp [h, Ne.symm h]
    · rw [if_neg h1]
      by_cases h2 : i ≤ k
      · rw [if_pos h2, get_node, get_leaf, get_leaf]
        by_cases h3 : j = k
        · subst h3; simp
        · rw [if_neg h3]
          by_cases h4 : k ≤ j
          · rw [if_pos h4, if_neg (Ne.symm h3), if_neg (by omega)]
          · rw [if_neg h4]
      · rw [if_neg h2, get_node, get_leaf, get_leaf]
        by_cases h3 : j = k
        · subst h3; rw [if_neg h2]; simp
        · rw [if_neg h3]
          by_cases h4 : i ≤ j
          · rw [if_pos h4]
          · rw [if_neg h4, if_neg (Ne.symm h3), if_neg (by omega)]
  | node p l r hl hr =>
    rw [set_node, get_node]
    by_cases h1 : p ≤ k
    · rw [if_pos h1, get_node]
      by_cases h2 : p ≤ j
      · rw [if_pos h2, if_pos h2, hr]
      · rw [if_neg h2, if_neg h2, if_neg (by omega)]
    · rw [if_neg h1, get_node]
      by_cases h2 : p ≤ j
      · rw [if_pos h2, if_pos h2, if_neg (by omega)]
      · rw [if_neg h2, if_neg h2, hl]
theorem Trie.bare_get (d : α) (n : Nat) : ∀ a k : Nat, (Trie.bare n a : Trie α).get d k = d := by
  induction n with
  | zero => intro a k; rfl
  | succ n ih =>
    intro a k
    show (Trie.node _ (Trie.bare n a) (Trie.bare n _) : Trie α).get d k = d
    rw [get_node, ih, ih]
    simp
structure StT where
  f : Trie Value
  n : Nat
  H : Trie AObj
noncomputable def StT.st (s : StT) : St := ⟨s.f.get undef, s.n, s.H.get .dead⟩
noncomputable def fputT (f : Trie Value) (d : Option Nat) (v : Value) : Trie Value := match d with | some d => f.set d v | none => f
theorem fputT_get (f : Trie Value) (d : Option Nat) (v : Value) : (fputT f d v).get undef = fput (f.get undef) d v := by
  cases d with
  | none => rfl
  | some d => funext t; exact Trie.set_get undef f d v t
noncomputable def heapT (r : Res) (n : Nat) (H : Trie AObj) : Trie AObj := match r.wr with
  | some (x, o) => match r.news with
    | [] => H.set x o
    | p :: _ => (H.set x o).set n p
  | none => match r.news with
    | [] => H
    | p :: _ => H.set n p
theorem heapT_get (r : Res) (n : Nat) (H : Trie AObj) : (heapT r n H).get .dead = r.heap n (H.get .dead) := by
  funext t
  unfold heapT Res.heap
  split
  · rename_i x o hw
    split
    · rename_i hn; simp only [hw, hn]; exact Trie.set_get _ _ _ _ _
    · rename_i hn; simp only [hw, hn]; rw [Trie.set_get, Trie.set_get]; rfl
  · rename_i hw
    split
    · rename_i hn; simp only [hw, hn]
    · rename_i hn; simp only [hw, hn]; exact Trie.set_get _ _ _ _ _
noncomputable def argsT : List Value → Nat → Trie Value → Trie Value
  | [], _, t => t
  | v :: l, k, t => argsT l (Nat.succ k) (t.set k v)
theorem argsT_get (l : List Value) : ∀ (k : Nat) (t : Trie Value) (j : Nat), (argsT l k t).get undef j = if k ≤ j ∧ j < k + l.length then l.getD (j - k) undef else t.get undef j := by
  induction l with
  | nil => intro k t j; simp only [argsT, List.length_nil]; rw [if_neg (by omega)]
  | cons v l ih =>
    intro k t j
    simp only [argsT]
    rw [ih, Trie.set_get, nbeq]
    simp only [List.length_cons, Nat.succ_eq_add_one]
    by_cases h1 : k + 1 ≤ j ∧ j < k + 1 + l.length
    · rw [if_pos h1, if_pos (by omega)]
      rw [show j - k = (j - (k + 1)) + 1 by omega, List.getD_cons_succ]
    · rw [if_neg h1]
      by_cases h2 : j = k
      · subst h2; rw [if_pos (by omega)]; simp
      · rw [if_neg (by omega)]; simp [h2]
structure OpBox where
  run : (Operand → Value) → Nat → Heap → Option Res
  whole : Bool := false
def opB (P : Program) (o : Oper) : OpBox := match o.op with
  | .move x | .assign x => ⟨fun ρ _ _ => some { v := ρ x }, false⟩
  | .pick c a b => ⟨fun ρ _ _ => tpick (ρ a) (ρ b) (ρ c), false⟩
  | .binOp op t x y _ => ⟨fun ρ n H => tor (vsh op (ρ x) (ρ y)) (tor (vbin P op t (ρ x) (ρ y)) (aop P ρ n H o)), false⟩
  | .unOp op _ x => ⟨fun ρ _ _ => tval (vun op (ρ x)), false⟩
  | .convert s d x => ⟨fun ρ n H => tor (vconv P s d (ρ x)) (aop P ρ n H o), false⟩
  | .index t x i => ⟨fun ρ _ _ => tix P t (ρ x) (ρ i), false⟩
  | .fieldAddr t x i => ⟨fun ρ _ _ => tfa P t i (ρ x), false⟩
  | .indexAddr t x i => ⟨fun ρ _ _ => tidx P t (ρ x) (ρ i), false⟩
  | .alloc t => ⟨fun _ n _ => talloc n t (zeroT P t), false⟩
  | .box t x => ⟨fun ρ n _ => tbox n t (vcells (ρ x)), false⟩
  | .load t a => ⟨fun ρ _ H => tload P t H (ρ a), false⟩
  | .store t a x => ⟨fun ρ _ H => tstore P t H (ρ x) (ρ a), false⟩
  | .makeSlice t l c => ⟨fun ρ n _ => tmake n (emk P t) (ρ l) (ρ c), false⟩
  | .field t x i => ⟨fun ρ _ _ => tfld P t i (ρ x), false⟩
  | .build t ps => ⟨fun ρ _ _ => tbuild (ebd P t) (ps.toList.map fun (i, x) => (i, ρ x)), false⟩
  | .buildSlice t len ps => ⟨fun ρ n _ => tbs n len (ebs P t len) (ps.toList.map fun (i, x) => (i, ρ x)), false⟩
  | .slice t x lo hi none => ⟨fun ρ n H => tsl P t H (aop P ρ n H o) (lo.map ρ) (hi.map ρ) (ρ x), false⟩
  | .extract x i => ⟨fun ρ _ _ => textr i (ρ x), false⟩
  | .nilCheck x => ⟨fun ρ _ _ => match ρ x with
    | .pointer (some a) => some { v := .pointer (some a) }
    | .func (.func g) a b => some { v := .func (.func g) a b }
    | _ => none, true⟩
  | .call { callee := .builtin .len, args, argTypes } => match args.toList with
    | [x] => ⟨fun ρ _ _ => tlen2 (undT P argTypes) (ρ x), false⟩
    | _ => ⟨fun _ _ _ => none, false⟩
  | .call { callee := .builtin .append, args, argTypes } => match args.toList with
    | [s, x] => match growT P argTypes with
      | false => ⟨fun ρ n H => tap n H (ρ s) (ρ x) (eapp P argTypes), false⟩
      | true => ⟨fun ρ n H => agrow P n H argTypes (ρ s) (ρ x), false⟩
    | _ => ⟨fun _ _ _ => none, false⟩
  | .call { callee := .value g, args, .. } => ⟨fun ρ _ _ => match ρ g with
    | .func (.func g) first captured => if first.isEmpty && captured.isEmpty then ok (aext P g (args.toList.map ρ)) else none
    | _ => none, true⟩
  | .lookup t x k ok => ⟨fun ρ _ H => alookup P t H (ρ x) (ρ k) ok, true⟩
  | .mapUpdate t m k x | .insert t m k x => ⟨fun ρ _ H => amapset P t H (ρ m) (ρ k) (ρ x), true⟩
  | _ => ⟨fun ρ n H => aop P ρ n H o, true⟩
theorem opB_top (P : Program) (ρ : Operand → Value) (n : Nat) (H : Heap) (o : Oper) : (opB P o).run ρ n H = top P ρ n H o := by
  obtain ⟨d, op, ty, pos, af, gu⟩ := o
  cases op
  case slice t x lo hi m => cases m <;> rfl
  case call c =>
    obtain ⟨callee, args, argTypes⟩ := c
    cases callee
    case builtin b =>
      cases b
      case len =>
        simp only [opB, top]
        cases args.toList with
        | nil => rfl
        | cons x l => cases l <;> rfl
      case append =>
        simp only [opB, top]
        cases args.toList with
        | nil => rfl
        | cons x l => cases l with
          | nil => rfl
          | cons y l => cases l with
            | nil => cases growT P argTypes <;> rfl
            | cons => rfl
      all_goals rfl
    all_goals rfl
  all_goals rfl
theorem opB_whole (P : Program) (ρ : Operand → Value) (n : Nat) (H : Heap) (o : Oper) (h : (opB P o).whole = true) : (opB P o).run ρ n H = aop P ρ n H o := by
  obtain ⟨d, op, ty, pos, af, gu⟩ := o
  cases op
  case slice t x lo hi m => cases m <;> first | rfl | cases h
  case makeFunc f a b => cases f <;> rfl
  case call c =>
    obtain ⟨callee, args, argTypes⟩ := c
    cases callee
    case builtin b =>
      cases b
      case len =>
        simp only [opB] at h
        split at h <;> cases h
      case append =>
        simp only [opB] at h
        split at h
        · split at h <;> cases h
        · cases h
      all_goals rfl
    all_goals rfl
  all_goals first
    | rfl
    | cases h
noncomputable def aopE (P : Program) (ρ : Operand → Value) (n : Nat) (H : Heap) (o : Oper) : Option Res :=
  Option.rec (Bool.rec (aop P ρ n H o) none (opB P o).whole) (fun r => some r) ((opB P o).run ρ n H)
theorem aopE_eq (P : Program) (ρ : Operand → Value) (n : Nat) (H : Heap) (o : Oper) : aopE P ρ n H o = aop P ρ n H o := by
  unfold aopE
  cases h : (opB P o).run ρ n H with
  | some r => rw [opB_top] at h; exact (top_sound h).symm
  | none =>
    cases hw : (opB P o).whole with
    | false => rfl
    | true => rw [opB_whole P ρ n H o hw] at h; exact h.symm
section
variable (P : Program) (okF : FuncId → Bool)
abbrev CFT := Nat → FuncId → List Value → Nat → Trie AObj → Option (Value × Nat × Trie AObj)
noncomputable def stepT (cf : CFT) (draw : Bool) (fl : Nat) (all : Array Oper) (o : Oper) (rest : List Oper) (ih : StT → Option (StT × List Rec)) (s : StT) : Option (StT × List Rec) :=
  Bool.rec
    (Option.rec none (fun p => some (p.1, ⟨s.st, undef, s.n, s.H.get .dead, [], none, false⟩ :: p.2)) (ih ⟨fputT s.f o.dst undef, s.n, s.H⟩))
    (Option.rec
      (Option.rec none (fun p => Option.rec none (fun q => Option.rec none (fun z => some (z.1, ⟨s.st, q.1, q.2.1, q.2.2.get .dead, [], none, true⟩ :: z.2)) (ih ⟨fputT s.f o.dst q.1, q.2.1, q.2.2⟩)) (cf (evFl draw all (rest.length + 1) s.n fl) p.1 p.2 s.n s.H)) (acallee (evalA (s.f.get undef)) o))
      (fun r => Bool.rec none (Option.rec none (fun z => some (z.1, ⟨s.st, r.v, r.next s.n, (heapT r s.n s.H).get .dead, r.rd, r.wr.map (·.1), false⟩ :: z.2)) (ih ⟨fputT s.f o.dst r.v, r.next s.n, heapT r s.n s.H⟩)) (Option.rec true (fun w => Nat.ble fl w.1) r.wr))
      (aopE P (evalA (s.f.get undef)) s.n (s.H.get .dead) o))
    (wantedA all (s.f.get undef) o)
noncomputable def evOpsT (cf : CFT) (draw : Bool) (fl : Nat) (all : Array Oper) (l : List Oper) : StT → Option (StT × List Rec) :=
  List.rec (fun s => some (s, [])) (fun o rest ih s => stepT P cf draw fl all o rest ih s) l
theorem evOpsT_nil (cf : CFT) (draw : Bool) (fl : Nat) (all : Array Oper) (s : StT) : evOpsT P cf draw fl all [] s = some (s, []) := rfl
theorem stepT_eq (cf : CFT) (draw : Bool) (fl : Nat) (all : Array Oper) (o : Oper) (rest : List Oper) (ih : StT → Option (StT × List Rec)) (s : StT) : stepT P cf draw fl all o rest ih s =
    match wantedA all (s.f.get undef) o with
    | false => match ih ⟨fputT s.f o.dst undef, s.n, s.H⟩ with
      | some (s1, l) => some (s1, ⟨s.st, undef, s.n, s.H.get .dead, [], none, false⟩ :: l)
      | none => none
    | true => match aopE P (evalA (s.f.get undef)) s.n (s.H.get .dead) o with
      | some r =>
        match (match r.wr with | some (x, _) => Nat.ble fl x | none => true) with
        | true => match ih ⟨fputT s.f o.dst r.v, r.next s.n, heapT r s.n s.H⟩ with
          | some (s1, l) => some (s1, ⟨s.st, r.v, r.next s.n, (heapT r s.n s.H).get .dead, r.rd, r.wr.map (·.1), false⟩ :: l)
          | none => none
        | false => none
      | none => match acallee (evalA (s.f.get undef)) o with
        | some (g, args) => match cf (evFl draw all (rest.length + 1) s.n fl) g args s.n s.H with
          | some (v, n, H) => match ih ⟨fputT s.f o.dst v, n, H⟩ with
            | some (s1, l) => some (s1, ⟨s.st, v, n, H.get .dead, [], none, true⟩ :: l)
            | none => none
          | none => none
        | none => none := by
  unfold stepT
  cases wantedA all (s.f.get undef) o with
  | false =>
    dsimp only
    cases ih ⟨fputT s.f o.dst undef, s.n, s.H⟩ <;> rfl
  | true =>
    dsimp only
    cases aopE P (evalA (s.f.get undef)) s.n (s.H.get .dead) o with
    | some r =>
      dsimp only
      cases hw : r.wr with
      | none =>
        dsimp only
        cases ih ⟨fputT s.f o.dst r.v, r.next s.n, heapT r s.n s.H⟩ <;> rfl
      | some w =>
        obtain ⟨x, p⟩ := w
        dsimp only
        cases Nat.ble fl x with
        | false => rfl
        | true =>
          dsimp only
          cases ih ⟨fputT s.f o.dst r.v, r.next s.n, heapT r s.n s.H⟩ <;> rfl
    | none =>
      dsimp only
      cases acallee (evalA (s.f.get undef)) o with
      | none => rfl
      | some p =>
        obtain ⟨g, args⟩ := p
        dsimp only
        cases cf (evFl draw all (rest.length + 1) s.n fl) g args s.n s.H with
        | none => rfl
        | some q =>
          obtain ⟨v, n, H⟩ := q
          dsimp only
          cases ih ⟨fputT s.f o.dst v, n, H⟩ <;> rfl
theorem evOpsT_cons (cf : CFT) (draw : Bool) (fl : Nat) (all : Array Oper) (o : Oper) (rest : List Oper) (s : StT) : evOpsT P cf draw fl all (o :: rest) s = stepT P cf draw fl all o rest (evOpsT P cf draw fl all rest) s := rfl
noncomputable def evCodeT (cf : CFT) : Nat → Nat → Code → StT → Option (AExit × StT)
  | 0, _, _, _ => none
  | k + 1, fl, c, s => match c with
    | .skip | .label _ => some (.normal, s)
    | .ret => some (.ret, s)
    | .exit id => some (.exit id, s)
    | .seq a b => match evCodeT cf k fl a s with
      | some (.normal, s1) => evCodeT cf k fl b s1
      | r => r
    | .cond x a b => match evalA (s.f.get undef) x with
      | .bool t => match t with
        | true => evCodeT cf k fl a s
        | false => evCodeT cf k fl b s
      | _ => none
    | .block id a => match evCodeT cf k fl a s with
      | some (e, s1) => some (blockExit id e, s1)
      | none => none
    | .loop a => match evCodeT cf k fl a s with
      | some (.normal, s1) => evCodeT cf k fl (.loop a) s1
      | r => r
    | .region _ ops draw => match evOpsT P cf draw fl ops ops.toList s with
      | some (s1, l) => match draw with
        | false => some (.normal, s1)
        | true => match pairsOK (sPairs ops) l with
          | true => some (.normal, s1)
          | false => none
      | none => none
    | _ => none
noncomputable def evCallT : Nat → CFT
  | 0, _, _, _, _, _ => none
  | k + 1, fl, g, args, n, H =>
    match okF g with
    | true => match P.funcs[g]? with
      | some fn => match fn.body with
        | some c => match Nat.ble args.length fn.ntmps with
          | true => match evCodeT P (evCallT k) (k + 1) fl c ⟨argsT args 0 (.bare 7 0), n, H⟩ with
            | some (.normal, s) | some (.ret, s) => match aresults P fn s.st with
              | some v => some (v, s.n, s.H)
              | none => none
            | _ => none
          | false => none
        | none => none
      | none => none
    | false => none
end
section
variable {P : Program} {okF : FuncId → Bool}
def SameT (cfT : CFT) (cf : Nat → FuncId → List Value → Nat → Heap → Option (Value × Nat × Heap)) : Prop :=
  ∀ fl g args n H v n' H', cfT fl g args n H = some (v, n', H') → cf fl g args n (H.get .dead) = some (v, n', H'.get .dead)
theorem evOpsT_eq {cfT : CFT} {cf} (hs : SameT cfT cf) {draw : Bool} {fl : Nat} {all : Array Oper} : ∀ (rest : List Oper) (s s1 : StT) (l : List Rec), evOpsT P cfT draw fl all rest s = some (s1, l) → evOps P cf draw fl all rest s.st = some (s1.st, l) := by
  intro rest
  induction rest with
  | nil => intro s s1 l h; simp only [evOpsT_nil] at h; cases h; rfl
  | cons o rest ih =>
    intro s s1 l h
    obtain ⟨f, n, H⟩ := s
    rw [evOpsT_cons, stepT_eq] at h
    simp only [evOps, StT.st]
    split at h
    · rename_i hw
      split at h
      case h_2 => cases h
      rename_i s2 l2 h2
      cases h
      have h3 := ih _ _ _ h2
      simp only [StT.st, fputT_get] at h3
      simp only [hw, h3, StT.st]
    · rename_i hw
      simp only [hw]
      rw [aopE_eq] at h
      split at h
      · rename_i r hr
        split at h
        case h_2 => cases h
        rename_i hfl
        split at h
        case h_2 => cases h
        rename_i s2 l2 h2
        cases h
        have h3 := ih _ _ _ h2
        simp only [StT.st, fputT_get, heapT_get] at h3
        simp only [hr, StT.st, heapT_get]
        cases hww : r.wr with
        | none => simp only [h3]
        | some p =>
          rw [hww] at hfl
          simp only at hfl
          simp only [hfl, h3]
      · rename_i hr
        split at h
        case h_2 => cases h
        rename_i g args hg
        split at h
        case h_2 => cases h
        rename_i v n1 H1 hc
        split at h
        case h_2 => cases h
        rename_i s2 l2 h2
        cases h
        have h3 := ih _ _ _ h2
        have h4 := hs _ _ _ _ _ _ _ _ hc
        simp only [StT.st, fputT_get] at h3
        simp only [hr, hg, h4, h3, StT.st]
theorem evCodeT_eq {cfT : CFT} {cf} (hs : SameT cfT cf) : ∀ (k fl : Nat) (c : Code) (s s1 : StT) (e : AExit), evCodeT P cfT k fl c s = some (e, s1) → evCode P cf k fl c s.st = some (e, s1.st) := by
  intro k
  induction k with
  | zero => intro fl c s s1 e h; simp [evCodeT] at h
  | succ k ih =>
    intro fl c s s1 e h
    cases c with
    | skip => simp only [evCodeT] at h; cases h; rfl
    | label l => simp only [evCodeT] at h; cases h; rfl
    | ret => simp only [evCodeT] at h; cases h; rfl
    | exit id => simp only [evCodeT] at h; cases h; rfl
    | seq a b =>
      simp only [evCodeT] at h
      simp only [evCode]
      cases ha : evCodeT P cfT k fl a s with
      | none => simp [ha] at h
      | some p =>
        obtain ⟨e1, s2⟩ := p
        rw [ih _ _ _ _ _ ha]
        rw [ha] at h
        cases e1 with
        | normal => exact ih _ _ _ _ _ h
        | exit id => cases h; rfl
        | ret => cases h; rfl
    | cond x a b =>
      simp only [evCodeT] at h
      simp only [evCode]
      simp only [StT.st]
      split at h
      case h_2 => cases h
      rename_i t ht
      rw [ht]
      cases t with
      | true => exact ih _ _ _ _ _ h
      | false => exact ih _ _ _ _ _ h
    | block id a =>
      simp only [evCodeT] at h
      simp only [evCode]
      split at h
      case h_2 => cases h
      rename_i e1 s2 ha
      cases h
      rw [ih _ _ _ _ _ ha]
    | loop a =>
      simp only [evCodeT] at h
      simp only [evCode]
      cases ha : evCodeT P cfT k fl a s with
      | none => simp [ha] at h
      | some p =>
        obtain ⟨e1, s2⟩ := p
        rw [ih _ _ _ _ _ ha]
        rw [ha] at h
        cases e1 with
        | normal => exact ih _ _ _ _ _ h
        | exit id => cases h; rfl
        | ret => cases h; rfl
    | region id ops draw =>
      simp only [evCodeT] at h
      simp only [evCode]
      split at h
      case h_2 => cases h
      rename_i s2 l h2
      rw [evOpsT_eq hs _ _ _ _ h2]
      cases draw with
      | false => cases h; rfl
      | true =>
        simp only at h ⊢
        split at h
        case h_2 => cases h
        rename_i hp
        cases h
        rw [hp]
    | _ => simp [evCodeT] at h
theorem evCallT_eq : ∀ k, SameT (evCallT P okF k) (evCall P okF k) := by
  intro k
  induction k with
  | zero => intro fl g args n H v n' H' h; simp [evCallT] at h
  | succ k ih =>
    intro fl g args n H v n' H' h
    simp only [evCallT] at h
    simp only [evCall]
    split at h
    case h_2 => cases h
    rename_i hg
    split at h
    case h_2 => cases h
    rename_i fn hfn
    split at h
    case h_2 => cases h
    rename_i c hc
    split at h
    case h_2 => cases h
    rename_i hl
    simp only [hg, hfn, hc, hl]
    have he : (argsT args 0 (.bare 7 0)).get undef = fun t => args.getD t undef := by
      funext t
      rw [argsT_get]
      by_cases ht : t < args.length
      · rw [if_pos (by omega)]; rfl
      · rw [if_neg (by omega)]; simp [Trie.bare_get, List.getD, List.getElem?_eq_none (Nat.le_of_not_lt ht)]
    split at h
    · rename_i s hs
      have h2 := evCodeT_eq ih _ _ _ _ _ _ hs
      simp only [StT.st, he] at h2
      rw [h2]
      split at h
      case h_2 => cases h
      rename_i v' hv
      cases h
      simp only [StT.st] at hv
      simp only [hv]
    · rename_i s hs
      have h2 := evCodeT_eq ih _ _ _ _ _ _ hs
      simp only [StT.st, he] at h2
      rw [h2]
      split at h
      case h_2 => cases h
      rename_i v' hv
      cases h
      simp only [StT.st] at hv
      simp only [hv]
    · cases h
theorem evCallT_sound {k : Nat} {g : FuncId} {args : List Value} {n : Nat} {v : Value} {n' : Nat} {H' : Trie AObj} {b : Nat} (h : evCallT P okF k 0 g args n (.bare b 0) = some (v, n', H')) : evCall P okF k 0 g args n (fun _ => .dead) = some (v, n', H'.get .dead) := by
  have h1 := evCallT_eq k _ _ _ _ _ _ _ _ h
  rwa [show (Trie.bare b 0 : Trie AObj).get .dead = fun _ => .dead from funext fun x => Trie.bare_get _ b 0 x] at h1
end
end Go.AM
namespace Go.AM
open Go.RowKit
section
variable {P : Program} {n : Nat} {H : Heap} {ts : Array TypeId} {e : TypeId} {j : Nat}
theorem agrow_eq (h : eapp P ts = some (e, j)) (s x : Value) : agrow P n H ts s x = match asrc H j x with
    | some (ys, rd, m) =>
      match s with
      | .slice none 0 0 => if m > bigN ∨ m = 0 then none else some { v := .slice (some ⟨n, 0, none⟩) m m, news := [.rows ys e true], rd := rd }
      | .slice (some ⟨y, 0, none⟩) len _ =>
        match H y with
        | .rows cs ty true =>
          if len + m ≤ bigN ∧ len * j = cs.length ∧ len ≠ 0 ∧ m ≠ 0 ∧ ty = e ∧ rd.contains y = false then
            some { v := .slice (some ⟨n, 0, none⟩) (len + m) (len + m), news := [.rows (cs ++ ys) e true], wr := some (y, .rows cs ty false), rd := rd } else none
        | _ => none
      | _ => none
    | none => none := by
  unfold eapp at h
  split at h
  case h_2 => cases h
  rename_i t u h0 h1
  split at h
  case h_2 => cases h
  rename_i elem ht
  split at h
  case h_2 => cases h
  rename_i jj zs du h2 h3 h4
  split at h
  case isTrue => cases h
  rename_i hc
  cases h
  unfold agrow
  simp only [h0, h1, ht, h2, h3, h4]
  rw [if_neg hc]
  rfl
theorem grow_nil (h : eapp P ts = some (e, j)) {y : Nat} {ys : List Value} {ty : TypeId} {own : Bool} (hy : H y = .cells ys ty own) (hl : ys.length = j) :
    agrow P n H ts (.slice none 0 0) (.slice (some ⟨y, 0, none⟩) 1 1) = some { v := .slice (some ⟨n, 0, none⟩) 1 1, news := [.rows ys e true], rd := [y] } := by
  rw [agrow_eq h]
  have : asrc H j (.slice (some ⟨y, 0, none⟩) 1 1) = some (ys, [y], 1) := by
    unfold asrc
    simp only [hy]
    rw [if_pos (by omega), List.drop_zero, List.take_of_length_le (by omega)]
  rw [this]
  simp only
  rw [if_neg (by unfold bigN; omega)]
theorem grow_some (h : eapp P ts = some (e, j)) {y z len c : Nat} {ys cs : List Value} {ty : TypeId} {own : Bool} (hy : H y = .cells ys ty own) (hl : ys.length = j) (hz : H z = .rows cs e true) (hc : len * j = cs.length) (h0 : len ≠ 0) (hb : len + 1 ≤ bigN) :
    agrow P n H ts (.slice (some ⟨z, 0, none⟩) len c) (.slice (some ⟨y, 0, none⟩) 1 1) = some { v := .slice (some ⟨n, 0, none⟩) (len + 1) (len + 1), news := [.rows (cs ++ ys) e true], wr := some (z, .rows cs e false), rd := [y] } := by
  rw [agrow_eq h]
  have : asrc H j (.slice (some ⟨y, 0, none⟩) 1 1) = some (ys, [y], 1) := by
    unfold asrc
    simp only [hy]
    rw [if_pos (by omega), List.drop_zero, List.take_of_length_le (by omega)]
  rw [this]
  simp only [hz]
  have hne : z ≠ y := by rintro rfl; rw [hy] at hz; cases hz
  rw [if_pos ⟨hb, hc, h0, by omega, trivial, by simp [hne]⟩]
theorem aop_look {ρ : Operand → Value} {d : Option Nat} {t : TypeId} {x k : Operand} {b : Bool} {ty : TypeId} {p : String} {af : Array Edge} {gd : Option (Nat × Bool)} :
    aop P ρ n H ⟨d, .lookup t x k b, ty, p, af, gd⟩ = alookup P t H (ρ x) (ρ k) b := rfl
theorem aop_mapset {ρ : Operand → Value} {d : Option Nat} {t : TypeId} {m k x : Operand} {ty : TypeId} {p : String} {af : Array Edge} {gd : Option (Nat × Bool)} :
    aop P ρ n H ⟨d, .mapUpdate t m k x, ty, p, af, gd⟩ = amapset P t H (ρ m) (ρ k) (ρ x) := rfl
def amake (P : Program) (n : Nat) (t : TypeId) : Option Res := match P.underlying t with
  | some (.map kt _) => some { v := .map (some n), news := [.map [] 0 kt] }
  | _ => none
theorem aop_makemap {ρ : Operand → Value} {d : Option Nat} {t : TypeId} {ty : TypeId} {p : String} {af : Array Edge} {gd : Option (Nat × Bool)} :
    aop P ρ n H ⟨d, .makeMap t none, ty, p, af, gd⟩ = amake P n t := rfl
end
theorem keyOf_3 {P : Program} {kt ti : TypeId} {fs : Array Field} (hu : P.underlying kt = some (.struct fs)) (hk : P.keyType kt = true) (hn : fs.all (·.name != "_") = true) (hs : 0 < P.types.size) (hti : P.underlying ti = some (.int .i64)) (hc : P.cellsOf ti = 1) (h3 : P.cellsOf kt = 3)
    (hf : fs.toList.map (fun f => (f.type, f.offset)) = [(ti, 0), (ti, 1), (ti, 2)]) {a b c : Int} (ha : (Lit.int .i64 a).wf = true) (hb : (Lit.int .i64 b).wf = true) (hcc : (Lit.int .i64 c).wf = true) : (keyOf P kt (.agg #[.int .i64 a, .int .i64 b, .int .i64 c])).isSome = true := by
  have hint : ∀ n : Int, (Lit.int .i64 n).wf = true → P.keyLits P.types.size ti [.int .i64 n] = some [.int .i64 n] := by
    intro n hw
    obtain ⟨d, hd⟩ : ∃ d, P.types.size = d + 1 := ⟨P.types.size - 1, by omega⟩
    rw [hd]
    unfold Program.keyLits
    simp only [hti]
    rw [if_pos ⟨trivial, hw⟩]
  have hm : (fs.toList.mapM fun f => P.keyLits P.types.size f.type ((([.int .i64 a, .int .i64 b, .int .i64 c] : List Value).drop f.offset).take (P.cellsOf f.type))) = some [[.int .i64 a], [.int .i64 b], [.int .i64 c]] := by
    have e : (fun f : Field => P.keyLits P.types.size f.type ((([.int .i64 a, .int .i64 b, .int .i64 c] : List Value).drop f.offset).take (P.cellsOf f.type))) = (fun p : TypeId × Nat => P.keyLits P.types.size p.1 ((([.int .i64 a, .int .i64 b, .int .i64 c] : List Value).drop p.2).take (P.cellsOf p.1))) ∘ (fun f : Field => (f.type, f.offset)) := rfl
    rw [e, ← List.mapM_map, hf]
    simp [hc, hint _ ha, hint _ hb, hint _ hcc]
  unfold keyOf
  rw [hu]
  simp only
  have hfm : Value.formed P kt (.agg #[.int .i64 a, .int .i64 b, .int .i64 c]) = true := by
    unfold Value.formed
    simp [hu, h3]
  rw [hk, hfm]
  have hl : P.keyLits (P.types.size + 1) kt [.int .i64 a, .int .i64 b, .int .i64 c] = some [.int .i64 a, .int .i64 b, .int .i64 c] := by
    unfold Program.keyLits
    simp only [hu]
    rw [if_pos ⟨by rw [h3]; rfl, hn⟩, hm]
    rfl
  show (Option.map _ (P.keyLits (P.types.size + 1) kt [.int .i64 a, .int .i64 b, .int .i64 c])).isSome = true
  rw [hl]
  rfl
def Sub (S H : Heap) : Prop := ∀ x, S x ≠ .dead → H x = S x
theorem Sub.at {S H : Heap} (h : Sub S H) {x : Nat} {cs : List Value} {ty : TypeId} {own : Bool} (e : S x = .cells cs ty own) : H x = .cells cs ty own := (h x (by rw [e]; intro h; cases h)).trans e
theorem Sub.kx {S H H' : Heap} {N n n' : Nat} (h : Sub S H) (hw : WF N S) (k : Kx (fun z => N ≤ z) n H n' H') (hn : N ≤ n) : Sub S H' := fun x hx => by
  have hlt : x < N := by
    apply Classical.byContradiction
    intro hc
    exact hx (hw x (by omega))
  exact (k.keep x (by omega) (by omega)).trans (h x hx)
theorem RA.sub {α : Type} {enc : α → Value} {S H : Heap} {a : Option Addr} {l : List α} (h : RA enc S a l) (hs : Sub S H) : RA enc H a l := fun hl => by
  obtain ⟨x, k, cs, ty, own, e1, e2, e3⟩ := h hl
  exact ⟨x, k, cs, ty, own, e1, hs.at e2, e3⟩
theorem RS.sub {α : Type} {enc : α → Value} {S H : Heap} {a : Option Addr} {l : List α} (h : RS enc S a l) (hs : Sub S H) : RS enc H a l := by
  rcases h with h | ⟨x, k, cs, ty, own, e1, e2, e3⟩
  · exact .inl h
  · exact .inr ⟨x, k, cs, ty, own, e1, hs.at e2, e3⟩
theorem RR.sub {S H : Heap} {a : Option Addr} {l : List GRule} (h : RR S a l) (hs : Sub S H) : RR H a l := fun hl => by
  obtain ⟨x, k, cs, ty, own, e1, e2, e3⟩ := h hl
  refine ⟨x, k, cs, ty, own, e1, hs.at e2, fun i r hi => ?_⟩
  obtain ⟨p, c1, c2, c3, c4⟩ := e3 i r hi
  exact ⟨p, c1, c2, c3, c4.sub hs⟩
theorem Sub.kp {S H H' : Heap} {n n' : Nat} (h : Sub S H) (hw : WF n H) (k : Kp n H n' H') : Sub S H' := fun x hx => by
  have hlt : x < n := by
    apply Classical.byContradiction
    intro hc
    have := h x hx
    rw [hw x (by omega)] at this
    exact hx this.symm
  exact (k.keep x hlt).trans (h x hx)
def RK (H H' : Heap) : Prop := ∀ z cs ty own, H z = .rows cs ty own → ∃ own', H' z = .rows cs ty own'
theorem RK.refl (H : Heap) : RK H H := fun _ _ _ own h => ⟨own, h⟩
theorem RK.trans {H H1 H2 : Heap} (a : RK H H1) (b : RK H1 H2) : RK H H2 := fun z cs ty own h => by
  obtain ⟨o1, h1⟩ := a z cs ty own h
  exact b z cs ty o1 h1
theorem RK.set {H : Heap} {x : Nat} {o : AObj} (h : ∀ cs ty own, H x ≠ .rows cs ty own) : RK H (hset H x o) := fun z cs ty own e => by
  by_cases hz : z = x
  · subst hz; exact absurd e (h cs ty own)
  · exact ⟨own, (hset_ne' _ _ _ hz).trans e⟩
theorem RK.own {H : Heap} {x : Nat} {cs : List Value} {ty : TypeId} {own own' : Bool} (e : H x = .rows cs ty own) : RK H (hset H x (.rows cs ty own')) := fun z cs2 ty2 own2 e2 => by
  by_cases hz : z = x
  · subst hz
    rw [e] at e2
    cases e2
    exact ⟨own', by rw [hset_apply, if_pos rfl]⟩
  · exact ⟨own2, (hset_ne' _ _ _ hz).trans e2⟩
theorem Kp.rk {n n' : Nat} {H H' : Heap} (k : Kp n H n' H') (hw : WF n H) : RK H H' := fun z cs ty own h => by
  have hz : z < n := by
    apply Classical.byContradiction
    intro hc
    rw [hw z (by omega)] at h; cases h
  exact ⟨own, (k.keep z hz).trans h⟩
end Go.AM
namespace Go.AM
abbrev It := Nat × Nat × Nat
def rgt (g : Gram) (r : Nat) : List Int := ((g.rules[r]?).map (·.right)).getD []
def lft (g : Gram) (r : Nat) : Int := ((g.rules[r]?).map (·.left)).getD 0
def nx (g : Gram) (x : It) : Option Int := (rgt g x.1)[x.2.1]?
def addI (l : List It) (x : It) : List It := if x ∈ l then l else l ++ [x]
def upI (x : It) : It := (x.1, x.2.1 + 1, x.2.2)
def begP (g : Gram) (gd : List Bool) (v : Int) (r : Nat) : Bool := decide (lft g r = v) && gd.getD r false
def beginN (g : Gram) (gd : List Bool) (v : Int) (at_ n : Nat) (l : List It) : List It := ((List.range n).filter (begP g gd v)).foldl (fun l r => addI l (r, 0, at_)) l
def beginL (g : Gram) (gd : List Bool) (v : Int) (at_ : Nat) (l : List It) : List It := beginN g gd v at_ g.rules.length l
def doneL (g : Gram) (left : Int) (ps l : List It) : List It := ps.foldl (fun l p => if nx g p = some left then addI l (upI p) else l) l
def stepC (g : Gram) (gd em : List Bool) (sets : List (List It)) (at_ : Nat) (l : List It) (x : It) : List It := match nx g x with
  | none => doneL g (lft g x.1) (if x.2.2 = at_ then l else sets.getD x.2.2 []) l
  | some y => if 0 ≤ y then (if em.getD y.toNat false then addI (beginL g gd y at_ l) (upI x) else beginL g gd y at_ l) else l
def closeC (g : Gram) (gd em : List Bool) (sets : List (List It)) (at_ : Nat) : Nat → List It → Nat → List It
  | 0, l, _ => l
  | k + 1, l, i => match l[i]? with
    | none => l
    | some x => closeC g gd em sets at_ k (stepC g gd em sets at_ l x) (i + 1)
def okI (g : Gram) (at_ : Nat) (x : It) : Prop := x.1 < g.rules.length ∧ x.2.1 ≤ (rgt g x.1).length ∧ x.2.2 ≤ at_
structure okL (g : Gram) (at_ : Nat) (l : List It) : Prop where
  nd : l.Nodup
  ok : ∀ x ∈ l, okI g at_ x
theorem okL.nil (g : Gram) (at_ : Nat) : okL g at_ [] := ⟨List.nodup_nil, fun x h => by cases h⟩
theorem okL.add {g : Gram} {at_ : Nat} {l : List It} (h : okL g at_ l) {x : It} (hx : okI g at_ x) : okL g at_ (addI l x) := by
  unfold addI
  split
  · exact h
  · rename_i hn
    refine ⟨?_, fun y hy => ?_⟩
    · rw [List.nodup_append]
      exact ⟨h.nd, by simp, fun a ha b hb => by simp at hb; subst hb; intro e; subst e; exact hn ha⟩
    · rcases List.mem_append.1 hy with h1 | h1
      · exact h.ok y h1
      · simp at h1; subst h1; exact hx
theorem addI_get {l : List It} {x : It} {i : Nat} {y : It} (h : l[i]? = some y) : (addI l x)[i]? = some y := by
  unfold addI
  split
  · exact h
  · rw [List.getElem?_append_left (by obtain ⟨h1, _⟩ := List.getElem?_eq_some_iff.1 h; exact h1)]; exact h
theorem okL.up {g : Gram} {at_ b : Nat} {l : List It} (h : okL g at_ l) (hb : at_ ≤ b) : okL g b l := ⟨h.nd, fun x hx => ⟨(h.ok x hx).1, (h.ok x hx).2.1, Nat.le_trans (h.ok x hx).2.2 hb⟩⟩
theorem nx_lt {g : Gram} {x : It} {y : Int} (h : nx g x = some y) : x.2.1 < (rgt g x.1).length := by
  unfold nx at h
  exact (List.getElem?_eq_some_iff.1 h).1
theorem okI.up {g : Gram} {at_ : Nat} {x : It} (h : okI g at_ x) {y : Int} (hn : nx g x = some y) : okI g at_ (upI x) := ⟨h.1, nx_lt hn, h.2.2⟩
theorem beginN_ok {g : Gram} {gd : List Bool} {v : Int} {at_ : Nat} {l : List It} (h : okL g at_ l) : ∀ n, n ≤ g.rules.length → okL g at_ (beginN g gd v at_ n l) := by
  intro n
  induction n with
  | zero => intro _; exact h
  | succ n ih =>
    intro hn
    have := ih (by omega)
    unfold beginN at this ⊢
    rw [List.range_succ, List.filter_append, List.foldl_append]
    cases hp : begP g gd v n with
    | false => simpa [hp] using this
    | true =>
      simp only [hp, List.filter_cons, List.filter_nil, if_true, List.foldl_cons, List.foldl_nil]
      exact this.add ⟨hn, Nat.zero_le _, Nat.le_refl _⟩
theorem beginN_succ {g : Gram} {gd : List Bool} {v : Int} {at_ : Nat} {l : List It} (n : Nat) : beginN g gd v at_ (n + 1) l = if begP g gd v n then addI (beginN g gd v at_ n l) (n, 0, at_) else beginN g gd v at_ n l := by
  unfold beginN
  rw [List.range_succ, List.filter_append, List.foldl_append]
  cases hp : begP g gd v n <;> simp [hp]
theorem beginN_from {g : Gram} {gd : List Bool} {v : Int} {at_ : Nat} {l : List It} : ∀ n, (∀ r, r < n → lft g r ≠ v) → beginN g gd v at_ n l = l := by
  intro n
  induction n with
  | zero => intro _; rfl
  | succ n ih =>
    intro h
    rw [beginN_succ, ih fun r hr => h r (by omega)]
    have : begP g gd v n = false := by unfold begP; simp [h n (by omega)]
    rw [this]; simp
theorem beginN_to {g : Gram} {gd : List Bool} {v : Int} {at_ : Nat} {l : List It} {k : Nat} : ∀ n, k ≤ n → (∀ r, k ≤ r → r < n → lft g r ≠ v) → beginN g gd v at_ n l = beginN g gd v at_ k l := by
  intro n
  induction n with
  | zero => intro hk _; have : k = 0 := by omega
            subst this; rfl
  | succ n ih =>
    intro hk h
    by_cases e : k = n + 1
    · subst e; rfl
    · rw [beginN_succ, ih (by omega) fun r h1 h2 => h r h1 (by omega)]
      have : begP g gd v n = false := by unfold begP; simp [h n (by omega) (by omega)]
      rw [this]; simp
theorem beginN_get {g : Gram} {gd : List Bool} {v : Int} {at_ : Nat} {l : List It} {i : Nat} {y : It} (h : l[i]? = some y) : ∀ n, (beginN g gd v at_ n l)[i]? = some y := by
  intro n
  induction n with
  | zero => exact h
  | succ n ih =>
    rw [beginN_succ]
    split
    · exact addI_get ih
    · exact ih
theorem doneL_snoc {g : Gram} {left : Int} {ps l : List It} {j : Nat} (hj : j < ps.length) : doneL g left (ps.take (j + 1)) l = if nx g ps[j] = some left then addI (doneL g left (ps.take j) l) (upI ps[j]) else doneL g left (ps.take j) l := by
  unfold doneL
  rw [List.take_succ_eq_append_getElem hj, List.foldl_append]
  rfl
theorem doneL_ok {g : Gram} {left : Int} {at_ : Nat} {l : List It} : ∀ (ps : List It), (∀ p ∈ ps, okI g at_ p) → okL g at_ l → okL g at_ (doneL g left ps l) := by
  intro ps
  induction ps generalizing l with
  | nil => intro _ h; exact h
  | cons p ps ih =>
    intro hp h
    unfold doneL
    rw [List.foldl_cons]
    refine ih (fun q hq => hp q (by simp [hq])) ?_
    split
    · rename_i hn; exact h.add ((hp p (by simp)).up hn)
    · exact h
theorem doneL_get {g : Gram} {left : Int} {i : Nat} {y : It} : ∀ (ps : List It) {l : List It}, l[i]? = some y → (doneL g left ps l)[i]? = some y := by
  intro ps
  induction ps with
  | nil => intro l h; exact h
  | cons p ps ih =>
    intro l h
    unfold doneL
    rw [List.foldl_cons]
    refine ih ?_
    split
    · exact addI_get h
    · exact h
theorem stepC_ok {g : Gram} {gd em : List Bool} {sets : List (List It)} {at_ : Nat} {l : List It} {x : It} (hs : ∀ i s, i < at_ → sets[i]? = some s → okL g i s) (h : okL g at_ l) (hx : okI g at_ x) : okL g at_ (stepC g gd em sets at_ l x) := by
  unfold stepC
  split
  · refine doneL_ok _ (fun p hp => ?_) h
    split at hp
    · exact h.ok p hp
    · rename_i hne
      rw [List.getD_eq_getElem?_getD] at hp
      cases hq : sets[x.2.2]? with
      | none => rw [hq] at hp; cases hp
      | some s =>
        rw [hq] at hp
        have hlt : x.2.2 < at_ := by have := hx.2.2; omega
        exact ((hs _ s hlt hq).up (by omega)).ok p hp
  · rename_i y hy
    split
    · split
      · exact (beginN_ok h _ (Nat.le_refl _)).add (hx.up hy)
      · exact beginN_ok h _ (Nat.le_refl _)
    · exact h
def allI (g : Gram) (at_ : Nat) : List It := (List.range g.rules.length).flatMap fun r => (List.range ((rgt g r).length + 1)).flatMap fun d => (List.range (at_ + 1)).map fun f => (r, d, f)
def bndI (g : Gram) (at_ : Nat) : Nat := (allI g at_).length
theorem nodup_sub_len {α : Type} [DecidableEq α] : ∀ (l m : List α), l.Nodup → (∀ x ∈ l, x ∈ m) → l.length ≤ m.length := by
  intro l
  induction l with
  | nil => intro m _ _; simp
  | cons x l ih =>
    intro m hn hs
    obtain ⟨a, b, rfl⟩ := List.append_of_mem (hs x (by simp))
    have hn' := List.nodup_cons.1 hn
    have := ih (a ++ b) hn'.2 fun y hy => by
      have h1 := hs y (by simp [hy])
      have hne : y ≠ x := by rintro rfl; exact hn'.1 hy
      simp only [List.mem_append, List.mem_cons] at h1 ⊢
      rcases h1 with h1 | h1 | h1
      · exact .inl h1
      · exact absurd h1 hne
      · exact .inr h1
    simp only [List.length_append, List.length_cons] at this ⊢
    omega
theorem okL.len {g : Gram} {at_ : Nat} {l : List It} (h : okL g at_ l) : l.length ≤ bndI g at_ := by
  refine nodup_sub_len l _ h.nd fun x hx => ?_
  obtain ⟨h1, h2, h3⟩ := h.ok x hx
  unfold allI
  simp only [List.mem_flatMap, List.mem_range, List.mem_map]
  exact ⟨x.1, h1, x.2.1, by omega, x.2.2, by omega, rfl⟩
theorem flatMap_len {α β : Type} (f : α → List β) (m : Nat) : ∀ (l : List α), (∀ x ∈ l, (f x).length ≤ m) → (l.flatMap f).length ≤ l.length * m := by
  intro l
  induction l with
  | nil => intro _; simp
  | cons x l ih =>
    intro h
    have h1 := h x (by simp)
    have h2 := ih fun y hy => h y (by simp [hy])
    rw [List.flatMap_cons, List.length_append, List.length_cons, Nat.succ_mul]
    omega
theorem bndI_le {g : Gram} {at_ : Nat} (hr : g.rules.length ≤ 24) (hl : ∀ r ∈ g.rules, r.right.length ≤ 8) : bndI g at_ ≤ 216 * (at_ + 1) := by
  unfold bndI allI
  refine Nat.le_trans (flatMap_len _ (9 * (at_ + 1)) _ fun r hr => ?_) ?_
  · refine Nat.le_trans (flatMap_len _ (at_ + 1) _ fun d hd => by simp) ?_
    rw [List.length_range]
    refine Nat.mul_le_mul_right _ ?_
    have h1 := List.mem_range.1 hr
    unfold rgt
    rw [List.getElem?_eq_getElem h1]
    have := hl _ (List.getElem_mem h1)
    simp only [Option.map_some, Option.getD_some]
    omega
  · rw [List.length_range, show 216 * (at_ + 1) = 24 * (9 * (at_ + 1)) by omega]
    exact Nat.mul_le_mul_right _ hr
theorem closeC_end {g : Gram} {gd em : List Bool} {sets : List (List It)} {at_ : Nat} (k : Nat) {l : List It} {i : Nat} (h : l.length ≤ i) : closeC g gd em sets at_ k l i = l := by
  cases k with
  | zero => rfl
  | succ k => unfold closeC; rw [List.getElem?_eq_none h]
theorem closeC_ok {g : Gram} {gd em : List Bool} {sets : List (List It)} {at_ : Nat} (hs : ∀ i s, i < at_ → sets[i]? = some s → okL g i s) : ∀ (k : Nat) {l : List It} {i : Nat}, okL g at_ l → okL g at_ (closeC g gd em sets at_ k l i) := by
  intro k
  induction k with
  | zero => intro l i h; exact h
  | succ k ih =>
    intro l i h
    unfold closeC
    cases hx : l[i]? with
    | none => exact h
    | some x => exact ih (stepC_ok hs h (h.ok x (List.mem_of_getElem? hx)))
def closeL (g : Gram) (gd em : List Bool) (sets : List (List It)) (at_ : Nat) (l : List It) : List It := closeC g gd em sets at_ (bndI g at_) l 0
def pushL (g : Gram) (last : List It) (t : Int) : List It := last.foldl (fun l x => if 0 ≤ t ∧ nx g x = some (-t - 1) then addI l (upI x) else l) []
def lastS (sets : List (List It)) : List It := sets.getD (sets.length - 1) []
def pushS (g : Gram) (gd em : List Bool) (sets : List (List It)) (t : Int) : Option (List (List It)) := match pushL g (lastS sets) t with
  | [] => none
  | x :: l => some (sets ++ [closeL g gd em sets sets.length (x :: l)])
def newS (g : Gram) (gd em : List Bool) : List (List It) := [closeL g gd em [] 0 (beginL g gd 0 0 [])]
def prefS (g : Gram) (gd em : List Bool) : List (List It) → List Int → Nat
  | _, [] => 0
  | s, t :: w => match pushS g gd em s t with
    | none => 0
    | some s' => prefS g gd em s' w + 1
def accB (g : Gram) (sets : List (List It)) : Bool := (lastS sets).any fun x => (nx g x).isNone && decide (x.2.2 = 0) && decide (lft g x.1 = 0)
def accW (g : Gram) (gd em : List Bool) : List (List It) → List Int → Bool
  | s, [] => accB g s
  | s, t :: w => match pushS g gd em s t with
    | none => false
    | some s' => accW g gd em s' w
def okS (g : Gram) (sets : List (List It)) : Prop := sets ≠ [] ∧ ∀ i s, sets[i]? = some s → okL g i s
theorem pushL_snoc {g : Gram} {t : Int} {ps : List It} {j : Nat} (hj : j < ps.length) : pushL g (ps.take (j + 1)) t = if 0 ≤ t ∧ nx g ps[j] = some (-t - 1) then addI (pushL g (ps.take j) t) (upI ps[j]) else pushL g (ps.take j) t := by
  unfold pushL
  rw [List.take_succ_eq_append_getElem hj, List.foldl_append]
  rfl
theorem pushL_ok {g : Gram} {t : Int} {at_ : Nat} : ∀ (ps : List It), (∀ p ∈ ps, okI g at_ p) → okL g at_ (pushL g ps t) := by
  intro ps
  suffices ∀ (ps : List It) (l : List It), (∀ p ∈ ps, okI g at_ p) → okL g at_ l → okL g at_ (ps.foldl (fun l x => if 0 ≤ t ∧ nx g x = some (-t - 1) then addI l (upI x) else l) l) from fun h => this ps [] h (.nil g at_)
  intro ps
  induction ps with
  | nil => intro l _ h; exact h
  | cons p ps ih =>
    intro l hp h
    rw [List.foldl_cons]
    refine ih _ (fun q hq => hp q (by simp [hq])) ?_
    split
    · rename_i hn; exact h.add ((hp p (by simp)).up hn.2)
    · exact h
theorem lastS_ok {g : Gram} {sets : List (List It)} (h : okS g sets) : okL g (sets.length - 1) (lastS sets) := by
  have hl : sets.length - 1 < sets.length := by have := List.length_pos_iff.2 h.1; omega
  unfold lastS
  rw [List.getD_eq_getElem?_getD, List.getElem?_eq_getElem hl]
  exact h.2 _ _ (List.getElem?_eq_getElem hl)
theorem okS.push {g : Gram} {gd em : List Bool} {sets s' : List (List It)} {t : Int} (h : okS g sets) (hp : pushS g gd em sets t = some s') : okS g s' := by
  unfold pushS at hp
  split at hp
  · cases hp
  · rename_i x l hl
    cases hp
    refine ⟨by simp, fun i s hi => ?_⟩
    rcases Nat.lt_or_ge i sets.length with h1 | h1
    · rw [List.getElem?_append_left h1] at hi; exact h.2 i s hi
    · rw [List.getElem?_append_right h1] at hi
      cases hj : i - sets.length with
      | succ j => rw [hj] at hi; simp at hi
      | zero =>
        have : i = sets.length := by omega
        subst this
        rw [hj] at hi
        simp at hi
        subst hi
        refine closeC_ok (fun i s _ hi => h.2 i s hi) _ ?_
        rw [← hl]
        exact (pushL_ok _ ((lastS_ok h).up (Nat.sub_le _ _)).ok)
theorem okS.new {g : Gram} {gd em : List Bool} : okS g (newS g gd em) := by
  refine ⟨by simp [newS], fun i s hi => ?_⟩
  unfold newS at hi
  cases i with
  | succ i => simp at hi
  | zero =>
    simp at hi
    subst hi
    exact closeC_ok (fun i s hi => absurd hi (Nat.not_lt_zero _)) _ (beginN_ok (.nil g 0) _ (Nat.le_refl _))
theorem pushS_len {g : Gram} {gd em : List Bool} {sets s' : List (List It)} {t : Int} (hp : pushS g gd em sets t = some s') : s'.length = sets.length + 1 := by
  unfold pushS at hp
  split at hp
  · cases hp
  · cases hp; simp
end Go.AM
namespace Go.AM
abbrev Sp := Nat × It
def getM : List (Sp × Nat) → Sp → Option Nat
  | [], _ => none
  | e :: M, s => if e.1 = s then some e.2 else getM M s
def setM : List (Sp × Nat) → Sp → Nat → List (Sp × Nat)
  | [], s, n => [(s, n)]
  | e :: M, s, n => if e.1 = s then (e.1, n) :: M else e :: setM M s n
theorem getM_setM (M : List (Sp × Nat)) (s t : Sp) (n : Nat) : getM (setM M s n) t = if s = t then some n else getM M t := by
  induction M with
  | nil => simp [setM, getM]
  | cons e M ih =>
    unfold setM
    by_cases h : e.1 = s
    · rw [if_pos h]
      simp only [getM]
      by_cases h2 : s = t
      · rw [if_pos (h.trans h2), if_pos h2]
      · rw [if_neg (fun e' => h2 (h.symm.trans e')), if_neg h2, if_neg (fun e' => h2 (h.symm.trans e'))]
    · rw [if_neg h]
      simp only [getM, ih]
      by_cases h2 : e.1 = t
      · rw [if_pos h2, if_pos h2, if_neg (fun e' => h (h2.trans e'.symm))]
      · rw [if_neg h2, if_neg h2]
def restN (g : Gram) (c : Nat → Nat) (x : It) (dot : Nat) : Nat := sumF c 0 ((rgt g x.1).drop dot)
def needS (g : Gram) (c : Nat → Nat) (M : List (Sp × Nat)) (left : Int) (frm : Nat) (n : Nat) (p : It) : Nat := if nx g p = some left then (match getM M (frm, p) with | some m => min n (m + restN g c p (p.2.1 + 1)) | none => n) else n
def needP (g : Gram) (c : Nat → Nat) (M : List (Sp × Nat)) (left : Int) (frm : Nat) (ps : List It) (n : Nat) : Nat := ps.foldl (needS g c M left frm) n
def need0 (g : Gram) (x : It) : Nat := if lft g x.1 = 0 ∧ x.2.2 = 0 then 0 else farN
def need1 (g : Gram) (c : Nat → Nat) (sets : List (List It)) (M : List (Sp × Nat)) (x : It) : Nat := needP g c M (lft g x.1) x.2.2 (sets.getD x.2.2 []) (need0 g x)
def lessO (n : Nat) : Option Nat → Bool
  | none => true
  | some m => decide (n < m)
def upd1 (g : Gram) (c : Nat → Nat) (sets : List (List It)) (a : Nat) (st : List (Sp × Nat) × Bool) (x : It) : List (Sp × Nat) × Bool :=
  if need1 g c sets st.1 x < farN ∧ lessO (need1 g c sets st.1 x) (getM st.1 (a, x)) = true then (setM st.1 (a, x) (need1 g c sets st.1 x), true) else st
def rowR (g : Gram) (c : Nat → Nat) (sets : List (List It)) (a : Nat) (l : List It) (st : List (Sp × Nat) × Bool) : List (Sp × Nat) × Bool := l.foldl (upd1 g c sets a) st
def roundN (g : Gram) (c : Nat → Nat) (sets : List (List It)) (n : Nat) (st : List (Sp × Nat) × Bool) : List (Sp × Nat) × Bool := (List.range n).foldl (fun st a => rowR g c sets a (sets.getD a []) st) st
def needL (g : Gram) (c : Nat → Nat) (sets : List (List It)) : Nat → List (Sp × Nat) → List (Sp × Nat)
  | 0, M => M
  | k + 1, M => if (roundN g c sets sets.length (M, false)).2 then needL g c sets k (roundN g c sets sets.length (M, false)).1 else (roundN g c sets sets.length (M, false)).1
def allSp (sets : List (List It)) : List Sp := (List.range sets.length).flatMap fun a => (sets.getD a []).map fun x => (a, x)
def mu (sets : List (List It)) (M : List (Sp × Nat)) : Nat := ((allSp sets).map fun s => (getM M s).getD (farN + 1)).sum
def needs (g : Gram) (c : Nat → Nat) (sets : List (List It)) : List (Sp × Nat) := needL g c sets (mu sets [] + 1) []
def shortS (g : Gram) (c : Nat → Nat) (a : Nat) (M : List (Sp × Nat)) (n : Nat) (x : It) : Nat := match getM M (a, x) with | some m => min n (m + restN g c x x.2.1) | none => n
def shortL (g : Gram) (c : Nat → Nat) (sets : List (List It)) : Nat := (lastS sets).foldl (shortS g c (sets.length - 1) (needs g c sets)) farN
theorem sum_le {α : Type} (f h : α → Nat) : ∀ l : List α, (∀ x ∈ l, h x ≤ f x) → (l.map h).sum ≤ (l.map f).sum := by
  intro l
  induction l with
  | nil => intro _; exact Nat.le_refl _
  | cons x l ih =>
    intro hl
    have h1 := hl x (by simp)
    have h2 := ih fun y hy => hl y (by simp [hy])
    simp only [List.map_cons, List.sum_cons]
    omega
theorem sum_lt {α : Type} (f h : α → Nat) : ∀ l : List α, (∀ x ∈ l, h x ≤ f x) → (∃ x ∈ l, h x < f x) → (l.map h).sum < (l.map f).sum := by
  intro l
  induction l with
  | nil => rintro _ ⟨x, hx, _⟩; cases hx
  | cons x l ih =>
    rintro hl ⟨y, hy, hlt⟩
    have h1 := hl x (by simp)
    simp only [List.map_cons, List.sum_cons]
    rcases List.mem_cons.1 hy with rfl | hy
    · have h2 := sum_le f h l fun z hz => hl z (by simp [hz])
      omega
    · have h2 := ih (fun z hz => hl z (by simp [hz])) ⟨y, hy, hlt⟩
      omega
def okM (M : List (Sp × Nat)) : Prop := ∀ s n, getM M s = some n → n < farN
theorem okM.nil : okM [] := fun s n h => by cases h
theorem mu_set {sets : List (List It)} {M : List (Sp × Nat)} {s : Sp} {n : Nat} (hs : s ∈ allSp sets) (hn : n < farN) (hl : lessO n (getM M s) = true) : mu sets (setM M s n) < mu sets M := by
  unfold mu
  refine sum_lt _ _ _ (fun t ht => ?_) ⟨s, hs, ?_⟩
  · rw [getM_setM]
    by_cases e : s = t
    · subst e
      rw [if_pos rfl]
      cases h : getM M s with
      | none => simp; omega
      | some m => rw [h] at hl; simp [lessO] at hl; simp; omega
    · rw [if_neg e]; exact Nat.le_refl _
  · rw [getM_setM, if_pos rfl]
    cases h : getM M s with
    | none => simp; omega
    | some m => rw [h] at hl; simpa [lessO] using hl
structure Step (sets : List (List It)) (s t : List (Sp × Nat) × Bool) : Prop where
  le : mu sets t.1 ≤ mu sets s.1
  lt : t.2 = true → s.2 = true ∨ mu sets t.1 < mu sets s.1
  ok : okM s.1 → okM t.1
theorem Step.refl (sets : List (List It)) (s : List (Sp × Nat) × Bool) : Step sets s s := ⟨Nat.le_refl _, fun h => .inl h, id⟩
theorem Step.trans {sets : List (List It)} {s t u : List (Sp × Nat) × Bool} (a : Step sets s t) (b : Step sets t u) : Step sets s u := ⟨Nat.le_trans b.le a.le, fun h => by
  rcases b.lt h with h1 | h1
  · rcases a.lt h1 with h2 | h2
    · exact .inl h2
    · exact .inr (Nat.lt_of_le_of_lt b.le h2)
  · exact .inr (Nat.lt_of_lt_of_le h1 a.le), fun h => b.ok (a.ok h)⟩
theorem upd1_step {g : Gram} {c : Nat → Nat} {sets : List (List It)} {a : Nat} {st : List (Sp × Nat) × Bool} {x : It} (hx : (a, x) ∈ allSp sets) : Step sets st (upd1 g c sets a st x) := by
  unfold upd1
  split
  · rename_i h
    have := mu_set hx h.1 h.2
    exact ⟨Nat.le_of_lt this, fun _ => .inr this, fun ho s n e => by
      rw [getM_setM] at e
      split at e
      · cases e; exact h.1
      · exact ho s n e⟩
  · exact .refl _ _
theorem rowR_step {g : Gram} {c : Nat → Nat} {sets : List (List It)} {a : Nat} : ∀ (l : List It) (st : List (Sp × Nat) × Bool), (∀ x ∈ l, (a, x) ∈ allSp sets) → Step sets st (rowR g c sets a l st) := by
  intro l
  induction l with
  | nil => intro st _; exact .refl _ _
  | cons x l ih => intro st h; exact (upd1_step (h x (by simp))).trans (ih _ fun y hy => h y (by simp [hy]))
theorem mem_allSp {sets : List (List It)} {a : Nat} {x : It} (ha : a < sets.length) (hx : x ∈ sets.getD a []) : (a, x) ∈ allSp sets := by
  unfold allSp
  rw [List.mem_flatMap]
  exact ⟨a, List.mem_range.2 ha, List.mem_map.2 ⟨x, hx, rfl⟩⟩
theorem roundN_succ {g : Gram} {c : Nat → Nat} {sets : List (List It)} {n : Nat} {st : List (Sp × Nat) × Bool} : roundN g c sets (n + 1) st = rowR g c sets n (sets.getD n []) (roundN g c sets n st) := by
  unfold roundN
  rw [List.range_succ, List.foldl_append]
  rfl
theorem roundN_step {g : Gram} {c : Nat → Nat} {sets : List (List It)} {st : List (Sp × Nat) × Bool} : ∀ n, n ≤ sets.length → Step sets st (roundN g c sets n st) := by
  intro n
  induction n with
  | zero => intro _; exact .refl _ _
  | succ n ih =>
    intro h
    rw [roundN_succ]
    exact (ih (by omega)).trans (rowR_step _ _ fun x hx => mem_allSp (by omega) hx)
theorem rowR_snoc {g : Gram} {c : Nat → Nat} {sets : List (List It)} {a j : Nat} {l : List It} {st : List (Sp × Nat) × Bool} (hj : j < l.length) : rowR g c sets a (l.take (j + 1)) st = upd1 g c sets a (rowR g c sets a (l.take j) st) l[j] := by
  unfold rowR
  rw [List.take_succ_eq_append_getElem hj, List.foldl_append]
  rfl
theorem needP_snoc {g : Gram} {c : Nat → Nat} {M : List (Sp × Nat)} {left : Int} {frm j n : Nat} {ps : List It} (hj : j < ps.length) : needP g c M left frm (ps.take (j + 1)) n = needS g c M left frm (needP g c M left frm (ps.take j) n) ps[j] := by
  unfold needP
  rw [List.take_succ_eq_append_getElem hj, List.foldl_append]
  rfl
theorem needP_le {g : Gram} {c : Nat → Nat} {M : List (Sp × Nat)} {left : Int} {frm : Nat} : ∀ (ps : List It) (n : Nat), n ≤ farN → needP g c M left frm ps n ≤ farN := by
  intro ps
  induction ps with
  | nil => intro n h; exact h
  | cons p ps ih =>
    intro n h
    refine ih _ ?_
    unfold needS
    split
    · split <;> omega
    · exact h
theorem need0_le (g : Gram) (x : It) : need0 g x ≤ farN := by unfold need0; split <;> omega
theorem shortS_le {g : Gram} {c : Nat → Nat} {a : Nat} {M : List (Sp × Nat)} : ∀ (l : List It) (n : Nat), n ≤ farN → l.foldl (shortS g c a M) n ≤ farN := by
  intro l
  induction l with
  | nil => intro n h; exact h
  | cons p ps ih =>
    intro n h
    refine ih _ ?_
    unfold shortS
    split <;> omega
theorem sumF_le (c : Nat → Nat) : ∀ (l : List Int) (a : Nat), sumF c a l ≤ max a farN + l.length := by
  intro l
  induction l with
  | nil => intro a; simp only [sumF, List.length_nil]; omega
  | cons s l ih =>
    intro a
    simp only [sumF, List.length_cons]
    by_cases h : s < 0
    · rw [if_pos h]
      have := ih (a + 1)
      omega
    · rw [if_neg h]
      have := ih (min (a + c s.toNat) farN)
      omega
theorem restN_le (g : Gram) (c : Nat → Nat) (x : It) (d : Nat) : restN g c x d ≤ farN + (rgt g x.1).length := by
  have := sumF_le c ((rgt g x.1).drop d) 0
  rw [List.length_drop] at this
  unfold restN
  omega
theorem needL_mono {g : Gram} {c : Nat → Nat} {sets : List (List It)} : ∀ (k : Nat) (M : List (Sp × Nat)), mu sets M < k → (roundN g c sets sets.length (M, false)).2 = true → ∃ j, j < k ∧ mu sets (roundN g c sets sets.length (M, false)).1 < j ∧ needL g c sets k M = needL g c sets j (roundN g c sets sets.length (M, false)).1 := by
  intro k M hk hr
  have hs := roundN_step (g := g) (c := c) (st := (M, false)) sets.length (Nat.le_refl _)
  rcases hs.lt hr with h | h
  · cases h
  · cases k with
    | zero => omega
    | succ k => exact ⟨k, Nat.lt_succ_self _, by simp only at h; omega, by rw [needL, if_pos hr]⟩
theorem needL_end {g : Gram} {c : Nat → Nat} {sets : List (List It)} {k : Nat} {M : List (Sp × Nat)} (hk : mu sets M < k) (hr : (roundN g c sets sets.length (M, false)).2 = false) : needL g c sets k M = (roundN g c sets sets.length (M, false)).1 := by
  cases k with
  | zero => omega
  | succ k => rw [needL, if_neg (by rw [hr]; simp)]
end Go.AM
namespace Go.AM
inductive Yd (g : Gram) : List Int → List Int → Prop
  | nil : Yd g [] []
  | term {s : Int} {rest w : List Int} (h : s < 0) (k : Yd g rest w) : Yd g (s :: rest) ((-s - 1) :: w)
  | var {i : Nat} (h : i < g.rules.length) {rest a b : List Int} (x : Yd g g.rules[i].right a) (k : Yd g rest b) : Yd g (g.rules[i].left :: rest) (a ++ b)
variable {g : Gram}
theorem Yd.append {a b u v : List Int} (h : Yd g a u) (k : Yd g b v) : Yd g (a ++ b) (u ++ v) := by
  induction h with
  | nil => exact k
  | term h _ ih => exact .term h ih
  | var h x _ _ ih => rw [List.cons_append, List.append_assoc]; exact .var h x ih
theorem Yd.one {i : Nat} (h : i < g.rules.length) {a : List Int} (x : Yd g g.rules[i].right a) : Yd g [g.rules[i].left] a := by
  have := Yd.var h x .nil
  rwa [List.append_nil] at this
theorem Yd.wd {l w : List Int} (h : Yd g l w) : WdL g l w.length := by
  induction h with
  | nil => exact .nil
  | term h _ ih => exact .term h ih
  | var h _ _ ih1 ih2 => rw [List.length_append]; exact .var h ih1 ih2
theorem WdL.yd {l : List Int} {n : Nat} (h : WdL g l n) : ∃ w, Yd g l w ∧ w.length = n := by
  induction h with
  | nil => exact ⟨[], .nil, rfl⟩
  | term h _ ih => obtain ⟨w, h1, h2⟩ := ih; exact ⟨_, .term h h1, by simp [h2]⟩
  | var h _ _ ih1 ih2 =>
    obtain ⟨a, h1, h2⟩ := ih1
    obtain ⟨b, h3, h4⟩ := ih2
    exact ⟨_, .var h h1 h3, by simp [h2, h4]⟩
theorem Yd.prd {l w : List Int} (h : Yd g l w) : ∀ s ∈ l, 0 ≤ s → Prd g s := h.wd.prd
theorem Yd.nul (hg : InG g) {l : List Int} (h : Yd g l []) : ∀ s ∈ l, 0 ≤ s ∧ Nul g s := h.wd.nul rfl hg.left0
theorem Nul.yd {v : Int} (h : Nul g v) : Yd g [v] [] := by
  induction h with
  | mk i h h0 h1 ih =>
    refine .one h ?_
    suffices ∀ l : List Int, (∀ s ∈ l, Yd g [s] []) → Yd g l [] from this _ ih
    intro l
    induction l with
    | nil => intro _; exact .nil
    | cons s l ih2 => intro hl; exact (hl s (by simp)).append (ih2 fun t ht => hl t (by simp [ht]))
theorem Yd.pos {l w : List Int} (h : Yd g l w) : ∀ t ∈ w, 0 ≤ t := by
  induction h with
  | nil => intro t ht; cases ht
  | term h _ ih =>
    intro t ht
    rcases List.mem_cons.1 ht with rfl | ht
    · omega
    · exact ih t ht
  | var h _ _ ih1 ih2 =>
    intro t ht
    rcases List.mem_append.1 ht with ht | ht
    · exact ih1 t ht
    · exact ih2 t ht
def Proc (g : Gram) (gd em : List Bool) (sets : List (List It)) (at_ : Nat) (L : List It) (x : It) : Prop := ∃ l', ∀ y ∈ stepC g gd em sets at_ l' x, y ∈ L
theorem addI_mem {l : List It} {x y : It} : y ∈ addI l x ↔ y ∈ l ∨ y = x := by
  unfold addI
  split
  · rename_i h
    constructor
    · exact .inl
    · rintro (h1 | rfl)
      · exact h1
      · exact h
  · simp
theorem beginN_mem {gd : List Bool} {v : Int} {at_ : Nat} {l : List It} {y : It} : ∀ n, y ∈ beginN g gd v at_ n l ↔ y ∈ l ∨ ∃ r, r < n ∧ begP g gd v r = true ∧ y = (r, 0, at_) := by
  intro n
  induction n with
  | zero => simp [beginN]
  | succ n ih =>
    rw [beginN_succ]
    constructor
    · intro h
      split at h
      · rename_i hp
        rcases addI_mem.1 h with h | h
        · rcases ih.1 h with h | ⟨r, h1, h2⟩
          · exact .inl h
          · exact .inr ⟨r, by omega, h2⟩
        · exact .inr ⟨n, by omega, hp, h⟩
      · rcases ih.1 h with h | ⟨r, h1, h2⟩
        · exact .inl h
        · exact .inr ⟨r, by omega, h2⟩
    · intro h
      rcases h with h | ⟨r, h1, h2, h3⟩
      · have := ih.2 (.inl h)
        split
        · exact addI_mem.2 (.inl this)
        · exact this
      · by_cases e : r = n
        · subst e
          rw [if_pos h2]; exact addI_mem.2 (.inr h3)
        · have := ih.2 (.inr ⟨r, by omega, h2, h3⟩)
          split
          · exact addI_mem.2 (.inl this)
          · exact this
theorem doneL_mem {left : Int} : ∀ (ps : List It) {l : List It} {y : It}, y ∈ doneL g left ps l ↔ y ∈ l ∨ ∃ p ∈ ps, nx g p = some left ∧ y = upI p := by
  intro ps
  induction ps with
  | nil => intro l y; simp [doneL]
  | cons p ps ih =>
    intro l y
    unfold doneL
    rw [List.foldl_cons]
    rw [show (ps.foldl (fun l p => if nx g p = some left then addI l (upI p) else l) (if nx g p = some left then addI l (upI p) else l)) = doneL g left ps (if nx g p = some left then addI l (upI p) else l) from rfl, ih]
    by_cases hp : nx g p = some left
    · rw [if_pos hp, addI_mem]
      constructor
      · rintro ((h | h) | ⟨q, h1, h2⟩)
        · exact .inl h
        · exact .inr ⟨p, by simp, hp, h⟩
        · exact .inr ⟨q, by simp [h1], h2⟩
      · rintro (h | ⟨q, h1, h2, h3⟩)
        · exact .inl (.inl h)
        · rcases List.mem_cons.1 h1 with rfl | h1
          · exact .inl (.inr h3)
          · exact .inr ⟨q, h1, h2, h3⟩
    · rw [if_neg hp]
      constructor
      · rintro (h | ⟨q, h1, h2⟩)
        · exact .inl h
        · exact .inr ⟨q, by simp [h1], h2⟩
      · rintro (h | ⟨q, h1, h2, h3⟩)
        · exact .inl h
        · rcases List.mem_cons.1 h1 with rfl | h1
          · exact absurd h2 hp
          · exact .inr ⟨q, h1, h2, h3⟩
theorem stepC_sub {gd em : List Bool} {sets : List (List It)} {at_ : Nat} {l : List It} {x y : It} (h : y ∈ l) : y ∈ stepC g gd em sets at_ l x := by
  unfold stepC
  split
  · exact (doneL_mem _).2 (.inl h)
  · split
    · split
      · exact addI_mem.2 (.inl ((beginN_mem _).2 (.inl h)))
      · exact (beginN_mem _).2 (.inl h)
    · exact h
theorem stepC_get {gd em : List Bool} {sets : List (List It)} {at_ : Nat} {l : List It} {x y : It} {i : Nat} (h : l[i]? = some y) : (stepC g gd em sets at_ l x)[i]? = some y := by
  unfold stepC
  split
  · exact doneL_get _ h
  · split
    · split
      · exact addI_get (beginN_get h _)
      · exact beginN_get h _
    · exact h
theorem closeC_sub {gd em : List Bool} {sets : List (List It)} {at_ : Nat} : ∀ (k : Nat) (l : List It) (i : Nat) {y : It}, y ∈ l → y ∈ closeC g gd em sets at_ k l i := by
  intro k
  induction k with
  | zero => intro l i y h; exact h
  | succ k ih =>
    intro l i y h
    unfold closeC
    cases hx : l[i]? with
    | none => exact h
    | some x => exact ih _ _ (stepC_sub h)
theorem Proc.mono {gd em : List Bool} {sets : List (List It)} {at_ : Nat} {L L' : List It} {x : It} (h : Proc g gd em sets at_ L x) (hs : ∀ y ∈ L, y ∈ L') : Proc g gd em sets at_ L' x := by
  obtain ⟨l', h⟩ := h
  exact ⟨l', fun y hy => hs y (h y hy)⟩
theorem closeC_all {gd em : List Bool} {sets : List (List It)} {at_ : Nat} (hs : ∀ i s, i < at_ → sets[i]? = some s → okL g i s) : ∀ (k : Nat) (l : List It) (i : Nat), okL g at_ l → i + k = bndI g at_ → (∀ j x, j < i → l[j]? = some x → Proc g gd em sets at_ l x) →
    ∀ x ∈ closeC g gd em sets at_ k l i, Proc g gd em sets at_ (closeC g gd em sets at_ k l i) x := by
  intro k
  induction k with
  | zero =>
    intro l i hl hk hp x hx
    have hx' : x ∈ l := hx
    obtain ⟨j, hj, rfl⟩ := List.getElem_of_mem hx'
    have := hl.len
    exact hp j _ (by omega) (List.getElem?_eq_getElem hj)
  | succ k ih =>
    intro l i hl hk hp
    unfold closeC
    cases hx : l[i]? with
    | none =>
      intro x hx'
      obtain ⟨j, hj, rfl⟩ := List.getElem_of_mem (show x ∈ l from hx')
      have := List.getElem?_eq_none_iff.1 hx
      exact hp j _ (by omega) (List.getElem?_eq_getElem hj)
    | some x0 =>
      have hi : i < l.length := (List.getElem?_eq_some_iff.1 hx).1
      refine ih _ _ (stepC_ok hs hl (hl.ok x0 (List.mem_of_getElem? hx))) (by omega) fun j x hj hjx => ?_
      by_cases e : j = i
      · subst e
        have := stepC_get (g := g) (gd := gd) (em := em) (sets := sets) (at_ := at_) (x := x0) hx
        rw [hjx] at this
        cases this
        exact ⟨l, fun y hy => hy⟩
      · have hjl : j < l.length := by omega
        have := stepC_get (g := g) (gd := gd) (em := em) (sets := sets) (at_ := at_) (x := x0) (List.getElem?_eq_getElem hjl)
        rw [hjx] at this
        cases this
        exact (hp j _ (by omega) (List.getElem?_eq_getElem hjl)).mono fun y hy => stepC_sub hy
theorem closeC_inv {gd em : List Bool} {sets : List (List It)} {at_ : Nat} {I : It → Prop} (hst : ∀ l x, (∀ y ∈ l, I y) → x ∈ l → ∀ y ∈ stepC g gd em sets at_ l x, I y) : ∀ (k : Nat) (l : List It) (i : Nat), (∀ y ∈ l, I y) → ∀ y ∈ closeC g gd em sets at_ k l i, I y := by
  intro k
  induction k with
  | zero => intro l i h; exact h
  | succ k ih =>
    intro l i h
    unfold closeC
    cases hx : l[i]? with
    | none => exact h
    | some x => exact ih _ _ (hst l x h (List.mem_of_getElem? hx))
structure Fine (g : Gram) (gd em : List Bool) (u : List Int) (sets : List (List It)) : Prop where
  len : sets.length = u.length + 1
  ok : okS g sets
  snd : ∀ k x, x ∈ sets.getD k [] → Yd g ((rgt g x.1).take x.2.1) ((u.take k).drop x.2.2)
  st : ∀ r, r < g.rules.length → lft g r = 0 → gd.getD r false = true → (r, 0, 0) ∈ sets.getD 0 []
  prd : ∀ k x y, x ∈ sets.getD k [] → nx g x = some y → 0 ≤ y → ∀ r, r < g.rules.length → lft g r = y → gd.getD r false = true → (r, 0, k) ∈ sets.getD k []
  nul : ∀ k x y, x ∈ sets.getD k [] → nx g x = some y → 0 ≤ y → em.getD y.toNat false = true → upI x ∈ sets.getD k []
  cmp : ∀ k x p, x ∈ sets.getD k [] → nx g x = none → x.2.2 < k → p ∈ sets.getD x.2.2 [] → nx g p = some (lft g x.1) → upI p ∈ sets.getD k []
  scn : ∀ k x (h : k < u.length), x ∈ sets.getD k [] → nx g x = some (-u[k] - 1) → upI x ∈ sets.getD (k + 1) []
theorem nx_take {x : It} {y : Int} (h : nx g x = some y) : (rgt g x.1).take (x.2.1 + 1) = (rgt g x.1).take x.2.1 ++ [y] := by
  unfold nx at h
  obtain ⟨h1, h2⟩ := List.getElem?_eq_some_iff.1 h
  rw [List.take_succ_eq_append_getElem h1, h2]
theorem nx_none {x : It} (h : nx g x = none) : (rgt g x.1).take x.2.1 = rgt g x.1 := by
  unfold nx at h
  exact List.take_of_length_le (List.getElem?_eq_none_iff.1 h)
theorem yd_rule {x : Nat} (hx : x < g.rules.length) {w : List Int} (h : Yd g (rgt g x) w) : Yd g [lft g x] w := by
  have e1 : rgt g x = g.rules[x].right := by unfold rgt; rw [List.getElem?_eq_getElem hx]; rfl
  have e2 : lft g x = g.rules[x].left := by unfold lft; rw [List.getElem?_eq_getElem hx]; rfl
  rw [e1] at h
  rw [e2]
  exact .one hx h
theorem step_sound {gd em : List Bool} {sets : List (List It)} {at_ : Nat} {v : List Int} (hv : v.length = at_) (hem : ∀ y : Int, 0 ≤ y → em.getD y.toNat false = true → Nul g y)
    (hok : ∀ i s, i < at_ → sets[i]? = some s → okL g i s) (hs : ∀ k x, k < at_ → x ∈ sets.getD k [] → Yd g ((rgt g x.1).take x.2.1) ((v.take k).drop x.2.2)) (l : List It) (x : It)
    (hl : ∀ y ∈ l, okI g at_ y ∧ Yd g ((rgt g y.1).take y.2.1) (v.drop y.2.2)) (hx : x ∈ l) : ∀ y ∈ stepC g gd em sets at_ l x, okI g at_ y ∧ Yd g ((rgt g y.1).take y.2.1) (v.drop y.2.2) := by
  intro y hy
  have hxI := hl x hx
  unfold stepC at hy
  split at hy
  · rename_i hn
    rcases (doneL_mem _).1 hy with hy | ⟨p, hp, hpn, rfl⟩
    · exact hl y hy
    · have hx1 : Yd g [lft g x.1] (v.drop x.2.2) := yd_rule hxI.1.1 (by rw [← nx_none hn]; exact hxI.2)
      have key : okI g x.2.2 p ∧ Yd g ((rgt g p.1).take p.2.1) ((v.take x.2.2).drop p.2.2) := by
        split at hp
        · rename_i he
          have := hl p hp
          rw [he, ← hv, List.take_length]
          rw [he] at *
          rw [hv]; exact this
        · rename_i he
          have hlt : x.2.2 < at_ := by have := hxI.1.2.2; omega
          refine ⟨?_, hs _ p hlt hp⟩
          rw [List.getD_eq_getElem?_getD] at hp
          cases hq : sets[x.2.2]? with
          | none => rw [hq] at hp; cases hp
          | some s => rw [hq] at hp; exact (hok _ s hlt hq).ok p hp
      refine ⟨⟨key.1.1, nx_lt hpn, ?_⟩, ?_⟩
      · have := key.1.2.2; have := hxI.1.2.2; show p.2.2 ≤ at_; omega
      · show Yd g ((rgt g p.1).take (p.2.1 + 1)) (v.drop p.2.2)
        rw [nx_take hpn]
        have h := key.2.append hx1
        have e : (v.take x.2.2).drop p.2.2 ++ v.drop x.2.2 = v.drop p.2.2 := by
          have hle : p.2.2 ≤ x.2.2 := key.1.2.2
          have hlx : x.2.2 ≤ v.length := by have := hxI.1.2.2; omega
          conv => rhs; rw [← List.take_append_drop x.2.2 v]
          rw [List.drop_append_of_le_length (by rw [List.length_take]; omega)]
        rwa [e] at h
  · rename_i y0 hn
    split at hy
    · rename_i h0
      have hb : ∀ y, y ∈ beginL g gd y0 at_ l → okI g at_ y ∧ Yd g ((rgt g y.1).take y.2.1) (v.drop y.2.2) := fun y hy => by
        rcases (beginN_mem _).1 hy with hy | ⟨r, h1, h2, rfl⟩
        · exact hl y hy
        · refine ⟨⟨h1, Nat.zero_le _, Nat.le_refl _⟩, ?_⟩
          show Yd g ((rgt g r).take 0) (v.drop at_)
          rw [List.take_zero, List.drop_eq_nil_of_le (by omega)]
          exact .nil
      split at hy
      · rename_i he
        rcases addI_mem.1 hy with hy | rfl
        · exact hb y hy
        · refine ⟨hxI.1.up hn, ?_⟩
          show Yd g ((rgt g x.1).take (x.2.1 + 1)) (v.drop x.2.2)
          rw [nx_take hn]
          have := hxI.2.append (hem y0 h0 he).yd
          rwa [List.append_nil] at this
      · exact hb y hy
    · exact hl y hy
theorem getD_snoc_lt {α : Type} {l : List (List α)} {x : List α} {k : Nat} (h : k < l.length) : (l ++ [x]).getD k [] = l.getD k [] := by
  rw [List.getD_eq_getElem?_getD, List.getD_eq_getElem?_getD, List.getElem?_append_left h]
theorem getD_snoc_eq {α : Type} {l : List (List α)} {x : List α} : (l ++ [x]).getD l.length [] = x := by
  rw [List.getD_eq_getElem?_getD, List.getElem?_append_right (Nat.le_refl _), Nat.sub_self]; rfl
theorem getD_ge {α : Type} {l : List (List α)} {k : Nat} (h : l.length ≤ k) : l.getD k [] = [] := by
  rw [List.getD_eq_getElem?_getD, List.getElem?_eq_none h]; rfl
theorem close_closed {gd em : List Bool} {sets : List (List It)} {at_ : Nat} {l : List It} (hs : ∀ i s, i < at_ → sets[i]? = some s → okL g i s) (hl : okL g at_ l) {x : It} (hx : x ∈ closeL g gd em sets at_ l) :
    (∀ y, nx g x = some y → 0 ≤ y → ∀ r, r < g.rules.length → lft g r = y → gd.getD r false = true → (r, 0, at_) ∈ closeL g gd em sets at_ l) ∧ (∀ y, nx g x = some y → 0 ≤ y → em.getD y.toNat false = true → upI x ∈ closeL g gd em sets at_ l) ∧
    (nx g x = none → x.2.2 ≠ at_ → ∀ p ∈ sets.getD x.2.2 [], nx g p = some (lft g x.1) → upI p ∈ closeL g gd em sets at_ l) := by
  obtain ⟨l', h⟩ := closeC_all (gd := gd) (em := em) hs _ l 0 hl (Nat.zero_add _) (fun j x hj => absurd hj (Nat.not_lt_zero _)) x hx
  refine ⟨fun y hn h0 r hr hlr hgd => h _ ?_, fun y hn h0 he => h _ ?_, fun hn hne p hp hpn => h _ ?_⟩
  · unfold stepC
    rw [hn]
    simp only [if_pos h0]
    have hb : (r, 0, at_) ∈ beginL g gd y at_ l' := (beginN_mem _).2 (.inr ⟨r, hr, by unfold begP; rw [hlr, hgd]; simp, rfl⟩)
    split
    · exact addI_mem.2 (.inl hb)
    · exact hb
  · unfold stepC
    rw [hn]
    simp only [if_pos h0, he]
    exact addI_mem.2 (.inr rfl)
  · unfold stepC
    rw [hn]
    simp only
    rw [if_neg hne]
    exact (doneL_mem _).2 (.inr ⟨p, hp, hpn, rfl⟩)
theorem pushL_mem {t : Int} {y : It} : ∀ (ps : List It), y ∈ pushL g ps t ↔ 0 ≤ t ∧ ∃ p ∈ ps, nx g p = some (-t - 1) ∧ y = upI p := by
  suffices ∀ (ps l : List It), y ∈ ps.foldl (fun l x => if 0 ≤ t ∧ nx g x = some (-t - 1) then addI l (upI x) else l) l ↔ y ∈ l ∨ (0 ≤ t ∧ ∃ p ∈ ps, nx g p = some (-t - 1) ∧ y = upI p) by
    intro ps
    have := this ps []
    unfold pushL
    simpa using this
  intro ps
  induction ps with
  | nil => intro l; simp
  | cons p ps ih =>
    intro l
    rw [List.foldl_cons, ih]
    by_cases hp : 0 ≤ t ∧ nx g p = some (-t - 1)
    · rw [if_pos hp, addI_mem]
      constructor
      · rintro ((h | h) | ⟨h0, q, h1, h2⟩)
        · exact .inl h
        · exact .inr ⟨hp.1, p, by simp, hp.2, h⟩
        · exact .inr ⟨h0, q, by simp [h1], h2⟩
      · rintro (h | ⟨h0, q, h1, h2, h3⟩)
        · exact .inl (.inl h)
        · rcases List.mem_cons.1 h1 with rfl | h1
          · exact .inl (.inr h3)
          · exact .inr ⟨h0, q, h1, h2, h3⟩
    · rw [if_neg hp]
      constructor
      · rintro (h | ⟨h0, q, h1, h2⟩)
        · exact .inl h
        · exact .inr ⟨h0, q, by simp [h1], h2⟩
      · rintro (h | ⟨h0, q, h1, h2, h3⟩)
        · exact .inl h
        · rcases List.mem_cons.1 h1 with rfl | h1
          · exact absurd ⟨h0, h2⟩ hp
          · exact .inr ⟨h0, q, h1, h2, h3⟩
section
variable {gd em : List Bool}
theorem Fine.new (hem : ∀ y : Int, 0 ≤ y → em.getD y.toNat false = true → Nul g y) : Fine g gd em [] (newS g gd em) := by
  have hl : okL g 0 (beginL g gd 0 0 []) := beginN_ok (.nil g 0) _ (Nat.le_refl _)
  have hs : ∀ (i : Nat) (s : List It), i < 0 → ([] : List (List It))[i]? = some s → okL g i s := fun i s hi => absurd hi (Nat.not_lt_zero _)
  have h0 : ∀ k x, x ∈ (newS g gd em).getD k [] → k = 0 ∧ x ∈ closeL g gd em [] 0 (beginL g gd 0 0 []) := fun k x hx => by
    unfold newS at hx
    cases k with
    | zero => exact ⟨rfl, hx⟩
    | succ k => simp at hx
  have e0 : (newS g gd em).getD 0 [] = closeL g gd em [] 0 (beginL g gd 0 0 []) := rfl
  refine ⟨rfl, .new, fun k x hx => ?_, fun r hr h1 h2 => ?_, fun k x y hx hn hy r hr hl' hgd => ?_, fun k x y hx hn hy he => ?_, fun k x p hx hn hlt hp hpn => ?_, fun k x h => absurd h (Nat.not_lt_zero _)⟩
  · obtain ⟨rfl, hx⟩ := h0 k x hx
    have := closeC_inv (step_sound (v := []) rfl hem hs (fun k x hk => absurd hk (Nat.not_lt_zero _))) _ _ 0 (fun y hy => ?_) x hx
    · exact this.2
    · rcases (beginN_mem _).1 hy with hy | ⟨r, h1, h2, rfl⟩
      · cases hy
      · exact ⟨⟨h1, Nat.zero_le _, Nat.le_refl _⟩, .nil⟩
  · rw [e0]
    exact closeC_sub _ _ _ ((beginN_mem _).2 (.inr ⟨r, hr, by unfold begP; rw [h1, h2]; simp, rfl⟩))
  · obtain ⟨rfl, hx⟩ := h0 k x hx
    rw [e0]
    exact (close_closed hs hl hx).1 y hn hy r hr hl' hgd
  · obtain ⟨rfl, hx⟩ := h0 k x hx
    rw [e0]
    exact (close_closed hs hl hx).2.1 y hn hy he
  · obtain ⟨rfl, _⟩ := h0 k x hx
    exact absurd hlt (Nat.not_lt_zero _)
theorem Fine.push {u : List Int} {sets s' : List (List It)} {t : Int} (hem : ∀ y : Int, 0 ≤ y → em.getD y.toNat false = true → Nul g y) (h : Fine g gd em u sets) (hp : pushS g gd em sets t = some s') : Fine g gd em (u ++ [t]) s' := by
  have hok' := h.ok.push hp
  unfold pushS at hp
  split at hp
  · cases hp
  rename_i x0 l0 hl0
  cases hp
  generalize hL : x0 :: l0 = l at *
  have hlen := h.len
  have hs : ∀ i s, i < sets.length → sets[i]? = some s → okL g i s := fun i s _ hi => h.ok.2 i s hi
  have hl : okL g sets.length l := by rw [← hl0]; exact pushL_ok _ ((lastS_ok h.ok).up (Nat.sub_le _ _)).ok
  have hlast : lastS sets = sets.getD u.length [] := by unfold lastS; rw [hlen]; rfl
  have hlm : ∀ y, y ∈ l ↔ 0 ≤ t ∧ ∃ p ∈ sets.getD u.length [], nx g p = some (-t - 1) ∧ y = upI p := fun y => by rw [← hl0, pushL_mem, hlast]
  have split : ∀ k x, x ∈ (sets ++ [closeL g gd em sets sets.length l]).getD k [] → (k < sets.length ∧ x ∈ sets.getD k []) ∨ (k = sets.length ∧ x ∈ closeL g gd em sets sets.length l) := fun k x hx => by
    rcases Nat.lt_trichotomy k sets.length with hk | hk | hk
    · rw [getD_snoc_lt hk] at hx; exact .inl ⟨hk, hx⟩
    · subst hk; rw [getD_snoc_eq] at hx; exact .inr ⟨rfl, hx⟩
    · rw [getD_ge (by simp; omega)] at hx; cases hx
  have lo : ∀ k, k < sets.length → (sets ++ [closeL g gd em sets sets.length l]).getD k [] = sets.getD k [] := fun k hk => getD_snoc_lt hk
  have hi : (sets ++ [closeL g gd em sets sets.length l]).getD sets.length [] = closeL g gd em sets sets.length l := getD_snoc_eq
  refine ⟨by simp [hlen], hok', fun k x hx => ?_, fun r hr h1 h2 => ?_, fun k x y hx hn hy r hr hl' hgd => ?_, fun k x y hx hn hy he => ?_, fun k x p hx hn hlt hp hpn => ?_, fun k x hk hx hn => ?_⟩
  · rcases split k x hx with ⟨hk, hx2⟩ | ⟨rfl, hx2⟩
    · have := h.snd k x hx2
      rwa [List.take_append_of_le_length (by omega)]
    · have hv : (u ++ [t]).length = sets.length := by simp [hlen]
      have := closeC_inv (I := fun y => okI g sets.length y ∧ Yd g ((rgt g y.1).take y.2.1) ((u ++ [t]).drop y.2.2)) (step_sound (v := u ++ [t]) hv hem hs (fun k x hk hx => by
        have := h.snd k x hx
        rwa [List.take_append_of_le_length (by omega)])) _ l 0 (fun y hy => ?_) x hx2
      · rw [← hv, List.take_length]; exact this.2
      · refine ⟨hl.ok y hy, ?_⟩
        obtain ⟨h0, p, hp, hpn, rfl⟩ := (hlm y).1 hy
        show Yd g ((rgt g p.1).take (p.2.1 + 1)) ((u ++ [t]).drop p.2.2)
        rw [nx_take hpn]
        have h1 := h.snd _ p hp
        rw [List.take_length] at h1
        have hpk : p.2.2 ≤ u.length := by
          have := (lastS_ok h.ok).ok p (by rw [hlast]; exact hp)
          have := this.2.2
          omega
        rw [List.drop_append_of_le_length hpk]
        refine h1.append ?_
        have := Yd.term (g := g) (s := -t - 1) (by omega) .nil
        rwa [show -(-t - 1) - 1 = t by omega] at this
  · rw [lo 0 (by omega)]; exact h.st r hr h1 h2
  · rcases split k x hx with ⟨hk, hx2⟩ | ⟨rfl, hx2⟩
    · rw [lo k hk]; exact h.prd k x y hx2 hn hy r hr hl' hgd
    · rw [hi]; exact (close_closed hs hl hx2).1 y hn hy r hr hl' hgd
  · rcases split k x hx with ⟨hk, hx2⟩ | ⟨rfl, hx2⟩
    · rw [lo k hk]; exact h.nul k x y hx2 hn hy he
    · rw [hi]; exact (close_closed hs hl hx2).2.1 y hn hy he
  · rcases split k x hx with ⟨hk, hx2⟩ | ⟨rfl, hx2⟩
    · rw [lo k hk]
      rw [lo _ (by omega)] at hp
      exact h.cmp k x p hx2 hn hlt hp hpn
    · rw [hi]
      rw [lo _ hlt] at hp
      exact (close_closed hs hl hx2).2.2 hn (by omega) p hp hpn
  · rw [List.length_append, List.length_singleton] at hk
    rcases split k x hx with ⟨hk2, hx2⟩ | ⟨rfl, hx2⟩
    · by_cases e : k = u.length
      · subst e
        have ht : (u ++ [t])[u.length] = t := by simp
        rw [ht] at hn
        rw [show u.length + 1 = sets.length by omega, hi]
        refine closeC_sub _ _ _ ((hlm _).2 ⟨?_, x, hx2, hn, rfl⟩)
        cases l with
        | nil => cases hL
        | cons y l => exact ((hlm y).1 (by simp)).1
      · rw [lo _ (by omega)]
        rw [List.getElem_append_left (by omega)] at hn
        exact h.scn k x (by omega) hx2 hn
    · omega
end
end Go.AM
namespace Go.AM
section
variable {g : Gram} {gd em : List Bool} {u : List Int} {sets : List (List It)}
structure Knows (g : Gram) (gd em : List Bool) : Prop where
  hg : InG g
  gd : ∀ r, r < g.rules.length → (∀ s ∈ rgt g r, 0 ≤ s → Prd g s) → gd.getD r false = true
  em : ∀ y : Int, 0 ≤ y → (em.getD y.toNat false = true ↔ Nul g y)
theorem rgt_eq {i : Nat} (h : i < g.rules.length) : rgt g i = g.rules[i].right := by unfold rgt; rw [List.getElem?_eq_getElem h]; rfl
theorem lft_eq {i : Nat} (h : i < g.rules.length) : lft g i = g.rules[i].left := by unfold lft; rw [List.getElem?_eq_getElem h]; rfl
theorem nx_drop {x : It} {s : Int} {l : List Int} (h : (rgt g x.1).drop x.2.1 = s :: l) : nx g x = some s ∧ (rgt g x.1).drop (x.2.1 + 1) = l := by
  have h1 := congrArg (fun l : List Int => l[0]?) h
  have h2 := congrArg List.tail h
  simp only [List.getElem?_drop, Nat.add_zero, List.getElem?_cons_zero] at h1
  simp only [List.tail_drop, List.tail_cons] at h2
  exact ⟨h1, h2⟩
theorem nx_end {i k : Nat} (h : i < g.rules.length) : nx g (i, g.rules[i].right.length, k) = none := by
  unfold nx
  rw [rgt_eq h]
  exact List.getElem?_eq_none (Nat.le_refl _)
theorem Fine.pass (h : Fine g gd em u sets) (K : Knows g gd em) {form z : List Int} (hy : Yd g form z) : ∀ (x : It) (k : Nat) (rest : List Int), x ∈ sets.getD k [] → (rgt g x.1).drop x.2.1 = form ++ rest → k + z.length ≤ u.length → (u.drop k).take z.length = z →
    (x.1, x.2.1 + form.length, x.2.2) ∈ sets.getD (k + z.length) [] := by
  induction hy with
  | nil => intro x k rest hx _ _ _; exact hx
  | @term s rest' w hs hk ih =>
    intro x k rest hx hd hl hz
    obtain ⟨h1, h2⟩ := nx_drop hd
    rw [List.length_cons] at hl hz
    have hkl : k < u.length := by omega
    rw [List.drop_eq_getElem_cons hkl, List.take_succ_cons] at hz
    injection hz with e1 e2
    have := h.scn k x hkl hx (by rw [h1, e1]; congr 1; omega)
    have := ih (upI x) (k + 1) rest this h2 (by omega) e2
    rw [List.length_cons, List.length_cons]
    have e3 : k + (w.length + 1) = k + 1 + w.length := by omega
    have e4 : x.2.1 + (rest'.length + 1) = x.2.1 + 1 + rest'.length := by omega
    rw [e3, e4]; exact this
  | @var i hi rest' a b hxa hkb ih1 ih2 =>
    intro x k rest hx hd hl hz
    obtain ⟨h1, h2⟩ := nx_drop hd
    rw [List.length_append] at hl hz
    have h0 : 0 ≤ g.rules[i].left := K.hg.left0 _ (List.getElem_mem hi)
    have ha : (u.drop k).take a.length = a := by
      have := congrArg (List.take a.length) hz
      rw [List.take_take, List.take_left, Nat.min_eq_left (by omega)] at this
      exact this
    have hb : (u.drop (k + a.length)).take b.length = b := by
      have := congrArg (List.drop a.length) hz
      rw [List.drop_take, List.drop_drop, List.drop_left, Nat.add_sub_cancel_left] at this
      exact this
    have hp : (i, 0, k) ∈ sets.getD k [] := h.prd k x _ hx h1 h0 i hi (lft_eq hi) (K.gd i hi (by rw [rgt_eq hi]; exact hxa.prd))
    have hc := ih1 (i, 0, k) k [] hp (by rw [List.append_nil]; show (rgt g i).drop 0 = _; rw [rgt_eq hi]; rfl) (by omega) ha
    have hup : upI x ∈ sets.getD (k + a.length) [] := by
      by_cases e : a = []
      · subst e
        exact h.nul k x _ hx h1 h0 ((K.em _ h0).2 (by
          have := (Yd.one hi hxa).nul K.hg g.rules[i].left (by simp)
          exact this.2))
      · have hpos : 0 < a.length := List.length_pos_iff.2 e
        refine h.cmp (k + a.length) _ x hc (by rw [Nat.zero_add]; exact nx_end hi) (by show k < k + a.length; omega) hx ?_
        rw [h1, lft_eq hi]
    have := ih2 (upI x) (k + a.length) rest hup h2 (by omega) hb
    rw [List.length_append, List.length_cons]
    have e3 : k + (a.length + b.length) = k + a.length + b.length := by omega
    have e4 : x.2.1 + (rest'.length + 1) = x.2.1 + 1 + rest'.length := by omega
    rw [e3, e4]; exact this
theorem Fine.adv (h : Fine g gd em u sets) (K : Knows g gd em) {i : Nat} (hi : i < g.rules.length) {a : List Int} (hy : Yd g g.rules[i].right a) {x : It} {k : Nat} (hx : x ∈ sets.getD k []) (hn : nx g x = some g.rules[i].left) (hl : k + a.length ≤ u.length) (ha : (u.drop k).take a.length = a) :
    upI x ∈ sets.getD (k + a.length) [] := by
  have hlt := nx_lt hn
  have hd : (rgt g x.1).drop x.2.1 = [g.rules[i].left] ++ (rgt g x.1).drop (x.2.1 + 1) := by
    rw [List.drop_eq_getElem_cons hlt]
    unfold nx at hn
    rw [List.getElem?_eq_getElem hlt] at hn
    injection hn with hn
    rw [hn]; rfl
  exact h.pass K (Yd.one hi hy) x k _ hx hd hl ha
theorem app_cases {a b c d : List Int} (h : a ++ b = c ++ d) : (∃ e, c = a ++ e ∧ b = e ++ d) ∨ (∃ e, e ≠ [] ∧ a = c ++ e ∧ d = e ++ b) := by
  rcases List.append_eq_append_iff.1 h with ⟨e, h1, h2⟩ | ⟨e, h1, h2⟩
  · exact .inl ⟨e, h1, h2⟩
  · by_cases he : e = []
    · subst he
      exact .inl ⟨[], by simpa using h1.symm, by simpa using h2.symm⟩
    · exact .inr ⟨e, he, h1, h2⟩
theorem drop_at {a e : List Int} {k : Nat} (h : u.drop k = a ++ e) (hk : k ≤ u.length) : k + a.length ≤ u.length ∧ (u.drop k).take a.length = a ∧ u.drop (k + a.length) = e := by
  have h1 := congrArg List.length h
  rw [List.length_drop, List.length_append] at h1
  refine ⟨by omega, by rw [h, List.take_left], ?_⟩
  rw [← List.drop_drop, h, List.drop_left]
theorem Fine.next (h : Fine g gd em u sets) (K : Knows g gd em) {form z : List Int} (hy : Yd g form z) : ∀ (x : It) (k : Nat) (rest : List Int) (t : Int) (z' : List Int), x ∈ sets.getD k [] → (rgt g x.1).drop x.2.1 = form ++ rest → k ≤ u.length → z = u.drop k ++ t :: z' → ∃ y ∈ sets.getD u.length [], nx g y = some (-t - 1) := by
  induction hy with
  | nil => intro x k rest t z' _ _ _ hz; simp at hz
  | @term s rest' w hs hk ih =>
    intro x k rest t z' hx hd hl hz
    obtain ⟨h1, h2⟩ := nx_drop hd
    by_cases hkl : k < u.length
    · rw [List.drop_eq_getElem_cons hkl, List.cons_append] at hz
      injection hz with e1 e2
      exact ih (upI x) (k + 1) rest t z' (h.scn k x hkl hx (by rw [h1, ← e1]; congr 1; omega)) h2 (by omega) e2
    · have : k = u.length := by omega
      subst this
      rw [List.drop_length, List.nil_append] at hz
      injection hz with e1 e2
      exact ⟨x, hx, by rw [h1, ← e1]; congr 1; omega⟩
  | @var i hi rest' a b hxa hkb ih1 ih2 =>
    intro x k rest t z' hx hd hl hz
    obtain ⟨h1, h2⟩ := nx_drop hd
    have h0 : 0 ≤ g.rules[i].left := K.hg.left0 _ (List.getElem_mem hi)
    rcases app_cases hz with ⟨e, h3, h4⟩ | ⟨e, he, h3, h4⟩
    · obtain ⟨d1, d2, d3⟩ := drop_at h3 hl
      exact ih2 (upI x) (k + a.length) rest t z' (h.adv K hi hxa hx h1 d1 d2) h2 d1 (by rw [d3]; exact h4)
    · have hp : (i, 0, k) ∈ sets.getD k [] := h.prd k x _ hx h1 h0 i hi (lft_eq hi) (K.gd i hi (by rw [rgt_eq hi]; exact hxa.prd))
      cases e with
      | nil => exact absurd rfl he
      | cons t' e =>
        injection h4 with e1 e2
        subst e1
        exact ih1 (i, 0, k) k [] t e hp (by rw [List.append_nil]; show (rgt g i).drop 0 = _; rw [rgt_eq hi]; rfl) hl h3
theorem sumF_le_sumC (c : Nat → Nat) : ∀ (l : List Int) (a : Nat), sumF c a l ≤ a + sumC c l := by
  intro l
  induction l with
  | nil => intro a; simp [sumF, sumC]
  | cons s l ih =>
    intro a
    simp only [sumF, sumC]
    have := ih (if s < 0 then a + 1 else min (a + c s.toNat) farN)
    split at this <;> rename_i hs
    · rw [if_pos hs, if_pos hs]; omega
    · rw [if_neg hs, if_neg hs]; omega
theorem restN_sum {c : Nat → Nat} {x : It} {d : Nat} : restN g c x d ≤ sumC c ((rgt g x.1).drop d) := by
  have := sumF_le_sumC c ((rgt g x.1).drop d) 0
  unfold restN
  omega
theorem yd_cost {c : Nat → Nat} {b : Nat → Int} (hg : InG g) (hc : CostOK g c b) {form z : List Int} (h : Yd g form z) : z.length < farN → sumC c form ≤ z.length := by
  induction h with
  | nil => intro _; exact Nat.le_refl _
  | term h _ ih =>
    intro hl
    rw [List.length_cons] at hl ⊢
    have := ih (by omega)
    simp only [sumC, if_pos h]
    omega
  | @var i hi rest a b hx hk ih1 ih2 =>
    intro hl
    rw [List.length_append] at hl ⊢
    have h2 := ih2 (by omega)
    have h0 := hg.left0 _ (List.getElem_mem hi)
    have h1 := hg.left1 _ (List.getElem_mem hi)
    have h3 := hc.least g.rules[i].left.toNat a.length (by omega) (by rw [Int.toNat_of_nonneg h0]; exact (Yd.one hi hx).wd)
    simp only [sumC, if_neg (show ¬ g.rules[i].left < 0 by omega)]
    omega
theorem needP_at {c : Nat → Nat} {M : List (Sp × Nat)} {left : Int} {frm : Nat} : ∀ (ps : List It) (n : Nat), needP g c M left frm ps n ≤ n ∧ ∀ p ∈ ps, nx g p = some left → ∀ m, getM M (frm, p) = some m → needP g c M left frm ps n ≤ m + restN g c p (p.2.1 + 1) := by
  intro ps
  induction ps with
  | nil => intro n; exact ⟨Nat.le_refl _, fun p h => by cases h⟩
  | cons q ps ih =>
    intro n
    have hs : needS g c M left frm n q ≤ n ∧ (nx g q = some left → ∀ m, getM M (frm, q) = some m → needS g c M left frm n q ≤ m + restN g c q (q.2.1 + 1)) := by
      unfold needS
      constructor
      · split
        · split <;> omega
        · exact Nat.le_refl _
      · intro hn m hm
        rw [if_pos hn, hm]
        simp only
        omega
    have hi := ih (needS g c M left frm n q)
    have e : needP g c M left frm (q :: ps) n = needP g c M left frm ps (needS g c M left frm n q) := rfl
    rw [e]
    refine ⟨Nat.le_trans hi.1 hs.1, fun p hp hn m hm => ?_⟩
    rcases List.mem_cons.1 hp with rfl | hp
    · exact Nat.le_trans hi.1 (hs.2 hn m hm)
    · exact hi.2 p hp hn m hm
theorem needP_from {c : Nat → Nat} {M : List (Sp × Nat)} {left : Int} {frm : Nat} : ∀ (ps : List It) (n : Nat), needP g c M left frm ps n = n ∨ ∃ p ∈ ps, nx g p = some left ∧ ∃ m, getM M (frm, p) = some m ∧ needP g c M left frm ps n = m + restN g c p (p.2.1 + 1) := by
  intro ps
  induction ps with
  | nil => intro n; exact .inl rfl
  | cons q ps ih =>
    intro n
    have e : needP g c M left frm (q :: ps) n = needP g c M left frm ps (needS g c M left frm n q) := rfl
    rw [e]
    rcases ih (needS g c M left frm n q) with h | ⟨p, hp, h1, m, h2, h3⟩
    · rw [h]
      unfold needS
      split
      · rename_i hn
        split
        · rename_i m hm
          rcases Nat.le_total n (m + restN g c q (q.2.1 + 1)) with h4 | h4
          · exact .inl (by omega)
          · exact .inr ⟨q, by simp, hn, m, hm, by omega⟩
        · exact .inl rfl
      · exact .inl rfl
    · exact .inr ⟨p, by simp [hp], h1, m, h2, h3⟩
def FixM (g : Gram) (c : Nat → Nat) (sets : List (List It)) (M : List (Sp × Nat)) : Prop := ∀ a x, x ∈ sets.getD a [] → need1 g c sets M x < farN → ∃ m, getM M (a, x) = some m ∧ m ≤ need1 g c sets M x
theorem Fine.least (h : Fine g gd em u sets) (K : Knows g gd em) {c : Nat → Nat} {b : Nat → Int} (hc : CostOK g c b) {M : List (Sp × Nat)} (hM : FixM g c sets M) {form z : List Int} (hy : Yd g form z) : ∀ (x : It) (k : Nat) (rest z' : List Int) (m0 : Nat), x ∈ sets.getD k [] → (rgt g x.1).drop x.2.1 = form ++ rest → k ≤ u.length → z = u.drop k ++ z' →
    need1 g c sets M x ≤ m0 → z'.length + sumC c rest + m0 < farN → ∃ y ∈ sets.getD u.length [], ∃ m, getM M (u.length, y) = some m ∧ m + restN g c y y.2.1 ≤ z'.length + sumC c rest + m0 := by
  have last : ∀ {form z : List Int}, Yd g form z → ∀ (x : It) (rest : List Int) (m0 : Nat), x ∈ sets.getD u.length [] → (rgt g x.1).drop x.2.1 = form ++ rest → need1 g c sets M x ≤ m0 → z.length + sumC c rest + m0 < farN → ∃ y ∈ sets.getD u.length [], ∃ m, getM M (u.length, y) = some m ∧ m + restN g c y y.2.1 ≤ z.length + sumC c rest + m0 := by
    intro form z hy x rest m0 hx hd hn hl
    obtain ⟨m, h1, h2⟩ := hM _ x hx (by omega)
    refine ⟨x, hx, m, h1, ?_⟩
    have h3 := restN_sum (g := g) (c := c) (x := x) (d := x.2.1)
    rw [hd, sumC_append] at h3
    have h4 := yd_cost K.hg hc hy (by omega)
    omega
  induction hy with
  | nil =>
    intro x k rest z' m0 hx hd hk hz hn hl
    have hz2 := hz.symm
    rw [List.append_eq_nil_iff, List.drop_eq_nil_iff] at hz2
    obtain ⟨h1, rfl⟩ := hz2
    have : k = u.length := by omega
    subst this
    exact last .nil x rest m0 hx hd hn hl
  | @term s rest' w hs hkw ih =>
    intro x k rest z' m0 hx hd hk hz hn hl
    by_cases hkl : k < u.length
    · obtain ⟨h1, h2⟩ := nx_drop hd
      rw [List.drop_eq_getElem_cons hkl, List.cons_append] at hz
      injection hz with e1 e2
      exact ih (upI x) (k + 1) rest z' m0 (h.scn k x hkl hx (by rw [h1, ← e1]; congr 1; omega)) h2 (by omega) e2 hn hl
    · have : k = u.length := by omega
      subst this
      rw [List.drop_length, List.nil_append] at hz
      subst hz
      exact last (.term hs hkw) x rest m0 hx hd hn hl
  | @var i hi rest' a b hxa hkb ih1 ih2 =>
    intro x k rest z' m0 hx hd hk hz hn hl
    by_cases hkl : k < u.length
    · obtain ⟨h1, h2⟩ := nx_drop hd
      have h0 : 0 ≤ g.rules[i].left := K.hg.left0 _ (List.getElem_mem hi)
      rcases app_cases hz with ⟨e, h3, h4⟩ | ⟨e, he, h3, h4⟩
      · obtain ⟨d1, d2, d3⟩ := drop_at h3 hk
        exact ih2 (upI x) (k + a.length) rest z' m0 (h.adv K hi hxa hx h1 d1 d2) h2 d1 (by rw [d3]; exact h4) hn hl
      · have hp : (i, 0, k) ∈ sets.getD k [] := h.prd k x _ hx h1 h0 i hi (lft_eq hi) (K.gd i hi (by rw [rgt_eq hi]; exact hxa.prd))
        obtain ⟨m, h5, h6⟩ := hM _ x hx (by omega)
        have h7 := (needP_at (g := g) (c := c) (M := M) (left := lft g i) (frm := k) (sets.getD k []) (need0 g (i, 0, k))).2 x hx (by rw [h1, lft_eq hi]) m h5
        have h8 := restN_sum (g := g) (c := c) (x := x) (d := x.2.1 + 1)
        rw [h2, show rest'.append rest = rest' ++ rest from rfl, sumC_append] at h8
        subst h4
        rw [List.length_append] at hl ⊢
        have h9 := yd_cost K.hg hc hkb (by omega)
        have hn' : need1 g c sets M (i, 0, k) ≤ m0 + (b.length + sumC c rest) := by
          have e1 : need1 g c sets M (i, 0, k) = needP g c M (lft g i) k (sets.getD k []) (need0 g (i, 0, k)) := rfl
          omega
        obtain ⟨y, hy, m', h10, h11⟩ := ih1 (i, 0, k) k [] e _ hp (by rw [List.append_nil]; show (rgt g i).drop 0 = _; rw [rgt_eq hi]; rfl) hk h3 hn' (by simp only [sumC]; omega)
        exact ⟨y, hy, m', h10, by simp only [sumC] at h11; omega⟩
    · have : k = u.length := by omega
      subst this
      rw [List.drop_length, List.nil_append] at hz
      subst hz
      exact last (.var hi hxa hkb) x rest m0 hx hd hn hl
end
end Go.AM
namespace Go.AM
section
variable {g : Gram} {gd em : List Bool} {u : List Int} {sets : List (List It)} {c : Nat → Nat} {b : Nat → Int}
theorem upd1_same {a : Nat} {st : List (Sp × Nat) × Bool} {x : It} (h : (upd1 g c sets a st x).2 = false) : upd1 g c sets a st x = st ∧ ¬ (need1 g c sets st.1 x < farN ∧ lessO (need1 g c sets st.1 x) (getM st.1 (a, x)) = true) := by
  unfold upd1 at h ⊢
  split
  · rename_i hc
    rw [if_pos hc] at h
    cases h
  · rename_i hc
    exact ⟨rfl, hc⟩
theorem rowR_same {a : Nat} : ∀ (l : List It) (st : List (Sp × Nat) × Bool), (rowR g c sets a l st).2 = false → rowR g c sets a l st = st ∧ ∀ x ∈ l, ¬ (need1 g c sets st.1 x < farN ∧ lessO (need1 g c sets st.1 x) (getM st.1 (a, x)) = true) := by
  intro l
  induction l with
  | nil => intro st _; exact ⟨rfl, fun x h => by cases h⟩
  | cons x l ih =>
    intro st h
    have e : rowR g c sets a (x :: l) st = rowR g c sets a l (upd1 g c sets a st x) := rfl
    rw [e] at h ⊢
    obtain ⟨h1, h2⟩ := ih _ h
    have h3 : (upd1 g c sets a st x).2 = false := by rw [h1] at h; exact h
    obtain ⟨h4, h5⟩ := upd1_same h3
    rw [h4] at h1 h2
    refine ⟨by rw [h4]; exact h1, fun y hy => ?_⟩
    rcases List.mem_cons.1 hy with rfl | hy
    · exact h5
    · exact h2 y hy
theorem roundN_same {st : List (Sp × Nat) × Bool} : ∀ n, (roundN g c sets n st).2 = false → roundN g c sets n st = st ∧ ∀ a, a < n → ∀ x ∈ sets.getD a [], ¬ (need1 g c sets st.1 x < farN ∧ lessO (need1 g c sets st.1 x) (getM st.1 (a, x)) = true) := by
  intro n
  induction n with
  | zero => intro _; exact ⟨rfl, fun a ha => absurd ha (Nat.not_lt_zero _)⟩
  | succ n ih =>
    intro h
    rw [roundN_succ] at h ⊢
    obtain ⟨h1, h2⟩ := rowR_same _ _ h
    have h3 : (roundN g c sets n st).2 = false := by rw [h1] at h; exact h
    obtain ⟨h4, h5⟩ := ih h3
    rw [h4] at h1 h2
    refine ⟨by rw [h4]; exact h1, fun a ha x hx => ?_⟩
    by_cases e : a = n
    · subst e; exact h2 x hx
    · exact h5 a (by omega) x hx
theorem needL_fix : ∀ (k : Nat) (M : List (Sp × Nat)), mu sets M < k → FixM g c sets (needL g c sets k M) := by
  intro k
  induction k with
  | zero => intro M h; omega
  | succ k ih =>
    intro M hk
    have hs := roundN_step (g := g) (c := c) (sets := sets) (st := (M, false)) sets.length (Nat.le_refl _)
    unfold needL
    split
    · rename_i hf
      refine ih _ ?_
      rcases hs.lt hf with h | h
      · cases h
      · simp only at h; omega
    · rename_i hf
      obtain ⟨h1, h2⟩ := roundN_same (g := g) (c := c) (sets := sets) (st := (M, false)) sets.length (by simpa using hf)
      rw [h1]
      intro a x hx hlt
      have ha : a < sets.length := Classical.byContradiction fun hc => by rw [getD_ge (by omega)] at hx; cases hx
      have := h2 a ha x hx
      simp only at this ⊢
      cases hg : getM M (a, x) with
      | none => rw [hg] at this; exact absurd ⟨hlt, rfl⟩ this
      | some m =>
        refine ⟨m, rfl, ?_⟩
        rw [hg] at this
        apply Classical.byContradiction
        intro hc
        exact this ⟨hlt, by simp [lessO]; omega⟩
theorem needs_fix : FixM g c sets (needs g c sets) := needL_fix _ _ (Nat.lt_succ_self _)
def OutW (g : Gram) (u : List Int) (f : Nat) (A : Int) (v : List Int) : Prop := ∀ z, Yd g [A] z → Yd g [0] (u.take f ++ z ++ v)
def OkM (g : Gram) (u : List Int) (M : List (Sp × Nat)) : Prop := ∀ a x m, getM M (a, x) = some m → ∃ v, v.length = m ∧ OutW g u x.2.2 (lft g x.1) v
theorem rest_word (hc : CostOK g c b) (hg : InG g) {r d : Nat} (hr : r < g.rules.length) {p q : Nat} (h : restN g c (r, p, q) d < farN) : ∃ z, Yd g ((rgt g r).drop d) z ∧ z.length = restN g c (r, p, q) d := by
  have hm := sumF_min c ((rgt g r).drop d) 0 0 rfl
  have e : restN g c (r, p, q) d = sumC c ((rgt g r).drop d) := by
    unfold restN at h ⊢
    simp only at h ⊢
    rw [Nat.zero_add] at hm
    omega
  obtain ⟨ord, hrk, hall⟩ := hc.ranked
  have hw : WdL g ((rgt g r).drop d) (sumC c ((rgt g r).drop d)) := wd_list _ fun s hs h0 => by
    have h1 := sumC_ge (c := c) hs h0
    have hlt : s.toNat < g.vars.length := by
      have := hg.right _ (List.getElem_mem hr) s (by rw [← rgt_eq hr]; exact List.mem_of_mem_drop hs)
      omega
    rcases hall s.toNat hlt with h2 | ⟨_, h2, _⟩
    · have := hrk.wd _ h2
      rwa [Int.toNat_of_nonneg h0] at this
    · omega
  obtain ⟨z, h1, h2⟩ := hw.yd
  exact ⟨z, h1, by rw [e]; exact h2⟩
theorem split_pass {x : It} {d : Nat} {a z : List Int} (h1 : Yd g ((rgt g x.1).take d) a) (h2 : Yd g ((rgt g x.1).drop d) z) : Yd g (rgt g x.1) (a ++ z) := by
  have := h1.append h2
  rwa [List.take_append_drop] at this
theorem need1_out (h : Fine g gd em u sets) (K : Knows g gd em) (hc : CostOK g c b) {M : List (Sp × Nat)} (hM : OkM g u M) {x : It} {a : Nat} (hx : x ∈ sets.getD a []) (hlt : need1 g c sets M x < farN) : ∃ v, v.length = need1 g c sets M x ∧ OutW g u x.2.2 (lft g x.1) v := by
  have ha : a < sets.length := Classical.byContradiction fun hc => by rw [getD_ge (by omega)] at hx; cases hx
  have hxI : okI g a x := by
    have : sets[a]? = some (sets.getD a []) := by rw [List.getD_eq_getElem?_getD, List.getElem?_eq_getElem ha]; rfl
    exact (h.ok.2 a _ this).ok x hx
  have hlen := h.len
  unfold need1 at hlt ⊢
  rcases needP_from (g := g) (c := c) (M := M) (left := lft g x.1) (frm := x.2.2) (sets.getD x.2.2 []) (need0 g x) with h1 | ⟨p, hp, hn, m, hm, h1⟩
  · rw [h1] at hlt ⊢
    unfold need0 at hlt ⊢
    split
    · rename_i h0
      refine ⟨[], rfl, fun z hz => ?_⟩
      rw [h0.2, List.take_zero, List.nil_append, List.append_nil, ← h0.1]
      exact hz
    · rename_i h0
      rw [if_neg h0] at hlt
      omega
  · rw [h1] at hlt ⊢
    obtain ⟨v, hv1, hv2⟩ := hM _ _ _ hm
    have hf : x.2.2 < sets.length := by have := hxI.2.2; omega
    have hpI : okI g x.2.2 p := by
      have : sets[x.2.2]? = some (sets.getD x.2.2 []) := by rw [List.getD_eq_getElem?_getD, List.getElem?_eq_getElem hf]; rfl
      exact (h.ok.2 _ _ this).ok p hp
    obtain ⟨z3, hz1, hz2⟩ := rest_word hc K.hg (d := p.2.1 + 1) (p := p.2.1) (q := p.2.2) hpI.1 (show restN g c p (p.2.1 + 1) < farN by omega)
    refine ⟨z3 ++ v, by rw [List.length_append, hz2, hv1]; show restN g c p (p.2.1 + 1) + m = _; omega, fun z hz => ?_⟩
    have hs := h.snd _ p hp
    have hrule : Yd g (rgt g p.1) ((u.take x.2.2).drop p.2.2 ++ z ++ z3) := by
      refine split_pass (d := p.2.1 + 1) ?_ hz1
      rw [nx_take hn]
      exact hs.append hz
    have := hv2 _ (yd_rule hpI.1 hrule)
    have e : u.take p.2.2 ++ ((u.take x.2.2).drop p.2.2 ++ z ++ z3) ++ v = u.take x.2.2 ++ z ++ (z3 ++ v) := by
      have e1 : u.take p.2.2 ++ (u.take x.2.2).drop p.2.2 = u.take x.2.2 := by
        conv => rhs; rw [← List.take_append_drop p.2.2 (u.take x.2.2)]
        rw [List.take_take, Nat.min_eq_left hpI.2.2]
      simp only [List.append_assoc]
      rw [← List.append_assoc, e1]
    rwa [e] at this
theorem upd1_out (h : Fine g gd em u sets) (K : Knows g gd em) (hc : CostOK g c b) {a : Nat} {st : List (Sp × Nat) × Bool} {x : It} (hM : OkM g u st.1) (hx : x ∈ sets.getD a []) : OkM g u (upd1 g c sets a st x).1 := by
  unfold upd1
  split
  · rename_i hl
    intro a' x' m hm
    simp only [getM_setM] at hm
    split at hm
    · rename_i e
      cases e
      cases hm
      exact need1_out h K hc hM hx hl.1
    · exact hM a' x' m hm
  · exact hM
theorem rowR_out (h : Fine g gd em u sets) (K : Knows g gd em) (hc : CostOK g c b) {a : Nat} : ∀ (l : List It) (st : List (Sp × Nat) × Bool), (∀ x ∈ l, x ∈ sets.getD a []) → OkM g u st.1 → OkM g u (rowR g c sets a l st).1 := by
  intro l
  induction l with
  | nil => intro st _ hM; exact hM
  | cons x l ih => intro st hl hM; exact ih _ (fun y hy => hl y (by simp [hy])) (upd1_out h K hc hM (hl x (by simp)))
theorem roundN_out (h : Fine g gd em u sets) (K : Knows g gd em) (hc : CostOK g c b) {st : List (Sp × Nat) × Bool} (hM : OkM g u st.1) : ∀ n, OkM g u (roundN g c sets n st).1 := by
  intro n
  induction n with
  | zero => exact hM
  | succ n ih => rw [roundN_succ]; exact rowR_out h K hc _ _ (fun x hx => hx) ih
theorem needL_out (h : Fine g gd em u sets) (K : Knows g gd em) (hc : CostOK g c b) : ∀ (k : Nat) (M : List (Sp × Nat)), OkM g u M → OkM g u (needL g c sets k M) := by
  intro k
  induction k with
  | zero => intro M hM; exact hM
  | succ k ih =>
    intro M hM
    have := roundN_out h K hc (st := (M, false)) hM sets.length
    unfold needL
    split
    · exact ih _ this
    · exact this
theorem needs_out (h : Fine g gd em u sets) (K : Knows g gd em) (hc : CostOK g c b) : OkM g u (needs g c sets) := needL_out h K hc _ _ fun a x m hm => by cases hm
theorem short_at {a : Nat} {M : List (Sp × Nat)} : ∀ (l : List It) (n : Nat), l.foldl (shortS g c a M) n ≤ n ∧ (∀ x ∈ l, ∀ m, getM M (a, x) = some m → l.foldl (shortS g c a M) n ≤ m + restN g c x x.2.1) ∧ (l.foldl (shortS g c a M) n = n ∨ ∃ x ∈ l, ∃ m, getM M (a, x) = some m ∧ l.foldl (shortS g c a M) n = m + restN g c x x.2.1) := by
  intro l
  induction l with
  | nil => intro n; exact ⟨Nat.le_refl _, (fun x h => by cases h), .inl rfl⟩
  | cons q l ih =>
    intro n
    rw [List.foldl_cons]
    obtain ⟨h1, h2, h3⟩ := ih (shortS g c a M n q)
    have hs : shortS g c a M n q ≤ n ∧ (∀ m, getM M (a, q) = some m → shortS g c a M n q ≤ m + restN g c q q.2.1) ∧ (shortS g c a M n q = n ∨ ∃ m, getM M (a, q) = some m ∧ shortS g c a M n q = m + restN g c q q.2.1) := by
      unfold shortS
      cases hg : getM M (a, q) with
      | none => exact ⟨Nat.le_refl _, (fun m h => by cases h), .inl rfl⟩
      | some m =>
        refine ⟨by simp only; omega, (fun m' h => by cases h; simp only; omega), ?_⟩
        rcases Nat.le_total n (m + restN g c q q.2.1) with h | h
        · exact .inl (by simp only; omega)
        · exact .inr ⟨m, rfl, by simp only; omega⟩
    refine ⟨Nat.le_trans h1 hs.1, fun x hx m hm => ?_, ?_⟩
    · rcases List.mem_cons.1 hx with rfl | hx
      · exact Nat.le_trans h1 (hs.2.1 m hm)
      · exact h2 x hx m hm
    · rcases h3 with h3 | ⟨x, hx, m, hm, h3⟩
      · rcases hs.2.2 with h4 | ⟨m, hm, h4⟩
        · exact .inl (by omega)
        · exact .inr ⟨q, by simp, m, hm, by omega⟩
      · exact .inr ⟨x, by simp [hx], m, hm, h3⟩
theorem Fine.last (h : Fine g gd em u sets) : lastS sets = sets.getD u.length [] := by unfold lastS; rw [h.len]; rfl
theorem start_rule {w : List Int} (h : Yd g [0] w) : ∃ i, ∃ hi : i < g.rules.length, g.rules[i].left = 0 ∧ Yd g g.rules[i].right w := by
  have key : ∀ l z, Yd g l z → l = [0] → ∃ i, ∃ hi : i < g.rules.length, g.rules[i].left = 0 ∧ Yd g g.rules[i].right z := by
    intro l z h
    cases h with
    | nil => intro e; cases e
    | term h _ => intro e; injection e with e1 e2; omega
    | @var i hi rest a b x k =>
      intro e
      injection e with e1 e2
      subst e2
      cases k
      exact ⟨i, hi, e1, by rw [List.append_nil]; exact x⟩
  exact key _ _ h rfl
theorem Fine.start (h : Fine g gd em u sets) (K : Knows g gd em) {i : Nat} (hi : i < g.rules.length) (h0 : g.rules[i].left = 0) {w : List Int} (hy : Yd g g.rules[i].right w) : (i, 0, 0) ∈ sets.getD 0 [] :=
  h.st i hi (by rw [lft_eq hi]; exact h0) (K.gd i hi (by rw [rgt_eq hi]; exact hy.prd))
theorem short_le (h : Fine g gd em u sets) (K : Knows g gd em) (hc : CostOK g c b) {v : List Int} (hv : Yd g [0] (u ++ v)) (hl : v.length < farN) : shortL g c sets ≤ v.length := by
  obtain ⟨i, hi, h0, hy⟩ := start_rule hv
  have hs := h.start K hi h0 hy
  have hn : need1 g c sets (needs g c sets) (i, 0, 0) ≤ 0 := by
    have := (needP_at (g := g) (c := c) (M := needs g c sets) (left := lft g i) (frm := 0) (sets.getD 0 []) (need0 g (i, 0, 0))).1
    have e : need0 g (i, 0, 0) = 0 := by unfold need0; rw [if_pos ⟨by rw [lft_eq hi]; exact h0, rfl⟩]
    rw [e] at this
    exact Nat.le_trans (Nat.le_of_eq (by unfold need1; rw [e])) this
  obtain ⟨y, hy', m, hm, hle⟩ := h.least K hc needs_fix hy (i, 0, 0) 0 [] v 0 hs (by rw [List.append_nil]; show (rgt g i).drop 0 = _; rw [rgt_eq hi]; rfl) (Nat.zero_le _) rfl hn (by simp only [sumC]; omega)
  have hlen := h.len
  unfold shortL
  rw [h.last, hlen, Nat.add_sub_cancel]
  have := (short_at (g := g) (c := c) (a := u.length) (M := needs g c sets) (sets.getD u.length []) farN).2.1 y hy' m hm
  simp only [sumC] at hle
  omega
theorem short_word (h : Fine g gd em u sets) (K : Knows g gd em) (hc : CostOK g c b) (hl : shortL g c sets < farN) : ∃ v, v.length = shortL g c sets ∧ Yd g [0] (u ++ v) := by
  have hlen := h.len
  unfold shortL at hl ⊢
  rw [h.last, hlen, Nat.add_sub_cancel] at hl ⊢
  rcases (short_at (g := g) (c := c) (a := u.length) (M := needs g c sets) (sets.getD u.length []) farN).2.2 with h1 | ⟨x, hx, m, hm, h1⟩
  · omega
  · rw [h1] at hl ⊢
    obtain ⟨v, hv1, hv2⟩ := needs_out h K hc _ _ _ hm
    have hxI : okI g u.length x := by
      have : sets[u.length]? = some (sets.getD u.length []) := by rw [List.getD_eq_getElem?_getD, List.getElem?_eq_getElem (by omega)]; rfl
      exact (h.ok.2 _ _ this).ok x hx
    obtain ⟨z3, hz1, hz2⟩ := rest_word hc K.hg (d := x.2.1) (p := x.2.1) (q := x.2.2) hxI.1 (show restN g c x x.2.1 < farN by omega)
    have hs := h.snd _ x hx
    rw [List.take_length] at hs
    have := hv2 _ (yd_rule hxI.1 (split_pass hs hz1))
    refine ⟨z3 ++ v, by rw [List.length_append, hz2, hv1]; show restN g c x x.2.1 + m = _; omega, ?_⟩
    have e : u.take x.2.2 ++ (u.drop x.2.2 ++ z3) ++ v = u ++ (z3 ++ v) := by
      rw [← List.append_assoc, List.take_append_drop, List.append_assoc]
    rwa [e] at this
theorem acc_iff (h : Fine g gd em u sets) (K : Knows g gd em) : accB g sets = true ↔ Yd g [0] u := by
  unfold accB
  rw [h.last, List.any_eq_true]
  constructor
  · rintro ⟨x, hx, hc⟩
    simp only [Bool.and_eq_true, decide_eq_true_eq, Option.isNone_iff_eq_none] at hc
    obtain ⟨⟨h1, h2⟩, h3⟩ := hc
    have hs := h.snd _ x hx
    rw [List.take_length, h2, List.drop_zero, nx_none h1] at hs
    have hlen := h.len
    have hxI : okI g u.length x := by
      have : sets[u.length]? = some (sets.getD u.length []) := by rw [List.getD_eq_getElem?_getD, List.getElem?_eq_getElem (by omega)]; rfl
      exact (h.ok.2 _ _ this).ok x hx
    have := yd_rule hxI.1 hs
    rwa [h3] at this
  · intro hy
    obtain ⟨i, hi, h0, hr⟩ := start_rule hy
    have hp := h.pass K hr (i, 0, 0) 0 [] (h.start K hi h0 hr) (by rw [List.append_nil]; show (rgt g i).drop 0 = _; rw [rgt_eq hi]; rfl) (by omega) (by simp)
    rw [Nat.zero_add] at hp
    refine ⟨_, hp, ?_⟩
    simp only [Nat.zero_add, Bool.and_eq_true, decide_eq_true_eq, Option.isNone_iff_eq_none]
    exact ⟨⟨nx_end hi, trivial⟩, by rw [lft_eq hi]; exact h0⟩
theorem next_word (h : Fine g gd em u sets) (K : Knows g gd em) {t : Int} {v : List Int} (hy : Yd g [0] (u ++ t :: v)) : ∃ y ∈ sets.getD u.length [], nx g y = some (-t - 1) := by
  obtain ⟨i, hi, h0, hr⟩ := start_rule hy
  exact h.next K hr (i, 0, 0) 0 [] t v (h.start K hi h0 hr) (by rw [List.append_nil]; show (rgt g i).drop 0 = _; rw [rgt_eq hi]; rfl) (Nat.zero_le _) rfl
end
end Go.AM
namespace Go.AM
variable {g : Gram}
theorem Yd.split {l z : List Int} (h : Yd g l z) : ∀ {a b : List Int}, l = a ++ b → ∃ z1 z2, z = z1 ++ z2 ∧ Yd g a z1 ∧ Yd g b z2 := by
  induction h with
  | nil =>
    intro a b e
    obtain ⟨rfl, rfl⟩ := List.append_eq_nil_iff.1 e.symm
    exact ⟨[], [], rfl, .nil, .nil⟩
  | @term s rest w hs hk ih =>
    intro a b e
    cases a with
    | nil => exact ⟨[], _, rfl, .nil, by rw [List.nil_append] at e; rw [← e]; exact .term hs hk⟩
    | cons x a =>
      injection e with e1 e2
      subst e1
      obtain ⟨z1, z2, h1, h2, h3⟩ := ih e2
      exact ⟨_ :: z1, z2, by rw [h1]; rfl, .term hs h2, h3⟩
  | @var i hi rest p q hx hk _ ih =>
    intro a b e
    cases a with
    | nil => exact ⟨[], _, rfl, .nil, by rw [List.nil_append] at e; rw [← e]; exact .var hi hx hk⟩
    | cons x a =>
      injection e with e1 e2
      subst e1
      obtain ⟨z1, z2, h1, h2, h3⟩ := ih e2
      exact ⟨p ++ z1, z2, by rw [h1, List.append_assoc], .var hi hx h2, h3⟩
theorem Yd.terms : ∀ {t : List Int}, (∀ s ∈ t, s < 0) → Yd g t (t.map fun s => -s - 1) := by
  intro t
  induction t with
  | nil => intro _; exact .nil
  | cons s t ih => intro h; exact .term (h s (by simp)) (ih fun x hx => h x (by simp [hx]))
end Go.AM
namespace Go.AM
open Go.RowKit
def abin0 (P : Program) (ρ : Operand → Value) (o : Oper) (op : BinOp) (t : TypeId) (x y : Value) : Option Res := match aeqNil P t x y with
  | some b => match op with
    | .eql => some { v := .bool b }
    | .neq => some { v := .bool (!b) }
    | _ => none
  | none => match anan P op t x y with
    | some v => some { v := v }
    | none => aflat P ρ o
def asn (op : BinOp) (alt : Option Res) : Value → Option Res
  | .slice (some _) _ _ => match op with
    | .eql => some { v := .bool false }
    | .neq => some { v := .bool true }
    | _ => alt
  | .slice none 0 0 => match op with
    | .eql => some { v := .bool true }
    | .neq => some { v := .bool false }
    | _ => alt
  | _ => alt
theorem aop_sn {P : Program} {f : Fr} {n : Nat} {H : Heap} {d : Option Nat} {op : BinOp} {t u e : TypeId} {x : Operand} {ty : TypeId} {p : String} {af : Array Edge} {gd : Option (Nat × Bool)} (he : P.underlying t = some (.slice e)) :
    aop P (evalA f) n H ⟨d, .binOp op t x (.const (.slice none 0 0)) u, ty, p, af, gd⟩ = asn op (abin0 P (evalA f) ⟨d, .binOp op t x (.const (.slice none 0 0)) u, ty, p, af, gd⟩ op t (evalA f x) (.slice none 0 0)) (evalA f x) := by
  show abin0 P (evalA f) ⟨d, .binOp op t x (.const (.slice none 0 0)) u, ty, p, af, gd⟩ op t (evalA f x) (.slice none 0 0) = _
  cases hx : evalA f x with
  | slice a m c =>
    cases a with
    | none =>
      by_cases h0 : m = 0 ∧ c = 0
      · obtain ⟨rfl, rfl⟩ := h0
        have hn : ∀ op : BinOp, anan P op t (.slice none 0 0) (.slice none 0 0) = none := fun op => by
          unfold anan
          rw [he]
        have h0 : aeqNil P t (.slice none 0 0) (.slice none 0 0) = none := by
          unfold aeqNil
          rw [he]
        have hf : ∀ op : BinOp, aflat P (evalA f) ⟨d, .binOp op t x (.const (.slice none 0 0)) u, ty, p, af, gd⟩ = asnil P (evalA f) (.binOp op t x (.const (.slice none 0 0)) u) := fun op => by
          unfold aflat
          have hf : opFlat (evalA f) ⟨d, .binOp op t x (.const (.slice none 0 0)) u, ty, p, af, gd⟩ = false := by
            simp [opFlat, Op.operands, hx, flat, flat1]
          rw [hf]
          rfl
        cases op <;> first | rfl | skip
        · unfold asn abin0
          rw [h0]
          simp only [hn, hf]
          simp [asnil, he, hx]
        · unfold asn abin0
          rw [h0]
          simp only [hn, hf]
          simp [asnil, he, hx]
      · unfold asn
        split
        · rename_i h; cases h
        · rename_i h; cases h; exact absurd ⟨rfl, rfl⟩ h0
        · rfl
    | some a =>
      have hf : ∀ op : BinOp, aflat P (evalA f) ⟨d, .binOp op t x (.const (.slice none 0 0)) u, ty, p, af, gd⟩ = asnil P (evalA f) (.binOp op t x (.const (.slice none 0 0)) u) := fun op => by
        unfold aflat
        have hf : opFlat (evalA f) ⟨d, .binOp op t x (.const (.slice none 0 0)) u, ty, p, af, gd⟩ = false := by
          simp [opFlat, Op.operands, hx, flat, flat1]
        rw [hf]
        rfl
      have hn : ∀ op : BinOp, anan P op t (.slice (some a) m c) (.slice none 0 0) = none := fun op => by
        unfold anan
        rw [he]
      have h0 : aeqNil P t (.slice (some a) m c) (.slice none 0 0) = none := by
        unfold aeqNil
        rw [he]
      cases op <;> first | rfl | skip
      · unfold asn abin0
        rw [h0]
        simp only [hn, hf]
        simp [asnil, he, hx]
      · unfold asn abin0
        rw [h0]
        simp only [hn, hf]
        simp [asnil, he, hx]
  | _ => rfl
end Go.AM
