/- A part of a proof. Its conditions: none. -/
import Derived.Test.YtihjaobjhmmboaaGreatDoorAmA
import Derived.ProofKit
import Derived.Deep.Slices
import Derived.Carry
import Derived.Lib.LaidTab
import Derived.ChangeSame
import Derived.LaidOnce
import Derived.Lay
import Derived.Deep.DeepHandedRow
import Derived.Test.YtihjaobjhmmboaaGreatDoorAmD
set_option linter.all false
/- From a reading of the arguments as data to objects of the abstract machine. -/
namespace Go.AM
open Go.RowKit

/-- CELLS READ AS A TYPE in a heap of the machine: integers, bools, floats, strings, slices and structs of these. -/
inductive AR (P : Program) (H : Heap) : TypeId → List Value → Prop where
  | bool (t : TypeId) (b : Bool) (ht : P.underlying t = some .bool) : AR P H t [.bool b]
  | int (t : TypeId) (k : IntKind) (n : Int) (ht : P.underlying t = some (.int k)) (hw : (Lit.int k n).wf = true) : AR P H t [.int k n]
  | float (t : TypeId) (k : FloatKind) (b : Nat) (ht : P.underlying t = some (.float k)) (hw : (Lit.float k b).wf = true) : AR P H t [.float k b]
  | string (t : TypeId) (s : ByteArray) (ht : P.underlying t = some .string) (hs : s.size ≤ maxLen) : AR P H t [.string s]
  | nil (t e : TypeId) (ht : P.underlying t = some (.slice e)) : AR P H t [.slice none 0 0]
  | slice (t e : TypeId) (x m : Nat) (cs : List Value) (ht : P.underlying t = some (.slice e)) (hx : H x = .cells cs e false) (hl : cs.length = m * P.cellsOf e) (hm : m ≤ maxLen)
      (he : ∀ i, i < m → AR P H e ((cs.drop (i * P.cellsOf e)).take (P.cellsOf e))) : AR P H t [.slice (some ⟨x, 0, none⟩) m m]
  | struct (t : TypeId) (fs : Array Field) (cs : List Value) (ht : P.underlying t = some (.struct fs)) (hl : cs.length = P.cellsOf t)
      (hf : ∀ (i : Nat) (f : Field), fs[i]? = some f → AR P H f.type ((cs.drop f.offset).take (P.cellsOf f.type))) : AR P H t cs

theorem AR.mono {P : Program} {H H' : Heap} {t : TypeId} {cs : List Value} (h : AR P H t cs) (hle : ∀ x, H x ≠ .dead → H' x = H x) : AR P H' t cs := by
  induction h with
  | bool t b ht => exact .bool t b ht
  | int t k n ht hw => exact .int t k n ht hw
  | float t k b ht hw => exact .float t k b ht hw
  | string t s ht hs => exact .string t s ht hs
  | nil t e ht => exact .nil t e ht
  | slice t e x m cs ht hx hl hm _ ih => exact .slice t e x m cs ht (by rw [hle x (by rw [hx]; intro e; cases e), hx]) hl hm ih
  | struct t fs cs ht hl _ ih => exact .struct t fs cs ht hl ih

/-- Fields one behind the other, from a place on: where they end. -/
def lined (P : Program) : Nat → List Field → Nat → Bool
  | at_, [], stop => at_ == stop
  | at_, f :: fs, stop => f.offset == at_ && lined P (at_ + P.cellsOf f.type) fs stop

/-- Types that the machine reads. -/
def plainT (P : Program) : Nat → TypeId → Bool
  | 0, _ => false
  | d + 1, t => match P.underlying t with
    | some .bool | some (.int _) | some (.float _) | some .string => P.cellsOf t == 1
    | some (.slice e) => P.cellsOf t == 1 && decide (P.cellsOf e ≠ 0) && plainT P d e
    | some (.struct fs) => lined P 0 fs.toList (P.cellsOf t) && fs.toList.all fun f => plainT P d f.type
    | _ => false

/-- What is there of the arguments so far. -/
structure Sofar (P : Program) (w : World) (ι : Inj) (C : Heap) (n : Nat) : Prop where
  hr : HR P w.heap.size ι C w
  free : ∀ x, n ≤ x → ι x = none
  wf : WF n C
  ro : ∀ x t, ι x = some t → t.own = false

/-- .. and more of it. -/
structure More (ι : Inj) (C : Heap) (n : Nat) (κ : Inj) (C' : Heap) (n' : Nat) : Prop where
  le : Inj.le ι κ
  heap : ∀ x, C x ≠ .dead → C' x = C x
  n : n ≤ n'

theorem More.refl (ι : Inj) (C : Heap) (n : Nat) : More ι C n ι C n := ⟨Inj.le_refl ι, fun _ _ => rfl, Nat.le_refl _⟩
theorem More.trans {ι κ μ : Inj} {C C1 C2 : Heap} {n n1 n2 : Nat} (a : More ι C n κ C1 n1) (b : More κ C1 n1 μ C2 n2) : More ι C n μ C2 n2 :=
  ⟨Inj.le_trans a.le b.le, fun x h => by rw [b.heap x (by rw [a.heap x h]; exact h), a.heap x h], Nat.le_trans a.n b.n⟩

section
variable {P : Program} {w : World}

theorem Sofar.addRO {ι : Inj} {C : Heap} {n : Nat} (h : Sofar P w ι C n) {cs : List Value} {e : TypeId} {b o : Nat} (hb : b < w.heap.size)
    (hc : ∀ (i : Nat) (v : Value), cs[i]? = some v → ∃ v', w.cell? ⟨b, o + i, none⟩ = some v' ∧ VR ι v v' ∧ one v = true) :
    Sofar P w (iset ι n ⟨b, o, false, 0, 0⟩) (hset C n (.cells cs e false)) (n + 1) ∧ More ι C n (iset ι n ⟨b, o, false, 0, 0⟩) (hset C n (.cells cs e false)) (n + 1) := by
  have hn := h.free n (Nat.le_refl _)
  have hle := iset_le (ι := ι) ⟨b, o, false, 0, 0⟩ hn
  refine ⟨⟨⟨fun x => ?_, fun x y t u hx hy ex ey ho hbl => ?_, fun x t e => ?_, Nat.le_refl _, fun g hg => hle g _ (h.hr.gl g hg)⟩, fun x hx => ?_, fun x hx => ?_, fun x t e => ?_⟩, ⟨hle, fun x hx => ?_, Nat.le_succ n⟩⟩
  · rw [hset_apply]; split
    · rename_i e; subst e
      refine ⟨_, iset_same _ _ _, rfl, fun i v e => ?_, fun e => by cases e⟩
      obtain ⟨v', h1, h2, h3⟩ := hc i v e
      exact ⟨v', h1, h2.mono hle, h3⟩
    · exact (h.hr.obj x).carry hle fun _ _ => rfl
  · exfalso
    by_cases e : x = n
    · subst e; rw [iset_same] at ex; cases ex; cases ho
    · rw [iset_other _ _ e] at ex
      rw [h.ro x t ex] at ho; cases ho
  · by_cases e1 : x = n
    · subst e1; rw [iset_same] at e; cases e; exact ⟨hb, (fun k => by cases k), fun _ => hb⟩
    · rw [iset_other _ _ e1] at e; exact h.hr.rng x t e
  · rw [iset_other _ _ (by omega)]; exact h.free x (by omega)
  · rw [hset_other _ _ (by omega)]; exact h.wf x (by omega)
  · by_cases e1 : x = n
    · subst e1; rw [iset_same] at e; cases e; rfl
    · rw [iset_other _ _ e1] at e; exact h.ro x t e
  · by_cases e : x = n
    · subst e; exact absurd (h.wf x (Nat.le_refl _)) hx
    · exact hset_other _ _ e

theorem cells?_spec {base : Nat} {a : Addr} {m : Nat} {cs : List Value} (h : w.cells? base a m = some cs) : cs.length = m ∧ ∀ i, i < m → w.cell? (a.add i) = cs[i]? := by
  obtain ⟨_, h1, h2⟩ := World.cells?_some h
  exact ⟨h1, h2⟩

theorem VRs.one_of {κ : Inj} {l l' : List Value} (h : VRs κ l l') (h1 : ∀ v ∈ l', v.oneCell' = true) : l.all one = true := by
  rw [List.all_eq_true]
  intro v hv
  obtain ⟨i, hi, rfl⟩ := List.getElem_of_mem hv
  obtain ⟨v', e1, e2⟩ := h.get (List.getElem?_eq_getElem hi)
  rw [← e2.one]; exact h1 v' (List.mem_of_getElem? e1)

variable {H : Type} {enc : TypeId × Value → H}

/-- What opening some cells leaves. -/
def Opened (P : Program) (w : World) (ι : Inj) (C : Heap) (n : Nat) (t : TypeId) (cs : List Value) : Prop :=
  ∃ acs κ C' n', Sofar P w κ C' n' ∧ More ι C n κ C' n' ∧ VRs κ acs cs ∧ AR P C' t acs ∧ acs.length = P.cellsOf t ∧ acs.all one = true

theorem opened_flat {ι : Inj} {C : Heap} {n : Nat} {t : TypeId} {v : Value} (h : Sofar P w ι C n) (hf : still1 v = true) (hr : VR ι v v) (ha : AR P C t [v]) (hc : (P.cellsOf t == 1) = true) : Opened P w ι C n t [v] := by
  refine ⟨[v], ι, C, n, h, More.refl _ _ _, .cons hr (.nil ι), ha, ?_, by simp [still1_one hf]⟩
  have : P.cellsOf t = 1 := by simpa using hc
  simp [this]

theorem open_elems {e : TypeId} {a : Addr} {f : TypeId → List Value → Prop} {len : Nat} (hop : ∀ cs, f e cs → ∀ ι C n, Sofar P w ι C n → Opened P w ι C n e cs)
    (he : ∀ i, i < len → ∃ cs, w.cells? 0 (a.add (i * P.cellsOf e)) (P.cellsOf e) = some cs ∧ f e cs) : ∀ m, m ≤ len → ∀ ι C n, Sofar P w ι C n →
    ∃ (acs : List Value) (κ : Inj) (C' : Heap) (n' : Nat), Sofar P w κ C' n' ∧ More ι C n κ C' n' ∧ acs.length = m * P.cellsOf e ∧ (∀ i, i < m → AR P C' e ((acs.drop (i * P.cellsOf e)).take (P.cellsOf e))) ∧
      ∀ (i : Nat) (v : Value), acs[i]? = some v → ∃ v', w.cell? (a.add i) = some v' ∧ VR κ v v' ∧ one v = true := by
  intro m
  induction m with
  | zero => intro _ ι C n h; exact ⟨[], ι, C, n, h, More.refl _ _ _, by simp, fun i hi => by omega, fun i v e => by simp at e⟩
  | succ m ih =>
    intro hm ι C n h
    obtain ⟨acs, κ, C', n', h1, h2, h3, h4, h5⟩ := ih (by omega) ι C n h
    obtain ⟨cs, hcs, hf⟩ := he m (by omega)
    obtain ⟨bcs, μ, C'', n'', g1, g2, g3, g4, g5, g6⟩ := hop cs hf κ C' n' h1
    obtain ⟨hlen, hcell⟩ := cells?_spec hcs
    refine ⟨acs ++ bcs, μ, C'', n'', g1, h2.trans g2, by rw [List.length_append, h3, g5, Nat.succ_mul], fun i hi => ?_, fun i v hq => ?_⟩
    · by_cases him : i < m
      · have hle : i * P.cellsOf e + P.cellsOf e ≤ m * P.cellsOf e := by rw [← Nat.succ_mul]; exact Nat.mul_le_mul_right _ him
        rw [List.drop_append_of_le_length (by omega), List.take_append_of_le_length (by simp; omega)]
        exact (h4 i him).mono g2.heap
      · have : i = m := by omega
        subst this
        rw [← h3, List.drop_left, List.take_of_length_le (by omega)]
        exact g4
    · by_cases hia : i < acs.length
      · rw [List.getElem?_append_left hia] at hq
        obtain ⟨v', e1, e2, e3⟩ := h5 i v hq
        exact ⟨v', e1, e2.mono g2.le, e3⟩
      · rw [List.getElem?_append_right (by omega)] at hq
        obtain ⟨v', e1, e2⟩ := g3.get hq
        refine ⟨v', ?_, e2, List.all_eq_true.1 g6 v (List.mem_of_getElem? hq)⟩
        have hi' : i - acs.length < bcs.length := by
          rcases Nat.lt_or_ge (i - acs.length) bcs.length with g | g
          · exact g
          · rw [List.getElem?_eq_none g] at hq; cases hq
        have := hcell (i - acs.length) (by omega)
        rw [Go.Deep.add_add, ← h3, show acs.length + (i - acs.length) = i by omega] at this
        rw [this]; exact e1

theorem open_fields {f : TypeId → List Value → Prop} {cs : List Value} : ∀ (fs : List Field) (at_ stop : Nat), lined P at_ fs stop = true → stop ≤ cs.length →
    (∀ g ∈ fs, ∀ cs', f g.type cs' → ∀ ι C n, Sofar P w ι C n → Opened P w ι C n g.type cs') → (∀ g ∈ fs, f g.type ((cs.drop g.offset).take (P.cellsOf g.type))) → ∀ ι C n, Sofar P w ι C n →
    ∃ acs κ C' n', Sofar P w κ C' n' ∧ More ι C n κ C' n' ∧ VRs κ acs ((cs.drop at_).take (stop - at_)) ∧ acs.all one = true ∧ acs.length = stop - at_ ∧ at_ ≤ stop ∧
      ∀ g ∈ fs, at_ ≤ g.offset ∧ AR P C' g.type ((acs.drop (g.offset - at_)).take (P.cellsOf g.type)) := by
  intro fs
  induction fs with
  | nil =>
    intro at_ stop hl _ _ _ ι C n h
    have : at_ = stop := by simpa [lined] using hl
    subst this
    exact ⟨[], ι, C, n, h, More.refl _ _ _, by simpa using VRs.nil ι, rfl, by simp, Nat.le_refl _, fun g hg => by cases hg⟩
  | cons g fs ih =>
    intro at_ stop hl hst hop hf ι C n h
    simp only [lined, Bool.and_eq_true, beq_iff_eq] at hl
    obtain ⟨hoff, hl⟩ := hl
    obtain ⟨bcs, κ, C', n', g1, g2, g3, g4, g5, g6⟩ := hop g (by simp) _ (hf g (by simp)) ι C n h
    obtain ⟨acs, μ, C'', n'', h1, h2, h3, h4, h5, h6, h7⟩ := ih _ stop hl hst (fun g' hg' => hop g' (by simp [hg'])) (fun g' hg' => hf g' (by simp [hg'])) κ C' n' g1
    rw [hoff] at g3
    refine ⟨bcs ++ acs, μ, C'', n'', h1, g2.trans h2, ?_, by simp [g6, h4], by rw [List.length_append, g5, h5]; omega, by omega, fun g' hg' => ?_⟩
    · have e1 : (cs.drop at_).take (stop - at_) = (cs.drop at_).take (P.cellsOf g.type) ++ (cs.drop (at_ + P.cellsOf g.type)).take (stop - (at_ + P.cellsOf g.type)) := by
        have : stop - at_ = P.cellsOf g.type + (stop - (at_ + P.cellsOf g.type)) := by omega
        rw [this, List.take_add, List.drop_drop]
      rw [e1]
      exact (g3.mono h2.le).append h3
    · rcases List.mem_cons.1 hg' with e | e
      · subst e
        refine ⟨by omega, ?_⟩
        rw [hoff, Nat.sub_self, List.drop_zero, List.take_append_of_le_length (by omega), List.take_of_length_le (by omega)]
        exact g4.mono h2.heap
      · obtain ⟨k1, k2⟩ := h7 g' e
        refine ⟨by omega, ?_⟩
        rw [List.drop_append, List.drop_of_length_le (by omega), List.nil_append, g5, show g'.offset - at_ - P.cellsOf g.type = g'.offset - (at_ + P.cellsOf g.type) by omega]
        exact k2

theorem open_cells : ∀ (fuel d : Nat) (t : TypeId) (cs : List Value) (x : DataW H × List MemPlace), plainT P d t = true → DataW.trod enc P w 0 (fun _ => true) true fuel t cs = some x →
    ∀ ι C n, Sofar P w ι C n → Opened P w ι C n t cs := by
  intro fuel
  induction fuel with
  | zero => intro d t cs x _ h; simp [DataW.trod] at h
  | succ fuel ih =>
    intro d t cs x hp h ι C n hs
    cases d with
    | zero => simp [plainT] at hp
    | succ d =>
      simp only [plainT] at hp
      split at hp
      · rename_i ht
        obtain ⟨b, rfl, _⟩ := DataW.trod_bool ht h
        exact opened_flat hs rfl (.bool b) (.bool t b ht) hp
      · rename_i k ht
        obtain ⟨m, rfl, _, hw⟩ := DataW.trod_int ht h
        exact opened_flat hs rfl (.int k m) (.int t k m ht hw) hp
      · rename_i k ht
        have : ∃ b, cs = [.float k b] ∧ (Lit.float k b).wf = true := by
          unfold DataW.trod at h
          rw [ht] at h
          split at h <;> simp_all
        obtain ⟨b, rfl, hw⟩ := this
        exact opened_flat hs rfl (.float k b) (.float t k b ht hw) hp
      · rename_i ht
        obtain ⟨s, rfl, _, hw⟩ := DataW.trod_string ht h
        exact opened_flat hs rfl (.string s) (.string t s ht hw) hp
      · rename_i e ht
        simp only [Bool.and_eq_true, decide_eq_true_eq] at hp
        obtain ⟨⟨hc, he0⟩, hpe⟩ := hp
        have hc' : P.cellsOf t = 1 := by simpa using hc
        rcases DataW.trod_slice ht h with ⟨rfl, _⟩ | ⟨a, len, cap, elems, rest, m, hm, rfl, _, _, hlc, hmx, hel, h1, h2, _⟩
        · exact opened_flat hs rfl (.sliceNil none) (.nil t e ht) hc
        · have hmf : m = fuel := by omega
          subst hmf
          by_cases hcap : cap = 0
          · have hl0 : len = 0 := by omega
            subst hcap hl0
            refine ⟨[.slice none 0 0], ι, C, n, hs, More.refl _ _ _, .cons (.sliceNil (some a)) (.nil ι), .nil t e ht, by simp [hc'], rfl⟩
          · obtain ⟨hr1, hr2⟩ := h2 rfl
            have hsome : ∀ i, i < len → ∃ cs, w.cells? 0 (a.add (i * P.cellsOf e)) (P.cellsOf e) = some cs ∧ (∃ x, DataW.trod enc P w 0 (fun _ => true) true m e cs = some x) := by
              intro i hi
              have := h1 i hi
              rw [List.getElem?_eq_getElem (by omega)] at this
              obtain ⟨cs', e1, e2⟩ := Option.bind_eq_some_iff.1 this
              exact ⟨cs', e1, _, e2⟩
            have hfirst : ∃ cs, w.cells? 0 (a.add 0) (P.cellsOf e) = some cs := by
              by_cases hl : 0 < len
              · obtain ⟨cs', e1, _⟩ := hsome 0 hl
                exact ⟨cs', by simpa using e1⟩
              · have hl0 : len = 0 := by omega
                have := hr2 0 (by omega)
                rw [List.getElem?_eq_getElem (by omega)] at this
                obtain ⟨cs', e1, _⟩ := Option.bind_eq_some_iff.1 this
                exact ⟨cs', by simpa [hl0] using e1⟩
            obtain ⟨cs0, hcs0⟩ := hfirst
            obtain ⟨hl0, hcell0⟩ := cells?_spec hcs0
            have hc0 := hcell0 0 (by omega)
            rw [List.getElem?_eq_getElem (by omega)] at hc0
            have ha : a.add 0 = a := by simp [Addr.add]
            rw [ha, ha] at hc0
            have hblk : a.block < w.heap.size := World.block_lt_of_cell? w a hc0
            have hspot : a.spot = none := by
              unfold World.cell? at hc0
              cases hsp : a.spot with
              | none => rfl
              | some s => simp [hsp] at hc0; split at hc0 <;> simp at hc0
            obtain ⟨b, o, sp⟩ := a
            simp only at hspot hblk
            subst hspot
            obtain ⟨acs, κ, C', n', g1, g2, g3, g4, g5⟩ := open_elems (f := fun e cs => ∃ x, DataW.trod enc P w 0 (fun _ => true) true m e cs = some x)
              (fun cs' hx ι C n h => by obtain ⟨x, hx⟩ := hx; exact ih d e cs' x hpe hx ι C n h) hsome len (Nat.le_refl _) ι C n hs
            obtain ⟨k1, k2⟩ := g1.addRO (e := e) hblk (fun i v e => by
              obtain ⟨v', e1, e2⟩ := g5 i v e
              rw [add_lit] at e1
              exact ⟨v', e1, e2⟩)
            refine ⟨[.slice (some ⟨n', 0, none⟩) len len], _, _, n' + 1, k1, g2.trans k2, .cons ?_ (.nil _), ?_, by simp [hc'], rfl⟩
            · exact .slice n' 0 len o cap _ (iset_same _ _ _) (fun _ => rfl) hlc hmx (fun e => by cases e)
            · refine .slice t e n' len acs ht (hset_same _ _ _) g3 (by omega) fun i hi => (g4 i hi).mono k2.heap
      · rename_i fs ht
        simp only [Bool.and_eq_true, List.all_eq_true] at hp
        obtain ⟨xs, m, hm, _, hlen, hxs, hf⟩ := DataW.trod_struct ht h
        have hmf : m = fuel := by omega
        subst hmf
        obtain ⟨acs, κ, C', n', g1, g2, g3, g4, g5, _, g7⟩ := open_fields (w := w) (f := fun t cs => ∃ x, DataW.trod enc P w 0 (fun _ => true) true m t cs = some x) (cs := cs) fs.toList 0 (P.cellsOf t) hp.1 (by omega)
          (fun g hg cs' hx ι C n h => by obtain ⟨x, hx⟩ := hx; exact ih d g.type cs' x (hp.2 g hg) hx ι C n h)
          (fun g hg => by
            obtain ⟨i, hi, rfl⟩ := List.getElem_of_mem hg
            have hi' : i < fs.size := by simpa using hi
            have := hf i fs[i] (Array.getElem?_eq_getElem hi')
            rw [List.getElem?_eq_getElem (by omega)] at this
            exact ⟨_, by simpa using this⟩) ι C n hs
        refine ⟨acs, κ, C', n', g1, g2, ?_, ?_, by omega, g4⟩
        · simpa [List.take_of_length_le (Nat.le_of_eq hlen)] using g3
        · refine .struct t fs acs ht (by omega) fun i f hi => ?_
          have hmem : f ∈ fs.toList := by have := Array.mem_of_getElem? hi; simpa using this
          have := (g7 f hmem).2
          simpa using this
      · cases hp

end
end Go.AM

/- From a run of the machine at whatever readable arguments to the row's post: a law that answers true. -/
namespace Go.AM
open Go.RowKit Go.ChangeShapes Go.WideShapes Go.ChangeAt

section
variable {P : Program} {H : Type} {enc : TypeId × Value → H}

/-- The machine's values of some types. -/
def ARV (P : Program) (H : Heap) (t : TypeId) (v : Value) : Prop := AR P H t (vcells v) ∧ (aggT P t = some true → ∃ cs, v = .agg cs) ∧ (aggT P t = some false → one v = true)

inductive ARs (P : Program) (H : Heap) : List TypeId → List Value → Prop where
  | nil : ARs P H [] []
  | cons {t : TypeId} {v : Value} {ts : List TypeId} {vs : List Value} (h : ARV P H t v) (k : ARs P H ts vs) : ARs P H (t :: ts) (v :: vs)

theorem ARV.mono {H H' : Heap} {t : TypeId} {v : Value} (h : ARV P H t v) (hle : ∀ x, H x ≠ .dead → H' x = H x) : ARV P H' t v := ⟨h.1.mono hle, h.2⟩
theorem ARs.mono {H H' : Heap} {ts : List TypeId} {vs : List Value} (h : ARs P H ts vs) (hle : ∀ x, H x ≠ .dead → H' x = H x) : ARs P H' ts vs := by
  induction h with
  | nil => exact .nil
  | cons h _ ih => exact .cons (h.mono hle) ih

theorem one_of_ok {t : TypeId} {W : World} {base d : Nat} {v : Value} (hp : plainT P d t = true) (ha : aggT P t = some false) (h : Value.okWide P W .any base t v) : v.oneCell' = true := by
  cases d with
  | zero => simp [plainT] at hp
  | succ d =>
    unfold aggT at ha
    simp only [plainT] at hp
    unfold Value.okWide at h
    unfold Cell.okWide Cell.ok at h
    split at hp <;> rename_i ht <;> (try rw [ht] at ha) <;> (try rw [ht] at h) <;> (first | (cases ha; done) | (cases hp; done) | skip) <;>
      (cases v <;> first | rfl | (simp at h) | (simp at hp))

theorem open_args : ∀ (ts : List TypeId) (vs : List Value) (ds : List (DataW H)) (ps : List MemPlace) (W : World) (base d : Nat), (∀ t ∈ ts, plainT P d t = true) →
    (∀ (j : Nat) t v, ts[j]? = some t → vs[j]? = some v → Value.okWide P W .any base t v) → DataW.TrodAll enc P W 0 (fun _ => true) true ts vs ds ps →
    ∀ ι C n, Sofar P W ι C n → ∃ avs κ C' n', Sofar P W κ C' n' ∧ More ι C n κ C' n' ∧ VRs κ avs vs ∧ ARs P C' ts avs := by
  intro ts
  induction ts with
  | nil =>
    intro vs ds ps W base d _ _ h ι C n hs
    obtain ⟨rfl, _, _⟩ := trodAll_nil h
    exact ⟨[], ι, C, n, hs, More.refl _ _ _, .nil ι, .nil⟩
  | cons t ts ih =>
    intro vs ds ps W base d hp hok h ι C n hs
    obtain ⟨v, vs1, d1, ds1, a, b, rfl, rfl, rfl, h1, h2⟩ := trodAll_cons h
    obtain ⟨fuel, h1⟩ := h1
    obtain ⟨acs, κ, C1, n1, g1, g2, g3, g4, g5, g6⟩ := open_cells fuel d t _ _ (hp t (by simp)) h1 ι C n hs
    obtain ⟨avs, μ, C2, n2, k1, k2, k3, k4⟩ := ih vs1 ds1 b W base d (fun t' ht' => hp t' (by simp [ht'])) (fun j t' v' e1 e2 => hok (j + 1) t' v' (by simpa using e1) (by simpa using e2)) h2 κ C1 n1 g1
    have hov := hok 0 t v rfl rfl
    have hagg : ∃ b, aggT P t = some b := by
      have hpt := hp t (by simp)
      cases d with
      | zero => simp [plainT] at hpt
      | succ d =>
        simp only [plainT] at hpt
        unfold aggT
        split at hpt <;> rename_i ht <;> simp [ht]
        cases hpt
    obtain ⟨b, hb⟩ := hagg
    have hval : ∃ av, VR κ av v ∧ ARV P C1 t av := by
      cases b with
      | true =>
        have hv : ∃ cs, v = .agg cs := by
          unfold aggT at hb
          unfold Value.okWide at hov
          split at hb <;> rename_i ht <;> simp only [ht] at hov <;> (try (cases hb; done))
          all_goals (obtain ⟨cs, e, _⟩ := hov; exact ⟨cs, e⟩)
        obtain ⟨cs, rfl⟩ := hv
        refine ⟨.agg acs.toArray, ?_, ?_, fun _ => ⟨_, rfl⟩, fun e => by rw [hb] at e; cases e⟩
        · have := g3.agg; simpa [Value.cells] using this
        · simpa [vcells, Value.cells] using g4
      | false =>
        have hv1 := one_of_ok (hp t (by simp)) hb hov
        have hc : v.cells.toList = [v] := by cases v <;> first | rfl | (simp [Value.oneCell'] at hv1)
        rw [hc] at g3
        match acs, g3 with
        | [av], g3 =>
          obtain ⟨v', k, e, r1, _⟩ := g3.cons_inv
          simp only [List.cons.injEq] at e
          obtain ⟨rfl, _⟩ := e
          have ho : one av = true := by simpa using g6
          have hvc : vcells av = [av] := by cases av <;> first | rfl | (simp [one] at ho)
          exact ⟨av, r1, by rw [hvc]; exact g4, fun e => by (rw [hb] at e; cases e), fun _ => ho⟩
        | [], g3 => simp [VRs] at g3
        | _ :: _ :: _, g3 => simp [VRs] at g3
    obtain ⟨av, r1, r2⟩ := hval
    exact ⟨av :: avs, μ, C2, n2, k1, g2.trans k2, .cons (r1.mono k2.le) k3, .cons (r2.mono k2.heap) k4⟩

theorem trodAll_stays (hl : laidOutB P = true) {W W' : World} (hb : Below W.heap.size W W') : ∀ (ts : List TypeId) (vs : List Value) (ds : List (DataW H)) (ps : List MemPlace),
    (∀ t ∈ ts, P.readableRec t = true ∧ t < P.types.size) → DataW.TrodAll enc P W 0 (fun _ => true) true ts vs ds ps → (∀ x ∈ ps, x.block < W.heap.size) →
    DataW.TrodAll enc P W' 0 (fun b => decide (b < W.heap.size)) true ts vs ds ps := by
  intro ts
  induction ts with
  | nil => intro vs ds ps _ h _; obtain ⟨rfl, rfl, rfl⟩ := trodAll_nil h; exact rfl
  | cons t ts ih =>
    intro vs ds ps ht h hp
    obtain ⟨v, vs1, d1, ds1, a, b, rfl, rfl, rfl, h1, h2⟩ := trodAll_cons h
    obtain ⟨hr, hrow⟩ := ht t (by simp)
    exact ⟨a, b, Below.trod hl hr hrow h1 hb (fun x hx => hp x (by simp [hx])), ih vs1 ds1 b (fun t' h' => ht t' (by simp [h'])) h2 (fun x hx => hp x (by simp [hx])), rfl⟩

theorem still1_of_flat1 {v : Value} (h : flat1 v = true) : still1 v = true := by
  unfold still1
  split
  · rfl
  · exact h

/-- What the package-level variables hold, as far as it is known. -/
structure Globs (P : Program) (W : World) (G : Heap) : Prop where
  out : ∀ x, ngl P ≤ x → G x = .dead
  cells : ∀ x, G x ≠ .dead → ∃ cs ty, G x = .cells cs ty false ∧ cs.all flat1 = true ∧ ∀ (i : Nat) (v : Value), cs[i]? = some v → W.cell? ⟨x, i, none⟩ = some v
  there : ngl P ≤ W.heap.size

/-- WHAT A LAW WANTS: at whatever arguments the machine reads, its run answers true. -/
def LawRuns (P : Program) (G : Heap) (F : FuncId) (ts : List TypeId) : Prop :=
  ∀ (n : Nat) (H : Heap) (vs : List Value), WF n H → ngl P ≤ n → (∀ x, G x ≠ .dead → H x = G x) → ARs P H ts vs → ∃ n' H', BS P (.call F vs n H) (.ret (.bool true) n' H')

theorem law_contract (hm : P.follows .mixedOrders = true) (hl : laidOutB P = true) {F : FuncId} {fn : Func} {s : ChangeSpec} {d : Nat} {tb : TypeId} {G : Heap} (hlaw : LawRuns P G F fn.params.toList) (hvars : s.vars = [])
    (hspec : ∀ ds : List (DataW H), ds.length = fn.params.size → s.fn H ds = { results := [.lit (.bool true)], args := ds })
    (hp : ∀ t ∈ fn.params.toList, plainT P d t = true ∧ P.readableRec t = true ∧ t < P.types.size) (hres : fn.resultTypes = #[tb]) (htb : P.underlying tb = some .bool)
    (W : World) (base : Nat) (args : Array Value) (ds gs : List (DataW H)) (before : List MemPlace)
    (hval : ∀ (j : Nat) t v, fn.params[j]? = some t → args[j]? = some v → Value.okWide P W .any base t v) (hW : DataW.Whole enc P fn.params.toList s.vars false W args.toList ds gs before) (hG : Globs P W G) :
    Calls P F args W fun e W' => ∃ v, e = .returned v ∧ s.post enc P fn false true false false W args v W' := by
  have hlt := hW.lt
  have hW' := hW
  obtain ⟨p, q, hA, hV, rfl, hfz, hnd⟩ := hW
  rw [hvars] at hV
  obtain ⟨rfl, rfl⟩ : gs = [] ∧ q = [] := by
    cases gs with
    | nil => exact ⟨rfl, hV⟩
    | cons => exact absurd hV (by simp [DataW.TrodVars])
  have hs0 : Sofar P W (fun x => if x < ngl P then some ⟨x, 0, false, 0, 0⟩ else none) G (ngl P) := by
    refine ⟨⟨fun x => ?_, fun x y t u hx hy ex ey ho => ?_, fun x t e => ?_, Nat.le_refl _, fun g hg => by simp [hg]⟩, fun x hx => by rw [if_neg (by omega)], fun x hx => hG.out x hx, fun x t e => ?_⟩
    · by_cases hd : G x = .dead
      · rw [hd]; trivial
      · obtain ⟨cs, ty, hc, hf, hcell⟩ := hG.cells x hd
        have hx : x < ngl P := Nat.lt_of_not_le fun h => hd (hG.out x h)
        rw [hc]
        refine ⟨⟨x, 0, false, 0, 0⟩, by simp [hx], rfl, fun i v e => ?_, fun e => by cases e⟩
        have hv := List.all_eq_true.1 hf v (List.mem_of_getElem? e)
        refine ⟨v, by simpa using hcell i v e, flat1_refl _ hv, still1_one (still1_of_flat1 hv)⟩
    · split at ex
      · cases ex; cases ho
      · cases ex
    · split at e
      · rename_i hx; cases e; exact ⟨Nat.lt_of_lt_of_le hx hG.there, (fun k => by cases k), fun _ => Nat.lt_of_lt_of_le hx hG.there⟩
      · cases e
    · split at e
      · cases e; rfl
      · cases e
  obtain ⟨avs, κ, C, n, g1, g2, g3, g4⟩ := open_args fn.params.toList args.toList ds p W base d (fun t ht => (hp t ht).1) (fun j t v e1 e2 => hval j t v (by simpa using e1) (by simpa using e2)) hA _ _ _ hs0
  obtain ⟨n', H', hbs⟩ := hlaw n C avs g1.wf g2.n (fun x hx => g2.heap x hx) g4
  obtain ⟨hmono, hcs, _⟩ := sound hm hbs
  have hcall := hcs g1.wf W.heap.size κ C W args.toList g3 g1.hr (fun _ _ _ => rfl) (fun x h1 _ => g1.free x h1)
  rw [Array.toArray_toList] at hcall
  refine hcall.mono ?_
  rintro e W' ⟨v', κ', C', rfl, hvr, ha⟩
  cases hvr
  refine ⟨.bool true, rfl, ds, [], p, [], p, [], by simpa using hW', ?_, ?_, ?_, ?_, fun h => by cases h⟩
  · have hlen : ds.length = fn.params.size := by
      have key : ∀ (ts : List TypeId) (vs : List Value) (ds : List (DataW H)) (ps : List MemPlace), DataW.TrodAll enc P W 0 (fun _ => true) true ts vs ds ps → ds.length = ts.length := by
        intro ts
        induction ts with
        | nil => intro vs ds ps h; obtain ⟨_, rfl, _⟩ := trodAll_nil h; rfl
        | cons t ts ih =>
          intro vs ds ps h
          obtain ⟨v, vs1, d1, ds1, a, b, rfl, rfl, rfl, _, h2⟩ := trodAll_cons h
          simp [ih _ _ _ h2]
      rw [key _ _ _ _ hA]; simp
    rw [hres, List.append_nil, hspec ds hlen]
    exact trodAll_mk1 (shut_bool htb true)
  · have hlen : ds.length = fn.params.size := by
      have key : ∀ (ts : List TypeId) (vs : List Value) (ds : List (DataW H)) (ps : List MemPlace), DataW.TrodAll enc P W 0 (fun _ => true) true ts vs ds ps → ds.length = ts.length := by
        intro ts
        induction ts with
        | nil => intro vs ds ps h; obtain ⟨_, rfl, _⟩ := trodAll_nil h; rfl
        | cons t ts ih =>
          intro vs ds ps h
          obtain ⟨v, vs1, d1, ds1, a, b, rfl, rfl, rfl, _, h2⟩ := trodAll_cons h
          simp [ih _ _ _ h2]
      rw [key _ _ _ _ hA]; simp
    rw [List.append_nil, hspec ds hlen]
    exact trodAll_stays hl ha.below _ _ _ _ (fun t ht => (hp t ht).2) hA (fun x hx => by simpa using hlt x (by simp [hx]))
  · rw [hvars]
    have hlen : True := trivial
    have : (s.fn H (ds ++ [])).vars = [] := by
      rw [List.append_nil, hspec ds (by
        have key : ∀ (ts : List TypeId) (vs : List Value) (ds : List (DataW H)) (ps : List MemPlace), DataW.TrodAll enc P W 0 (fun _ => true) true ts vs ds ps → ds.length = ts.length := by
          intro ts
          induction ts with
          | nil => intro vs ds ps h; obtain ⟨_, rfl, _⟩ := trodAll_nil h; rfl
          | cons t ts ih =>
            intro vs ds ps h
            obtain ⟨v, vs1, d1, ds1, a, b, rfl, rfl, rfl, _, h2⟩ := trodAll_cons h
            simp [ih _ _ _ h2]
        rw [key _ _ _ _ hA]; simp)]
    rw [this]
    exact rfl
  · exact World.keptBut_mono (fun x hx => by cases hx) (ha.below.frame (fun _ => False))

end
end Go.AM

/- What a row's list of package-level variables says of their cells. -/
namespace Go.AM
open Go.RowKit

theorem laid_at {P : Program} {w : World} : ∀ {l : List (String × DataW Unit)} {ps : List MemPlace}, DataW.LaidVars P w l ps → ∀ (i : Nat) (nm : String) (d : DataW Unit), l[i]? = some (nm, d) →
    ∃ g t cs fuel p, P.globalNamed nm = some g ∧ (P.globals[g]?).map (·.type) = some t ∧ w.var? P nm = some cs ∧ DataW.trod (fun _ => ()) P w 0 (fun _ => true) false fuel t cs.toList = some (d, p)
  | [], _, _, i, nm, d, e => by simp at e
  | (n, d') :: r, ps, h, i, nm, d, e => by
    obtain ⟨g, t, cs, fuel, p, q, h1, h2, h3, h4, h5, _⟩ := h
    cases i with
    | zero => simp at e; obtain ⟨rfl, rfl⟩ := e; exact ⟨g, t, cs, fuel, p, h1, h2, h3, h4⟩
    | succ i => exact laid_at h5 i nm d (by simpa using e)

theorem flat_pairs {α : Type} (f : α → List Value) (hf : ∀ x, (f x).length = 2) : ∀ (rows : List α) (cs : List Value), cs.length = rows.length * 2 → (∀ (i : Nat) (x : α), rows[i]? = some x → (cs.drop (i * 2)).take 2 = f x) → cs = rows.flatMap f
  | [], cs, hl, _ => by simp at hl; simp [hl]
  | x :: rows, cs, hl, h => by
    have h0 := h 0 x rfl
    simp only [Nat.zero_mul, List.drop_zero] at h0
    have ih := flat_pairs f hf rows (cs.drop 2) (by simp at hl ⊢; omega) (fun i y e => by
      have := h (i + 1) y (by simpa using e)
      rw [List.drop_drop]
      rwa [show 2 + i * 2 = (i + 1) * 2 by omega])
    rw [List.flatMap_cons, ← h0, ← ih, List.take_append_drop]

theorem cells_of_pairs {H : Type} {enc : TypeId × Value → H} {P : Program} {w : World} {base : Nat} {sp : Nat → Bool} {held : Bool} {fuel : Nat} {t e : TypeId} {n : Nat} {k : IntKind} {f0 f1 : Field} {cs : List Value} {rows : List (Nat × Nat)} {p : List MemPlace}
    (ht : P.underlying t = some (.array n e)) (he : P.underlying e = some (.struct #[f0, f1])) (o0 : f0.offset = 0) (o1 : f1.offset = 1) (k0 : P.underlying f0.type = some (.int k)) (k1 : P.underlying f1.type = some (.int k))
    (c0 : P.cellsOf f0.type = 1) (c1 : P.cellsOf f1.type = 1) (hce : P.cellsOf e = 2) (hct : P.cellsOf t = n * 2)
    (h : DataW.trod enc P w base sp held fuel t cs = some (.agg (rows.map fun x => .agg [.lit (.int k x.1), .lit (.int k x.2)]), p)) : cs = rows.flatMap fun x => [Value.int k x.1, Value.int k x.2] := by
  cases fuel with
  | zero => simp [DataW.trod] at h
  | succ fuel =>
    simp only [DataW.trod, ht, hce, hct] at h
    split at h
    case isFalse => cases h
    rename_i hl
    obtain ⟨xs, hm, hx⟩ := Option.map_eq_some_iff.1 h
    have hxs : xs.map (·.1) = rows.map fun x => (DataW.agg [.lit (.int k x.1), .lit (.int k x.2)] : DataW H) := by
      have := congrArg Prod.fst hx
      simpa using this
    have hxl : xs.length = n := by simpa using Lib.mapM_length hm
    have hrl : rows.length = n := by
      have := congrArg List.length hxs
      simp at this; omega
    refine flat_pairs _ (fun _ => rfl) rows cs (by rw [hl, hrl]) fun i x hi => ?_
    have hin : i < n := by
      rw [← hrl]
      rcases Nat.lt_or_ge i rows.length with g | g
      · exact g
      · rw [List.getElem?_eq_none g] at hi; cases hi
    obtain ⟨b, hb, hf⟩ := Lib.mapM_at hm i i (by simp [hin])
    obtain ⟨y0, y1, m, rfl, hlen, e0, e1⟩ := ChangeShapes.trod_struct2 he hf
    rw [o0, c0] at e0
    rw [o1, c1] at e1
    obtain ⟨z0, q0, rfl, _⟩ := DataW.trod_int k0 e0
    obtain ⟨z1, q1, rfl, _⟩ := DataW.trod_int k1 e1
    have h2 : (xs.map (·.1))[i]? = some (DataW.agg [.lit (.int k z0), .lit (.int k z1)] : DataW H) := by simp [hb]
    rw [hxs] at h2
    simp only [List.getElem?_map, hi, Option.map_some, Option.some.injEq, DataW.agg.injEq, List.cons.injEq, DataW.lit.injEq, Lit.int.injEq, true_and, and_true] at h2
    obtain ⟨rfl, rfl⟩ := h2
    rw [hce] at hlen
    generalize (cs.drop (i * 2)).take 2 = l at *
    match l, hlen with
    | [a, b], _ =>
      simp at q0 q1
      rw [q0, q1]

/-- A witness's world holds the listed variables: two closed facts. -/
theorem laid_of_run {P : Program} {w : World} {l : List (String × DataW Unit)} (fuel M : Nat) (h : (DataW.laidRun P w fuel (l.map (·.1))).map (·.1) = some l)
    (hr : (DataW.laidRun P w fuel (l.map (·.1))).map (fun x => nodupBits M x.2 0 && laidRowsB P w x.2) = some true) : laidMet P l w := by
  cases hx : DataW.laidRun P w fuel (l.map (·.1)) with
  | none => simp [hx] at h
  | some x =>
    obtain ⟨l', ps⟩ := x
    simp only [hx, Option.map_some, Option.some.injEq] at h hr
    subst h
    simp only [Bool.and_eq_true] at hr
    exact laidMet_of_run fuel hx (decide_eq_true (nodupBits_sound hr.1).1) hr.2
theorem heap_of_shaped {P : Program} {W : World} (hs : W.ShapedOpen P) {g : Nat} {zero : Array Value} {t : TypeId} (hg : g < P.globals.size)
    (h : ((begin P (fun _ _ => 0) default).world.heap[g]?).bind Obj.row? = some (zero, t)) : g < W.heap.size := by
  obtain ⟨cs, h1, _⟩ := hs.1 g zero t hg h
  rcases Nat.lt_or_ge g W.heap.size with k | k
  · exact k
  · rw [Array.getElem?_eq_none k] at h1; cases h1

theorem mapM_of {α β : Type} {f : α → Option β} {g : α → β} : ∀ (l : List α), (∀ x ∈ l, f x = some (g x)) → l.mapM f = some (l.map g)
  | [], _ => rfl
  | x :: l, h => by rw [List.mapM_cons, h x (by simp), mapM_of l fun y hy => h y (by simp [hy])]; rfl

theorem drop_flat {α : Type} (f : α → List Value) (hf : ∀ x, (f x).length = 2) : ∀ (rows : List α) (i : Nat) (x : α), rows[i]? = some x → ((rows.flatMap f).drop (i * 2)).take 2 = f x
  | [], i, x, h => by simp at h
  | y :: rows, 0, x, h => by
    simp at h
    subst h
    rw [List.flatMap_cons, Nat.zero_mul, List.drop_zero, List.take_append_of_le_length (by rw [hf]; exact Nat.le_refl _), List.take_of_length_le (by rw [hf]; exact Nat.le_refl _)]
  | y :: rows, i + 1, x, h => by
    rw [List.flatMap_cons, List.drop_append, List.drop_of_length_le (by rw [hf]; omega), List.nil_append, hf, show (i + 1) * 2 - 2 = i * 2 by omega]
    exact drop_flat f hf rows i x (by simpa using h)
theorem flat_len {α : Type} (f : α → List Value) (hf : ∀ x, (f x).length = 2) : ∀ rows : List α, (rows.flatMap f).length = rows.length * 2
  | [] => rfl
  | x :: rows => by rw [List.flatMap_cons, List.length_append, hf, flat_len f hf rows, List.length_cons]; omega

/-- The other way round: a table of pairs is read as it lies. -/
theorem pairs_trod {H : Type} {enc : TypeId × Value → H} {P : Program} {w : World} {base : Nat} {sp : Nat → Bool} {held : Bool} {t e : TypeId} {n : Nat} {k : IntKind} {f0 f1 : Field} {rows : List (Nat × Nat)}
    (ht : P.underlying t = some (.array n e)) (he : P.underlying e = some (.struct #[f0, f1])) (o0 : f0.offset = 0) (o1 : f1.offset = 1) (k0 : P.underlying f0.type = some (.int k)) (k1 : P.underlying f1.type = some (.int k))
    (c0 : P.cellsOf f0.type = 1) (c1 : P.cellsOf f1.type = 1) (hce : P.cellsOf e = 2) (hct : P.cellsOf t = n * 2) (hn : rows.length = n)
    (hwf : (rows.all fun x => (Lit.int k x.1).wf && (Lit.int k x.2).wf) = true) :
    DataW.trod enc P w base sp held 3 t (rows.flatMap fun x => [Value.int k x.1, Value.int k x.2]) = some (.agg (rows.map fun x => .agg [.lit (.int k x.1), .lit (.int k x.2)]), []) := by
  have hl : (rows.flatMap fun x => [Value.int k x.1, Value.int k x.2]).length = n * 2 := by rw [flat_len _ (fun _ => rfl), hn]
  have hstep : ∀ i ∈ List.range n, DataW.trod enc P w base sp held 2 e (((rows.flatMap fun x => [Value.int k x.1, Value.int k x.2]).drop (i * 2)).take 2) =
      some ((fun i => ((.agg [.lit (.int k (rows.getD i (0, 0)).1), .lit (.int k (rows.getD i (0, 0)).2)], []) : DataW H × List MemPlace)) i) := by
    intro i hi
    have hi' : i < rows.length := by rw [hn]; simpa using hi
    have hx : rows[i]? = some rows[i] := List.getElem?_eq_getElem hi'
    rw [drop_flat _ (fun _ => rfl) rows i rows[i] hx]
    have hw := List.all_eq_true.1 hwf rows[i] (List.getElem_mem hi')
    simp only [Bool.and_eq_true] at hw
    simp only [List.getD, hx, Option.getD_some]
    have e0 : DataW.trod enc P w base sp held 1 f0.type [Value.int k (rows[i].1 : Int)] = some (.lit (.int k rows[i].1), []) := by simp [DataW.trod, k0, hw.1]
    have e1 : DataW.trod enc P w base sp held 1 f1.type [Value.int k (rows[i].2 : Int)] = some (.lit (.int k rows[i].2), []) := by simp [DataW.trod, k1, hw.2]
    have := ChangeShapes.trod_struct_mk (enc := enc) (w := w) (base := base) (spare := sp) (held := held) (n := 1) (cs := [Value.int k (rows[i].1 : Int), Value.int k (rows[i].2 : Int)])
      (xs := [(.lit (.int k rows[i].1), []), (.lit (.int k rows[i].2), [])]) he (by simp [hce]) (by
        simp [List.mapM_cons, o0, o1, c0, c1, e0, e1])
    simpa using this
  have key : ∀ m, (∀ i ∈ List.range n, DataW.trod enc P w base sp held m e (((rows.flatMap fun x => [Value.int k x.1, Value.int k x.2]).drop (i * 2)).take 2) =
      some ((fun i => ((.agg [.lit (.int k (rows.getD i (0, 0)).1), .lit (.int k (rows.getD i (0, 0)).2)], []) : DataW H × List MemPlace)) i)) →
      DataW.trod enc P w base sp held (m + 1) t (rows.flatMap fun x => [Value.int k x.1, Value.int k x.2]) = some (.agg (rows.map fun x => .agg [.lit (.int k x.1), .lit (.int k x.2)]), []) := by
    intro m hm
    simp only [DataW.trod, ht, hce, hct, hl, if_true]
    rw [mapM_of _ hm]
    simp only [Option.map_some, Option.some.injEq, Prod.mk.injEq, DataW.agg.injEq]
    refine ⟨?_, ?_⟩
    · rw [List.map_map]
      apply List.ext_getElem?
      intro i
      by_cases hi : i < n
      · have hx : rows[i]? = some rows[i] := List.getElem?_eq_getElem (by omega)
        simp [hi, hx]
      · rw [List.getElem?_eq_none (by simp; omega), List.getElem?_eq_none (by simp; omega)]
    · simp
  exact key 2 hstep

def noIface : Value → Bool
  | .iface _ _ => false
  | _ => true
/-- The listed variables lie as they should: by parts. -/
theorem laidMet_mk {P : Program} {w : World} {l : List (String × DataW Unit)} {ps : List MemPlace} (M : Nat) (bs : List Nat) (h : DataW.LaidVars P w l ps) (hn : nodupBits M ps 0 = true)
    (hb : (ps.all fun p => match p with | .cell b _ => bs.contains b | .map _ => false) = true) (ho : ∀ b ∈ bs, ∃ c t, w.heap[b]? = some (.cells c t (0, 0)) ∧ c.toList.all noIface = true) : laidMet P l w := by
  refine ⟨ps, h, (nodupBits_sound hn).1, fun b off hp => ?_⟩
  have := List.all_eq_true.1 hb _ hp
  obtain ⟨c, t, h1, h2⟩ := ho b (by simpa using this)
  refine ⟨⟨c, t, h1⟩, fun u v hc => ?_⟩
  exfalso
  have h3 : c[off]? = some (.iface u v) := by
    unfold World.cell? at hc
    simpa [h1] using hc
  have h4 := List.all_eq_true.1 h2 (.iface u v) (by
    have := Array.mem_of_getElem? h3
    simpa using this)
  cases h4

/-- A witness whose world's shape is seen in one pass. -/
theorem witness_zip {H : Type} {enc : TypeId × Value → H} {C : Checked} {os : Os} {f : FuncId} {fn : Func} {s : OpenSpec} {conds : List PathCond} {apart : Bool} {laid : List (String × DataW Unit)} (w0 : World) (args : Array Value) (hos : w0.os = os)
    (hv : (w0.forCall (fun _ _ => 0) ⟨#[], args, []⟩).variablesZipB C.prog = true)
    (hr : ((w0.forCall (fun _ _ => 0) ⟨#[], args, []⟩).heap.toList.drop C.prog.globals.size).take ((begin C.prog (fun _ _ => 0) default).world.heap.size - C.prog.globals.size) =
      (begin C.prog (fun _ _ => 0) default).world.heap.toList.drop C.prog.globals.size)
    (hok : Input.okWideB C.prog (w0.forCall (fun _ _ => 0) ⟨#[], args, []⟩) f ⟨#[], args, []⟩ = true)
    (hrow : s.preRow enc C.prog fn conds apart laid (w0.forCall (fun _ _ => 0) ⟨#[], args, []⟩).memory args) :
    ∃ (w : World) (tape : Tape) (i : Input), w.os = os ∧ (w.forCall tape i).Shaped C.prog ∧ i.vars = [] ∧ Input.okWide C.prog (w.forCall tape i) .any w.heap.size f i ∧
      s.preRow enc C.prog fn conds apart laid (w.forCall tape i).memory i.args ∧ ({} : Assume).holds C.prog (lone (Frame.enter C.prog f i.args .normal) [] (w.forCall tape i)) :=
  ⟨w0, fun _ _ => 0, ⟨#[], args, []⟩, hos, World.shaped_of_ZipB hv hr, (Input.okWide_of_okWideB (base := 0) hok).1, (Input.okWide_of_okWideB hok).2, hrow, by
    simp only [Assume.holds]
    exact ⟨by simp, by simp, by simp, by simp, by simp⟩⟩
end Go.AM

/- Grammars, as the machine holds them. -/
namespace Go.AM
open Go.RowKit

structure GRule where
  left : Int
  right : List Int
  weight : Nat
structure Gram where
  terms : List ByteArray
  vars : List ByteArray
  rules : List GRule

def RR (H : Heap) (a : Option Addr) (l : List GRule) : Prop :=
  l ≠ [] → ∃ x k cs ty own, a = some ⟨x, k, none⟩ ∧ H x = .cells cs ty own ∧ ∀ i r, l[i]? = some r →
    ∃ p, cs[k + i * 3]? = some (.int .i64 r.left) ∧ cs[k + i * 3 + 1]? = some (.slice p r.right.length r.right.length) ∧ cs[k + i * 3 + 2]? = some (.float .f64 r.weight) ∧ RS (Value.int .i64) H p r.right

theorem RR.mono {n n' : Nat} {H H' : Heap} {a : Option Addr} {l : List GRule} (h : RR H a l) (hw : WF n H) (hk : Kp n H n' H') : RR H' a l := by
  intro hl
  obtain ⟨x, k, cs, ty, own, e1, e2, e3⟩ := h hl
  refine ⟨x, k, cs, ty, own, e1, ?_, fun i r hi => ?_⟩
  · rw [hk.keep x, e2]
    apply Classical.byContradiction
    intro hx
    rw [hw x (by omega)] at e2; cases e2
  · obtain ⟨p, c1, c2, c3, c4⟩ := e3 i r hi
    exact ⟨p, c1, c2, c3, c4.mono hw hk⟩

theorem RR.atS {H : Heap} {a : Option Addr} {l : List GRule} (h : RR H a l) {i : Nat} (hi : i < l.length) :
    ∃ x k cs ty own p, a = some ⟨x, k, none⟩ ∧ H x = .cells cs ty own ∧ cs[k + i * 3]? = some (.int .i64 l[i].left) ∧ cs[k + i * 3 + 1]? = some (.slice p l[i].right.length l[i].right.length) ∧
      cs[k + i * 3 + 2]? = some (.float .f64 l[i].weight) ∧ RS (Value.int .i64) H p l[i].right := by
  obtain ⟨x, k, cs, ty, own, e1, e2, e3⟩ := h (by intro e; simp [e] at hi)
  obtain ⟨p, c1, c2, c3, c4⟩ := e3 i _ (List.getElem?_eq_getElem hi)
  exact ⟨x, k, cs, ty, own, p, e1, e2, c1, c2, c3, c4⟩

theorem RR.at {H : Heap} {a : Option Addr} {l : List GRule} (h : RR H a l) {i : Nat} (hi : i < l.length) :
    ∃ x k cs ty own p, a = some ⟨x, k, none⟩ ∧ H x = .cells cs ty own ∧ cs[k + i * 3]? = some (.int .i64 l[i].left) ∧ cs[k + i * 3 + 1]? = some (.slice p l[i].right.length l[i].right.length) ∧
      cs[k + i * 3 + 2]? = some (.float .f64 l[i].weight) ∧ RA (Value.int .i64) H p l[i].right := by
  obtain ⟨x, k, cs, ty, own, p, e1, e2, c1, c2, c3, c4⟩ := h.atS hi
  exact ⟨x, k, cs, ty, own, p, e1, e2, c1, c2, c3, c4.ra⟩

/-- The cells of a rule that is loaded whole. -/
theorem take3 {cs : List Value} {k : Nat} {a b c : Value} (h0 : cs[k]? = some a) (h1 : cs[k + 1]? = some b) (h2 : cs[k + 2]? = some c) : (cs.drop k).take 3 = [a, b, c] := by
  apply List.ext_getElem?
  intro i
  rw [List.getElem?_take, List.getElem?_drop]
  match i with
  | 0 => simpa using h0
  | 1 => simpa using h1
  | 2 => simpa using h2
  | i + 3 => simp; omega

theorem len3 {cs : List Value} {k : Nat} {c : Value} (h2 : cs[k + 2]? = some c) : k + 3 ≤ cs.length := by
  rcases Nat.lt_or_ge (k + 2) cs.length with h | h
  · omega
  · rw [List.getElem?_eq_none h] at h2; cases h2

def gcells (pt pv pr : Option Addr) (g : Gram) : List Value :=
  [.slice pt g.terms.length g.terms.length, .slice pv g.vars.length g.vars.length, .slice pr g.rules.length g.rules.length]

/-- A grammar by value. -/
def RG (H : Heap) (v : Value) (g : Gram) : Prop :=
  ∃ pt pv pr, v = .agg (gcells pt pv pr g).toArray ∧ RA Value.string H pt g.terms ∧ RA Value.string H pv g.vars ∧ RR H pr g.rules

theorem RG.mono {n n' : Nat} {H H' : Heap} {v : Value} {g : Gram} (h : RG H v g) (hw : WF n H) (hk : Kp n H n' H') : RG H' v g := by
  obtain ⟨pt, pv, pr, e, h1, h2, h3⟩ := h
  exact ⟨pt, pv, pr, e, h1.mono hw hk, h2.mono hw hk, h3.mono hw hk⟩

/-- What integers and lengths are. -/
def inI (n : Int) : Prop := -9223372036854775808 ≤ n ∧ n ≤ 9223372036854775807
def maxL : Nat := 9223372036854775807
structure WG (g : Gram) : Prop where
  terms : g.terms.length ≤ maxL
  vars : g.vars.length ≤ maxL
  rules : g.rules.length ≤ maxL
  left : ∀ r ∈ g.rules, inI r.left
  right : ∀ r ∈ g.rules, r.right.length ≤ maxL ∧ ∀ s ∈ r.right, inI s
  weight : ∀ r ∈ g.rules, r.weight < 2 ^ 64
  size : ∀ s ∈ g.terms ++ g.vars, s.size ≤ maxL

theorem box_cells (pt pv pr : Option Addr) (g : Gram) : vcells (.agg (gcells pt pv pr g).toArray) = gcells pt pv pr g := rfl
theorem box_one (pt pv pr : Option Addr) (g : Gram) : (gcells pt pv pr g).all one = true := rfl
theorem gc_0 (pt pv pr : Option Addr) (g : Gram) : (gcells pt pv pr g)[0]? = some (.slice pt g.terms.length g.terms.length) := rfl
theorem gc_1 (pt pv pr : Option Addr) (g : Gram) : (gcells pt pv pr g)[1]? = some (.slice pv g.vars.length g.vars.length) := rfl
theorem gc_2 (pt pv pr : Option Addr) (g : Gram) : (gcells pt pv pr g)[2]? = some (.slice pr g.rules.length g.rules.length) := rfl
theorem gc_len (pt pv pr : Option Addr) (g : Gram) : (gcells pt pv pr g).length = 3 := rfl
theorem gc_all (pt pv pr : Option Addr) (g : Gram) : ((gcells pt pv pr g).drop 0).take 3 = gcells pt pv pr g := rfl

end Go.AM

/- What arguments are: lists of integers, strings, rules; grammars. -/
namespace Go.AM
open Go.RowKit

theorem pick_list {α : Type} {Q : Nat → α → Prop} : ∀ (m : Nat), (∀ i, i < m → ∃ y, Q i y) → ∃ l : List α, l.length = m ∧ ∀ i y, l[i]? = some y → Q i y := by
  intro m
  induction m with
  | zero => intro _; exact ⟨[], rfl, fun i y h => by simp at h⟩
  | succ m ih =>
    intro h
    obtain ⟨l, h1, h2⟩ := ih fun i hi => h i (by omega)
    obtain ⟨y, hy⟩ := h m (by omega)
    refine ⟨l ++ [y], by simp [h1], fun i z e => ?_⟩
    by_cases hi : i < l.length
    · rw [List.getElem?_append_left hi] at e; exact h2 i z e
    · rw [List.getElem?_append_right (by omega)] at e
      have : i - l.length = 0 := by
        apply Classical.byContradiction
        intro hc
        obtain ⟨q, hq⟩ : ∃ q, i - l.length = q + 1 := ⟨i - l.length - 1, by omega⟩
        rw [hq] at e; simp at e
      have e' : i = m := by omega
      rw [this] at e
      simp at e
      subst e
      rw [e']; exact hy

theorem at1 {cs : List Value} {i : Nat} {v : Value} (h : (cs.drop i).take 1 = [v]) : cs[i]? = some v := by
  have : ((cs.drop i).take 1)[0]? = some v := by rw [h]; rfl
  rw [List.getElem?_take, List.getElem?_drop] at this
  simpa using this

variable {P : Program} {H : Heap}

theorem AR.int_inv {t : TypeId} {cs : List Value} (h : AR P H t cs) (ht : P.underlying t = some (.int .i64)) : ∃ n, cs = [.int .i64 n] ∧ inI n := by
  cases h with
  | int t k n ht' hw =>
    rw [ht] at ht'; cases ht'
    refine ⟨n, rfl, ?_⟩
    simp [Lit.wf, IntKind.min, IntKind.max, IntKind.signed, IntKind.bits] at hw
    unfold inI
    omega
  | _ => simp_all

theorem AR.str_inv {t : TypeId} {cs : List Value} (h : AR P H t cs) (ht : P.underlying t = some .string) : ∃ s, cs = [.string s] ∧ s.size ≤ maxL := by
  cases h with
  | string t s ht' hs =>
    refine ⟨s, rfl, Nat.le_trans hs ?_⟩
    unfold maxL maxLen
    omega
  | _ => simp_all

theorem AR.float_inv {t : TypeId} {cs : List Value} (h : AR P H t cs) (ht : P.underlying t = some (.float .f64)) : ∃ b, cs = [.float .f64 b] ∧ b < 2 ^ 64 := by
  cases h with
  | float t k b ht' hw =>
    rw [ht] at ht'; cases ht'
    refine ⟨b, rfl, ?_⟩
    simpa [Lit.wf] using hw
  | _ => simp_all

theorem AR.slice_inv {t e : TypeId} {cs : List Value} (h : AR P H t cs) (ht : P.underlying t = some (.slice e)) : cs = [.slice none 0 0] ∨ ∃ x m ds, cs = [.slice (some ⟨x, 0, none⟩) m m] ∧ H x = .cells ds e false ∧ m ≤ maxL ∧ ∀ i, i < m → AR P H e ((ds.drop (i * P.cellsOf e)).take (P.cellsOf e)) := by
  cases h with
  | nil => exact .inl rfl
  | slice t e' x m ds ht' hx hl hm he =>
    rw [ht] at ht'; cases ht'
    refine .inr ⟨x, m, ds, rfl, hx, Nat.le_trans hm ?_, he⟩
    unfold maxL maxLen
    omega
  | _ => simp_all

theorem AR.list_inv {α : Type} {enc : α → Value} {good : α → Prop} {t e : TypeId} {cs : List Value} (h : AR P H t cs) (ht : P.underlying t = some (.slice e)) (hc : P.cellsOf e = 1) (hi : ∀ ds, AR P H e ds → ∃ y, ds = [enc y] ∧ good y) :
    ∃ p l, cs = [.slice p l.length l.length] ∧ RS enc H p l ∧ l.length ≤ maxL ∧ ∀ y ∈ l, good y := by
  rcases h.slice_inv ht with rfl | ⟨x, m, ds, rfl, hx, hm, he⟩
  · exact ⟨none, [], rfl, .inl ⟨rfl, rfl⟩, by simp, fun y hy => by cases hy⟩
  · obtain ⟨l, h1, h2⟩ := pick_list (Q := fun i y => ds[i]? = some (enc y) ∧ good y) m fun i hi' => by
      obtain ⟨y, e1, e2⟩ := hi _ (he i hi')
      rw [hc, Nat.mul_one] at e1
      exact ⟨y, at1 e1, e2⟩
    subst h1
    refine ⟨_, l, rfl, .inr ⟨x, 0, ds, e, false, rfl, hx, ?_, fun i y e => by rw [Nat.zero_add]; exact (h2 i y e).1⟩, hm, fun y hy => ?_⟩
    · rw [Nat.zero_add]
      apply Classical.byContradiction
      intro hc
      have hlt : ds.length < l.length := by omega
      have := (h2 ds.length _ (List.getElem?_eq_getElem hlt)).1
      rw [List.getElem?_eq_none (Nat.le_refl _)] at this
      cases this
    obtain ⟨i, hi', rfl⟩ := List.getElem_of_mem hy
    exact (h2 i _ (List.getElem?_eq_getElem hi')).2

theorem AR.ints {t e : TypeId} {cs : List Value} (h : AR P H t cs) (ht : P.underlying t = some (.slice e)) (hc : P.cellsOf e = 1) (he : P.underlying e = some (.int .i64)) :
    ∃ p l, cs = [.slice p l.length l.length] ∧ RS (Value.int .i64) H p l ∧ l.length ≤ maxL ∧ ∀ y ∈ l, inI y := h.list_inv ht hc fun _ hd => hd.int_inv he
theorem AR.strs {t e : TypeId} {cs : List Value} (h : AR P H t cs) (ht : P.underlying t = some (.slice e)) (hc : P.cellsOf e = 1) (he : P.underlying e = some .string) :
    ∃ p l, cs = [.slice p l.length l.length] ∧ RA Value.string H p l ∧ l.length ≤ maxL ∧ ∀ y ∈ l, y.size ≤ maxL := by
  obtain ⟨p, l, e, h1, h2⟩ := h.list_inv ht hc fun _ hd => hd.str_inv he
  exact ⟨p, l, e, h1.ra, h2⟩

/-- The types of a grammar. -/
structure GramT (P : Program) (tg tr ti tn tss trs tis tf : TypeId) : Prop where
  g : ∃ f1 f2 f3 : Field, P.underlying tg = some (.struct #[f1, f2, f3]) ∧ f1.type = tss ∧ f1.offset = 0 ∧ f2.type = tss ∧ f2.offset = 1 ∧ f3.type = trs ∧ f3.offset = 2
  r : ∃ f1 f2 f3 : Field, P.underlying tr = some (.struct #[f1, f2, f3]) ∧ f1.type = ti ∧ f1.offset = 0 ∧ f2.type = tis ∧ f2.offset = 1 ∧ f3.type = tf ∧ f3.offset = 2
  i : P.underlying ti = some (.int .i64)
  n : P.underlying tn = some .string
  ss : P.underlying tss = some (.slice tn)
  rs : P.underlying trs = some (.slice tr)
  is : P.underlying tis = some (.slice ti)
  f : P.underlying tf = some (.float .f64)
  ci : P.cellsOf ti = 1
  cn : P.cellsOf tn = 1
  css : P.cellsOf tss = 1
  crs : P.cellsOf trs = 1
  cis : P.cellsOf tis = 1
  cf : P.cellsOf tf = 1
  cr : P.cellsOf tr = 3
  cg : P.cellsOf tg = 3

theorem AR.struct_inv {t : TypeId} {fs : Array Field} {cs : List Value} (h : AR P H t cs) (ht : P.underlying t = some (.struct fs)) : cs.length = P.cellsOf t ∧ ∀ (i : Nat) (f : Field), fs[i]? = some f → AR P H f.type ((cs.drop f.offset).take (P.cellsOf f.type)) := by
  cases h with
  | struct t fs' cs ht' hl hf =>
    rw [ht] at ht'; cases ht'
    exact ⟨hl, hf⟩
  | _ => simp_all

section
variable {tg tr ti tn tss trs tis tf : TypeId}

theorem AR.rule (T : GramT P tg tr ti tn tss trs tis tf) {cs : List Value} (h : AR P H tr cs) : ∃ (r : GRule) (p : Option Addr), cs = [.int .i64 r.left, .slice p r.right.length r.right.length, .float .f64 r.weight] ∧ RS (Value.int .i64) H p r.right ∧ inI r.left ∧ r.right.length ≤ maxL ∧ (∀ s ∈ r.right, inI s) ∧ r.weight < 2 ^ 64 := by
  obtain ⟨f1, f2, f3, e, a1, b1, a2, b2, a3, b3⟩ := T.r
  obtain ⟨hl, hf⟩ := h.struct_inv e
  rw [T.cr] at hl
  match cs, hl with
  | [x, y, z], _ =>
    have h1 := hf 0 f1 rfl
    have h2 := hf 1 f2 rfl
    have h3 := hf 2 f3 rfl
    rw [a1, b1, T.ci] at h1
    rw [a2, b2, T.cis] at h2
    rw [a3, b3, T.cf] at h3
    obtain ⟨n, e1, hn⟩ := h1.int_inv T.i
    obtain ⟨p, l, e2, hp, hl, hs⟩ := h2.ints T.is T.ci T.i
    obtain ⟨w, e3, hw⟩ := h3.float_inv T.f
    simp at e1 e2 e3
    subst e1 e2 e3
    exact ⟨⟨n, l, w⟩, p, rfl, hp, hn, hl, hs, hw⟩

theorem AR.rules (T : GramT P tg tr ti tn tss trs tis tf) {cs : List Value} (h : AR P H trs cs) : ∃ p l, cs = [.slice p l.length l.length] ∧ RR H p l ∧ l.length ≤ maxL ∧ ∀ r ∈ l, inI r.left ∧ (r.right.length ≤ maxL ∧ ∀ s ∈ r.right, inI s) ∧ r.weight < 2 ^ 64 := by
  rcases h.slice_inv T.rs with rfl | ⟨x, m, ds, rfl, hx, hm, he⟩
  · exact ⟨none, [], rfl, fun h => absurd rfl h, by simp, fun y hy => by cases hy⟩
  · obtain ⟨l, h1, h2⟩ := pick_list (Q := fun i (r : GRule) => (∃ p, ds[i * 3]? = some (.int .i64 r.left) ∧ ds[i * 3 + 1]? = some (.slice p r.right.length r.right.length) ∧ ds[i * 3 + 2]? = some (.float .f64 r.weight) ∧ RS (Value.int .i64) H p r.right) ∧ inI r.left ∧ (r.right.length ≤ maxL ∧ ∀ s ∈ r.right, inI s) ∧ r.weight < 2 ^ 64) m fun i hi' => by
      have h := he i hi'
      rw [T.cr] at h
      obtain ⟨r, p, e, hp, q1, q2, q3, q4⟩ := AR.rule T h
      have g : ∀ j, j < 3 → ds[i * 3 + j]? = ((ds.drop (i * 3)).take 3)[j]? := fun j hj => by rw [List.getElem?_take, if_pos hj, List.getElem?_drop]
      refine ⟨r, ⟨p, ?_, ?_, ?_, hp⟩, q1, ⟨q2, q3⟩, q4⟩
      · have := g 0 (by omega); rw [e] at this; simpa using this
      · have := g 1 (by omega); rw [e] at this; simpa using this
      · have := g 2 (by omega); rw [e] at this; simpa using this
    subst h1
    refine ⟨_, l, rfl, fun _ => ⟨x, 0, ds, tr, false, rfl, hx, fun i r e => ?_⟩, hm, fun r hr => ?_⟩
    · obtain ⟨⟨p, c0, c1, c2, c3⟩, _⟩ := h2 i r e
      exact ⟨p, by rw [Nat.zero_add]; exact c0, by rw [Nat.zero_add]; exact c1, by rw [Nat.zero_add]; exact c2, c3⟩
    · obtain ⟨i, hi', rfl⟩ := List.getElem_of_mem hr
      exact (h2 i _ (List.getElem?_eq_getElem hi')).2

theorem ARV.gram (T : GramT P tg tr ti tn tss trs tis tf) {v : Value} (ha : aggT P tg = some true) (h : ARV P H tg v) : ∃ g, RG H v g ∧ WG g := by
  obtain ⟨h1, h2, _⟩ := h
  obtain ⟨cs, rfl⟩ := h2 ha
  obtain ⟨f1, f2, f3, e, a1, b1, a2, b2, a3, b3⟩ := T.g
  have hvc : vcells (.agg cs) = cs.toList := rfl
  rw [hvc] at h1
  obtain ⟨hl, hf⟩ := h1.struct_inv e
  rw [T.cg] at hl
  obtain ⟨cs⟩ := cs
  simp only at hl hf
  match cs, hl with
  | [x, y, z], _ =>
    have h1 := hf 0 f1 rfl
    have h2 := hf 1 f2 rfl
    have h3 := hf 2 f3 rfl
    rw [a1, b1, T.css] at h1
    rw [a2, b2, T.css] at h2
    rw [a3, b3, T.crs] at h3
    obtain ⟨pt, lt, e1, ht, ht1, ht2⟩ := h1.strs T.ss T.cn T.n
    obtain ⟨pv, lv, e2, hv, hv1, hv2⟩ := h2.strs T.ss T.cn T.n
    obtain ⟨pr, lr, e3, hr, hr1, hr2⟩ := AR.rules T h3
    simp at e1 e2 e3
    subst e1 e2 e3
    refine ⟨⟨lt, lv, lr⟩, ⟨pt, pv, pr, rfl, ht, hv, hr⟩, ht1, hv1, hr1, fun r h => (hr2 r h).1, fun r h => (hr2 r h).2.1, fun r h => (hr2 r h).2.2, fun s hs => ?_⟩
    rcases List.mem_append.1 hs with hs | hs
    · exact ht2 s hs
    · exact hv2 s hs

/-- The rules of a grammar lie in an object of rules, if it is a made one. -/
def RO (P : Program) (H : Heap) (v : Value) : Prop := ∀ (pt pv pr : Option Addr) (g : Gram), v = .agg (gcells pt pv pr g).toArray → ∀ x k sp, pr = some ⟨x, k, sp⟩ → ∀ cs ty own, H x = .cells cs ty own → own = true → isz P ty = some 3

theorem ARV.gramO (T : GramT P tg tr ti tn tss trs tis tf) {v : Value} (ha : aggT P tg = some true) (h : ARV P H tg v) : RO P H v := by
  intro pt pv pr g hv x k sp hp cs ty own hx ho
  subst hv hp
  obtain ⟨h1, _, _⟩ := h
  obtain ⟨f1, f2, f3, e, a1, b1, a2, b2, a3, b3⟩ := T.g
  have hvc : vcells (.agg (gcells pt pv (some ⟨x, k, sp⟩) g).toArray) = gcells pt pv (some ⟨x, k, sp⟩) g := rfl
  rw [hvc] at h1
  obtain ⟨_, hf⟩ := h1.struct_inv e
  have h3 := hf 2 f3 rfl
  rw [a3, b3, T.crs] at h3
  have e3 : (List.drop 2 (gcells pt pv (some ⟨x, k, sp⟩) g)).take 1 = [.slice (some ⟨x, k, sp⟩) g.rules.length g.rules.length] := rfl
  rw [e3] at h3
  rcases h3.slice_inv T.rs with h4 | ⟨y, m, ds, e4, hy, _⟩
  · simp at h4
  · simp at e4
    obtain ⟨⟨rfl, rfl, rfl⟩, _⟩ := e4
    rw [hy] at hx
    cases hx
    cases ho

theorem ARV.gramI (T : GramT P tg tr ti tn tss trs tis tf) {v : Value} (ha : aggT P tg = some true) (h : ARV P H tg v) : ∃ g, RG H v g ∧ WG g := ARV.gram T ha h
end

theorem vcells_one {v : Value} (h : one v = true) : vcells v = [v] := by cases v <;> first | rfl | (simp [one] at h)

theorem ARV.intI {v : Value} {t : TypeId} (ht : P.underlying t = some (.int .i64)) (ha : aggT P t = some false) (h : ARV P H t v) : ∃ n, v = .int .i64 n ∧ inI n := by
  obtain ⟨h1, _, h3⟩ := h
  obtain ⟨n, e, hn⟩ := h1.int_inv ht
  refine ⟨n, ?_, hn⟩
  have ho := h3 ha
  rw [vcells_one ho] at e
  simpa using e

theorem ARV.intsI {v : Value} {t e : TypeId} (ht : P.underlying t = some (.slice e)) (hc : P.cellsOf e = 1) (he : P.underlying e = some (.int .i64)) (ha : aggT P t = some false) (h : ARV P H t v) :
    ∃ p l, v = .slice p l.length l.length ∧ RS (Value.int .i64) H p l ∧ l.length ≤ maxL ∧ ∀ y ∈ l, inI y := by
  obtain ⟨h1, _, h3⟩ := h
  obtain ⟨p, l, e', hp, hl, hs⟩ := h1.ints ht hc he
  refine ⟨p, l, ?_, hp, hl, hs⟩
  have ho := h3 ha
  rw [vcells_one ho] at e'
  simpa using e'

theorem AR.u64_inv {t : TypeId} {cs : List Value} (h : AR P H t cs) (ht : P.underlying t = some (.int .u64)) : ∃ n : Nat, cs = [.int .u64 n] ∧ n < 18446744073709551616 := by
  cases h with
  | int t k n ht' hw =>
    rw [ht] at ht'; cases ht'
    simp [Lit.wf, IntKind.min, IntKind.max, IntKind.signed, IntKind.bits] at hw
    exact ⟨n.toNat, by rw [Int.toNat_of_nonneg (by omega)], by omega⟩
  | _ => simp_all

theorem ARV.u64 {v : Value} {t : TypeId} (ht : P.underlying t = some (.int .u64)) (ha : aggT P t = some false) (h : ARV P H t v) : ∃ n : Nat, v = .int .u64 n ∧ n < 18446744073709551616 := by
  obtain ⟨h1, _, h3⟩ := h
  obtain ⟨n, e, hn⟩ := h1.u64_inv ht
  refine ⟨n, ?_, hn⟩
  have ho := h3 ha
  rw [vcells_one ho] at e
  simpa using e

theorem ARV.u64s {v : Value} {t e : TypeId} (ht : P.underlying t = some (.slice e)) (hc : P.cellsOf e = 1) (he : P.underlying e = some (.int .u64)) (ha : aggT P t = some false) (h : ARV P H t v) :
    ∃ (p : Option Addr) (l : List Nat), v = .slice p l.length l.length ∧ RS (fun n : Nat => Value.int .u64 n) H p l ∧ l.length ≤ maxL ∧ ∀ y ∈ l, y < 18446744073709551616 := by
  obtain ⟨h1, _, h3⟩ := h
  obtain ⟨p, l, e', hp, hl, hs⟩ := h1.list_inv (enc := fun n : Nat => Value.int .u64 n) (good := fun n => n < 18446744073709551616) ht hc (fun ds hd => hd.u64_inv he)
  refine ⟨p, l, ?_, hp, hl, hs⟩
  have ho := h3 ha
  rw [vcells_one ho] at e'
  simpa using e'

theorem ARV.str {v : Value} {t : TypeId} (ht : P.underlying t = some .string) (ha : aggT P t = some false) (h : ARV P H t v) : ∃ s, v = .string s ∧ s.size ≤ maxL := by
  obtain ⟨h1, _, h3⟩ := h
  obtain ⟨s, e, hn⟩ := h1.str_inv ht
  refine ⟨s, ?_, hn⟩
  have ho := h3 ha
  rw [vcells_one ho] at e
  simpa using e

end Go.AM

/- How great what floating point operations make may be, by powers of two. -/
namespace Go.AM
open Ieee

/-- A number below '2 ^ (K + 1)'. -/
def Low (K : Int) (m : Nat) (e : Int) : Prop := m = 0 ∨ e + (m.log2 : Int) ≤ K

theorem Low.mono {K L : Int} {m : Nat} {e : Int} (h : Low K m e) (hl : K ≤ L) : Low L m e := by
  rcases h with h | h
  · exact .inl h
  · exact .inr (by omega)

theorem cut_even_le (neg : Bool) (n drop B : Nat) (h : n < B * 2 ^ drop) (hB : 0 < B) : Toward.cut .even neg n drop ≤ B := by
  unfold Toward.cut
  simp only
  have key : n / 1 <<< min drop (n.log2 + 2) < B := by
    rw [Nat.shiftLeft_eq, Nat.one_mul]
    rcases Nat.le_total drop (n.log2 + 2) with hd | hd
    · rw [Nat.min_eq_left hd]
      exact (Nat.div_lt_iff_lt_mul (Nat.two_pow_pos _)).2 h
    · rw [Nat.min_eq_right hd]
      have : n < 2 ^ (n.log2 + 2) := Nat.lt_of_lt_of_le Nat.lt_log2_self (Nat.pow_le_pow_right (by omega) (by omega))
      rw [Nat.div_eq_of_lt this]; exact hB
  have h1 : ∀ b : Bool, b.toNat ≤ 1 := fun b => by cases b <;> simp
  exact Nat.le_trans (Nat.add_le_add_left (h1 _) _) key

theorem low_write {K : Int} {s : Bool} {m : Nat} {e : Int} (h : Low K m e) (h0 : 0 ≤ K) (h1 : K ≤ 900) :
    ∃ m' e', Format.read double (Format.write double (.number s m e)) = .number s m' e' ∧ Low (K + 1) m' e' := by
  have rd : ∀ R : Nat, R ≤ (K + 1024).toNat * 2 ^ 52 → ∃ m' e', Format.read double (Format.word double s R) = .number s m' e' ∧ Low (K + 1) m' e' := by
    intro R hR
    have hK : (K + 1024).toNat ≤ 1924 := by omega
    have hR2 : R ≤ 1924 * 2 ^ 52 := Nat.le_trans hR (Nat.mul_le_mul_right _ hK)
    have hsw : Format.signWeight double = 2 ^ 63 := rfl
    have hbin : Format.binade double = 2 ^ 52 := rfl
    have hinf : Format.infRung double = 2047 * 2 ^ 52 := rfl
    have hlp : Format.leastPlace double = -1074 := rfl
    have hneg : (Format.word double s R / 2 ^ 63 % 2 == 1) = s := by
      unfold Format.word; rw [hsw]
      cases s
      · simp only [Bool.false_eq_true, if_false]; rw [Nat.div_eq_of_lt (by omega)]; rfl
      · simp only [if_true]; rw [show (2 ^ 63 + R) / 2 ^ 63 = 1 by omega]; rfl
    have hrung : Format.word double s R % 2 ^ 63 = R := by
      unfold Format.word; rw [hsw]
      cases s
      · simp only [Bool.false_eq_true, if_false]; omega
      · simp only [if_true]; omega
    unfold Format.read
    simp only [hsw, hbin, hinf, hlp, hneg, hrung]
    split
    · rename_i hlt
      refine ⟨_, _, rfl, ?_⟩
      rcases Nat.eq_zero_or_pos R with e | e
      · exact .inl e
      · right
        have : R.log2 < 52 := (Nat.log2_lt (by omega)).2 hlt
        omega
    · rename_i hge
      rw [if_pos (by omega)]
      refine ⟨_, _, rfl, .inr ?_⟩
      have hm : R % 2 ^ 52 < 2 ^ 52 := Nat.mod_lt _ (Nat.two_pow_pos _)
      have hl : (2 ^ 52 + R % 2 ^ 52).log2 < 53 := (Nat.log2_lt (by omega)).2 (by omega)
      have hq : R / 2 ^ 52 ≤ (K + 1024).toNat := by
        have := Nat.div_le_div_right (c := 2 ^ 52) hR
        rwa [Nat.mul_div_cancel _ (Nat.two_pow_pos _)] at this
      have hq1 : 1 ≤ R / 2 ^ 52 := by omega
      omega
  unfold Format.write Format.nearest
  simp only
  split
  · exact rd 0 (Nat.zero_le _)
  rename_i hm
  have hL : e + (m.log2 : Int) ≤ K := by rcases h with h | h; exact absurd h hm; exact h
  have hlp : Format.leastPlace double = -1074 := rfl
  have hfb : ((Format.fractionBits double : Nat) : Int) = 52 := rfl
  have hbin : Format.binade double = 2 ^ 52 := rfl
  have hinf : Format.infRung double = 2047 * 2 ^ 52 := rfl
  rw [hlp, hfb, hbin, hinf]
  generalize hlast : max (e + (m.log2 : Int) - 52) (-1074) = last
  have hl1 : e + (m.log2 : Int) - 52 ≤ last := by omega
  have hl2 : last ≤ K - 52 ∨ last = -1074 := by omega
  have hl3 : -1074 ≤ last := by omega
  have hkept : Toward.cut .even s (m <<< (e - last).toNat) (last - e).toNat ≤ 2 ^ 53 := by
    refine cut_even_le _ _ _ _ ?_ (Nat.two_pow_pos _)
    rw [Nat.shiftLeft_eq, ← Nat.pow_add]
    have h2 : m < 2 ^ (m.log2 + 1) := Nat.lt_log2_self
    calc m * 2 ^ (e - last).toNat < 2 ^ (m.log2 + 1) * 2 ^ (e - last).toNat := Nat.mul_lt_mul_of_pos_right h2 (Nat.two_pow_pos _)
      _ = 2 ^ (m.log2 + 1 + (e - last).toNat) := by rw [← Nat.pow_add]
      _ ≤ 2 ^ (53 + (last - e).toNat) := Nat.pow_le_pow_right (by omega) (by omega)
  refine rd _ (Nat.le_trans (Nat.min_le_left _ _) ?_)
  have hpl : (last - -1074).toNat ≤ (K + 1022).toNat := by omega
  calc (last - -1074).toNat * 2 ^ 52 + Toward.cut .even s (m <<< (e - last).toNat) (last - e).toNat ≤ (K + 1022).toNat * 2 ^ 52 + 2 ^ 53 := Nat.add_le_add (Nat.mul_le_mul_right _ hpl) hkept
    _ = ((K + 1022).toNat + 2) * 2 ^ 52 := by rw [Nat.add_mul]
    _ ≤ (K + 1024).toNat * 2 ^ 52 := Nat.mul_le_mul_right _ (by omega)

theorem log2_mul_le {m n : Nat} (hm : m ≠ 0) (hn : n ≠ 0) : (m * n).log2 ≤ m.log2 + n.log2 + 1 := by
  have h1 : m < 2 ^ (m.log2 + 1) := Nat.lt_log2_self
  have h2 : n < 2 ^ (n.log2 + 1) := Nat.lt_log2_self
  have : m * n < 2 ^ (m.log2 + n.log2 + 2) := by
    calc m * n < 2 ^ (m.log2 + 1) * 2 ^ (n.log2 + 1) := Nat.mul_lt_mul'' h1 h2
      _ = 2 ^ (m.log2 + n.log2 + 2) := by rw [← Nat.pow_add]; congr 1; omega
  have := (Nat.log2_lt (Nat.mul_ne_zero hm hn)).2 this
  omega

theorem low_mul {K L : Int} {x y : Nat} {s t : Bool} {m n : Nat} {e j : Int} (hx : Format.read double x = .number s m e) (hy : Format.read double y = .number t n j) (h1 : Low K m e) (h2 : Low L n j) (h0 : 0 ≤ K + L + 1) (h9 : K + L + 1 ≤ 900) :
    ∃ r m' e', Format.mul double x y = some r ∧ Format.read double r = .number (s ^^ t) m' e' ∧ Low (K + L + 2) m' e' := by
  have hl : Low (K + L + 1) (m * n) (e + j) := by
    rcases Nat.eq_zero_or_pos m with hm | hm
    · exact .inl (by simp [hm])
    rcases Nat.eq_zero_or_pos n with hn | hn
    · exact .inl (by simp [hn])
    right
    have a : e + (m.log2 : Int) ≤ K := by rcases h1 with h | h; omega; exact h
    have b : j + (n.log2 : Int) ≤ L := by rcases h2 with h | h; omega; exact h
    have := log2_mul_le (m := m) (n := n) (by omega) (by omega)
    omega
  obtain ⟨m', e', h3, h4⟩ := low_write (s := s ^^ t) hl h0 h9
  exact ⟨_, m', e', by unfold Format.mul; rw [hx, hy]; rfl, h3, h4.mono (by omega)⟩

theorem signed_abs (s : Bool) (m up : Nat) : (signed s m up).natAbs = m * 2 ^ up := by
  unfold signed
  rw [Nat.shiftLeft_eq]
  cases s <;> simp [Int.natAbs_mul, Int.natAbs_pow]

theorem low_add {K : Int} {x y : Nat} {s t : Bool} {m n : Nat} {e j : Int} (hx : Format.read double x = .number s m e) (hy : Format.read double y = .number t n j) (h1 : Low K m e) (h2 : Low K n j) (h0 : 0 ≤ K) (h9 : K ≤ 899) :
    ∃ r s' m' e', Format.add double x y = some r ∧ Format.read double r = .number s' m' e' ∧ Low (K + 2) m' e' := by
  have part : ∀ (m : Nat) (e base : Int), Low K m e → base ≤ e → m * 2 ^ (e - base).toNat < 2 ^ (K + 1 - base).toNat ∨ m = 0 := by
    intro m e base h hb
    rcases Nat.eq_zero_or_pos m with hm | hm
    · exact .inr hm
    left
    have a : e + (m.log2 : Int) ≤ K := by rcases h with h | h; omega; exact h
    have h2 : m < 2 ^ (m.log2 + 1) := Nat.lt_log2_self
    calc m * 2 ^ (e - base).toNat < 2 ^ (m.log2 + 1) * 2 ^ (e - base).toNat := Nat.mul_lt_mul_of_pos_right h2 (Nat.two_pow_pos _)
      _ = 2 ^ (m.log2 + 1 + (e - base).toNat) := by rw [← Nat.pow_add]
      _ ≤ 2 ^ (K + 1 - base).toNat := Nat.pow_le_pow_right (by omega) (by omega)
  generalize hb : min e j = base
  have hl : Low (K + 1) (signed s m (e - base).toNat + signed t n (j - base).toNat).natAbs base := by
    rcases Nat.eq_zero_or_pos (signed s m (e - base).toNat + signed t n (j - base).toNat).natAbs with h | h
    · exact .inl h
    right
    have tri := Int.natAbs_add_le (signed s m (e - base).toNat) (signed t n (j - base).toNat)
    rw [signed_abs, signed_abs] at tri
    have hbound : (signed s m (e - base).toNat + signed t n (j - base).toNat).natAbs < 2 ^ ((K + 1 - base).toNat + 1) := by
      rw [Nat.pow_succ]
      have p1 := part m e base h1 (by omega)
      have p2 := part n j base h2 (by omega)
      have pos := Nat.two_pow_pos (K + 1 - base).toNat
      rcases p1 with p1 | p1 <;> rcases p2 with p2 | p2
      · omega
      · subst p2; simp only [Nat.zero_mul] at tri; omega
      · subst p1; simp only [Nat.zero_mul] at tri; omega
      · subst p1; subst p2; simp only [Nat.zero_mul] at tri; omega
    have := (Nat.log2_lt (by omega)).2 hbound
    have hK : 0 ≤ K + 1 - base := by
      apply Classical.byContradiction
      intro hc
      have p1 := part m e base h1 (by omega)
      have p2 := part n j base h2 (by omega)
      rw [show (K + 1 - base).toNat = 0 by omega] at p1 p2
      have q1 : m = 0 := by
        rcases p1 with p1 | p1
        · have := Nat.two_pow_pos (e - base).toNat
          rcases Nat.eq_zero_or_pos m with h | h
          · exact h
          · have := Nat.mul_pos h this; omega
        · exact p1
      have q2 : n = 0 := by
        rcases p2 with p2 | p2
        · have := Nat.two_pow_pos (j - base).toNat
          rcases Nat.eq_zero_or_pos n with h | h
          · exact h
          · have := Nat.mul_pos h this; omega
        · exact p2
      subst q1; subst q2; simp only [Nat.zero_mul] at tri; omega
    omega
  obtain ⟨m', e', h3, h4⟩ := low_write (s := if signed s m (e - base).toNat + signed t n (j - base).toNat = 0 then s && t else decide (signed s m (e - base).toNat + signed t n (j - base).toNat < 0)) hl (by omega) (by omega)
  refine ⟨_, _, m', e', ?_, h3, h4.mono (by omega)⟩
  unfold Format.add
  rw [hx, hy]
  simp only [Datum.sum, hb, Option.map_some]

theorem low_int {K : Int} {s : Bool} {m : Nat} {e : Int} (h : Low K m e) (h0 : 0 ≤ K) : ∃ z, Datum.toInt .zero (.number s m e) = some z ∧ z.natAbs < 2 ^ (K + 1).toNat := by
  refine ⟨_, rfl, ?_⟩
  rw [signed_abs, Nat.pow_zero, Nat.mul_one]
  unfold Toward.cut
  simp only [Bool.toNat_false, Nat.add_zero]
  have hn : m <<< e.toNat < 2 ^ (K + 1).toNat * 2 ^ (-e).toNat := by
    rw [Nat.shiftLeft_eq]
    rcases Nat.eq_zero_or_pos m with hm | hm
    · subst hm; rw [Nat.zero_mul]; exact Nat.mul_pos (Nat.two_pow_pos _) (Nat.two_pow_pos _)
    have a : e + (m.log2 : Int) ≤ K := by rcases h with h | h; omega; exact h
    have h2 : m < 2 ^ (m.log2 + 1) := Nat.lt_log2_self
    calc m * 2 ^ e.toNat < 2 ^ (m.log2 + 1) * 2 ^ e.toNat := Nat.mul_lt_mul_of_pos_right h2 (Nat.two_pow_pos _)
      _ = 2 ^ (m.log2 + 1 + e.toNat) := by rw [← Nat.pow_add]
      _ ≤ 2 ^ ((K + 1).toNat + (-e).toNat) := Nat.pow_le_pow_right (by omega) (by omega)
      _ = _ := by rw [Nat.pow_add]
  generalize m <<< e.toNat = n at *
  rw [Nat.shiftLeft_eq, Nat.one_mul]
  rcases Nat.le_total (-e).toNat (n.log2 + 2) with hd | hd
  · rw [Nat.min_eq_left hd]
    exact (Nat.div_lt_iff_lt_mul (Nat.two_pow_pos _)).2 hn
  · rw [Nat.min_eq_right hd]
    have : n < 2 ^ (n.log2 + 2) := Nat.lt_of_lt_of_le Nat.lt_log2_self (Nat.pow_le_pow_right (by omega) (by omega))
    rw [Nat.div_eq_of_lt this]; exact Nat.two_pow_pos _


/-- Below a number that is no zero, and not below nought. -/
theorem low_order {x y : Nat} {m n : Nat} {e j : Int} (hx : Format.read double x = .number false m e) (hy : Format.read double y = .number false n j) (h : Format.order double x y = some .lt) : Low (j + (n.log2 : Int)) m e := by
  unfold Format.order at h
  rw [hx, hy] at h
  simp only [Datum.order, signed, Bool.false_eq_true, if_false, Option.some.injEq] at h
  rcases Nat.eq_zero_or_pos m with hm | hm
  · exact .inl hm
  right
  generalize hb : min e j = base at h
  rw [Nat.shiftLeft_eq, Nat.shiftLeft_eq] at h
  have hlt : m * 2 ^ (e - base).toNat < n * 2 ^ (j - base).toNat := by
    have hi : ((m * 2 ^ (e - base).toNat : Nat) : Int) < ((n * 2 ^ (j - base).toNat : Nat) : Int) := by
      apply Classical.byContradiction
      intro hc
      simp only [compare, compareOfLessAndEq, if_neg hc] at h
      split at h <;> cases h
    omega
  have h1 : 2 ^ m.log2 ≤ m := Nat.log2_self_le (by omega)
  have h2 : n < 2 ^ (n.log2 + 1) := Nat.lt_log2_self
  have h3 : 2 ^ (m.log2 + (e - base).toNat) < 2 ^ (n.log2 + 1 + (j - base).toNat) := by
    calc 2 ^ (m.log2 + (e - base).toNat) = 2 ^ m.log2 * 2 ^ (e - base).toNat := by rw [Nat.pow_add]
      _ ≤ m * 2 ^ (e - base).toNat := Nat.mul_le_mul_right _ h1
      _ < n * 2 ^ (j - base).toNat := hlt
      _ ≤ 2 ^ (n.log2 + 1) * 2 ^ (j - base).toNat := Nat.mul_le_mul_right _ (Nat.le_of_lt h2)
      _ = 2 ^ (n.log2 + 1 + (j - base).toNat) := (Nat.pow_add 2 (n.log2 + 1) (j - base).toNat).symm
  have h4 := (Nat.pow_lt_pow_iff_right (a := 2) (by omega)).1 h3
  omega

theorem read_e9 : Format.read double 4741671816366391296 = .number false 8388608000000000 (-23) := by decide
theorem read_e6 : Format.read double 4696837146684686336 = .number false 8589934592000000 (-33) := by decide
theorem read_half : Format.read double 4602678819172646912 = .number false 4503599627370496 (-53) := by decide

theorem read_zero : Format.read double 0 = .number false 0 (-1074) := by decide

theorem read_neg {b : Nat} (hb : b < 2 ^ 64) : Format.read double (b ^^^ 2 ^ 63) = (Format.read double b).opposite := by
  have h1 : (b ^^^ 2 ^ 63) % 2 ^ 63 = b % 2 ^ 63 := by rw [Nat.xor_mod_two_pow]; simp
  have h2 : (b ^^^ 2 ^ 63) / 2 ^ 63 = (b / 2 ^ 63) ^^^ 1 := by rw [Nat.xor_div_two_pow]
  have hsw : Format.signWeight double = 2 ^ 63 := rfl
  have hneg : ((b ^^^ 2 ^ 63) / 2 ^ 63 % 2 == 1) = !(b / 2 ^ 63 % 2 == 1) := by
    rw [h2]
    have hq : b / 2 ^ 63 = 0 ∨ b / 2 ^ 63 = 1 := by omega
    rcases hq with hq | hq <;> rw [hq] <;> rfl
  unfold Format.read
  simp only [hsw, h1, hneg]
  split
  · rfl
  · split
    · rfl
    · split <;> rfl

theorem told_ok {a : Nat} (h : Format.order double a 4741671816366391296 = some .lt) (hs : ∀ m e, Format.read double a = .number true m e → m = 0) (hi : Format.read double a ≠ .infinity true) :
    ∃ r1 r2 z, Format.mul double a 4696837146684686336 = some r1 ∧ Format.add double r1 4602678819172646912 = some r2 ∧ (Format.read double r2).toInt .zero = some z ∧ z.natAbs < 2 ^ 60 := by
  have key : ∃ s m e, Format.read double a = .number s m e ∧ Low 29 m e := by
    cases hr : Format.read double a with
    | nan s t => unfold Format.order at h; rw [hr] at h; simp [Datum.order] at h
    | infinity s =>
      unfold Format.order at h
      rw [hr, read_e9] at h
      cases s
      · simp [Datum.order] at h
      · exact absurd hr hi
    | number s m e =>
      refine ⟨s, m, e, rfl, ?_⟩
      cases s with
      | true => exact .inl (hs m e hr)
      | false =>
        have := low_order hr read_e9 h
        exact this.mono (by decide)
  obtain ⟨s, m, e, h1, h2⟩ := key
  obtain ⟨r1, m1, e1, a1, a2, a3⟩ := low_mul h1 read_e6 h2 (L := 20) (.inr (by decide)) (by omega) (by omega)
  obtain ⟨r2, s2, m2, e2, b1, b2, b3⟩ := low_add a2 read_half (a3.mono (by omega : _ ≤ (52 : Int))) (.inr (by decide)) (by omega) (by omega)
  obtain ⟨z, c1, c2⟩ := low_int (s := s2) b3 (by omega)
  refine ⟨r1, r2, z, a1, b1, by rw [b2]; exact c1, Nat.lt_of_lt_of_le c2 (Nat.pow_le_pow_right (by omega) (by omega))⟩

theorem div_ok (k : Int) (hk : k.natAbs < 2 ^ 64) : ∃ q, Format.div double (FloatKind.nearest .f64 k) 4696837146684686336 = some q := by
  have hl : Low 64 k.natAbs 0 := by
    rcases Nat.eq_zero_or_pos k.natAbs with h | h
    · exact .inl h
    · have := (Nat.log2_lt (by omega)).2 hk
      exact .inr (by omega)
  obtain ⟨m, e, h1, h2⟩ := low_write (s := decide (k < 0)) hl (by omega) (by omega)
  have hd : ∃ d, Datum.quotient (double.fractionBits + 2) (Format.read double (Format.write double (.number (decide (k < 0)) k.natAbs 0))) (Format.read double 4696837146684686336) = some d := by
    rw [h1, read_e6]
    exact ⟨_, rfl⟩
  obtain ⟨d, hd⟩ := hd
  refine ⟨Format.write double d, ?_⟩
  show (Datum.quotient (double.fractionBits + 2) (Format.read double (Format.write double (.number (decide (k < 0)) k.natAbs 0))) (Format.read double 4696837146684686336)).map _ = _
  rw [hd]; rfl

/-- What stands ahead of nought, turned round, or what does not: no infinite one below nought, and none below it. -/
theorem pos_ok {b : Nat} (h : Format.order double b 0 ≠ some .lt) : (∀ m e, Format.read double b = .number true m e → m = 0) ∧ Format.read double b ≠ .infinity true := by
  unfold Format.order at h
  rw [read_zero] at h
  constructor
  · intro m e hr
    rw [hr] at h
    apply Classical.byContradiction
    intro hm
    apply h
    simp only [Datum.order, signed, Option.some.injEq]
    simp only [if_true, Bool.false_eq_true, if_false, Nat.zero_shiftLeft, Nat.shiftLeft_eq]
    have hp : 0 < m * 2 ^ (e - min e (-1074)).toNat := Nat.mul_pos (by omega) (Nat.two_pow_pos _)
    simp only [compare, compareOfLessAndEq]
    rw [if_pos (by omega)]
  · intro hr
    rw [hr] at h
    exact h rfl

theorem neg_ok {b : Nat} (hb : b < 2 ^ 64) (h : Format.order double b 0 = some .lt) (h9 : Format.order double (b ^^^ 2 ^ 63) 4741671816366391296 = some .lt) :
    (∀ m e, Format.read double (b ^^^ 2 ^ 63) = .number true m e → m = 0) ∧ Format.read double (b ^^^ 2 ^ 63) ≠ .infinity true := by
  have hn := read_neg hb
  unfold Format.order at h
  rw [read_zero] at h
  constructor
  · intro m e hr
    rw [hn] at hr
    cases hrb : Format.read double b with
    | nan s t => rw [hrb] at hr; cases hr
    | infinity s => rw [hrb] at hr; cases hr
    | number s m' e' =>
      rw [hrb] at hr h
      simp only [Datum.opposite, Datum.number.injEq, Bool.not_eq_true'] at hr
      obtain ⟨rfl, rfl, rfl⟩ := hr
      exfalso
      simp only [Datum.order, signed, Bool.false_eq_true, if_false, Option.some.injEq, Nat.zero_shiftLeft] at h
      generalize m' <<< (e' - min e' (-1074)).toNat = q at h
      simp only [compare, compareOfLessAndEq] at h
      rw [if_neg (by omega)] at h
      split at h <;> cases h
  · intro hr
    rw [hn] at hr
    cases hrb : Format.read double b with
    | nan s t => rw [hrb] at hr; cases hr
    | number s m' e' => rw [hrb] at hr; cases hr
    | infinity s =>
      rw [hrb] at hr h
      cases s
      · cases h
      · cases hr

end Go.AM

/- Lists of lists, that a function makes for itself. -/
namespace Go.AM
open Go.RowKit

variable {α : Type}

/-- A slice from an object's beginning, or nil. -/
def sl (y : Nat) : Nat → Value
  | 0 => .slice none 0 0
  | m + 1 => .slice (some ⟨y, 0, none⟩) (m + 1 : Nat) (m + 1 : Nat)

theorem sl_zero (y : Nat) : sl y 0 = .slice none 0 0 := rfl
theorem sl_pos {y m : Nat} (h : m ≠ 0) : sl y m = .slice (some ⟨y, 0, none⟩) m m := by
  cases m with
  | zero => exact absurd rfl h
  | succ m => rfl

def slp (y : Nat) : Nat → Option Addr
  | 0 => none
  | _ + 1 => some ⟨y, 0, none⟩
theorem sl_eq (y m : Nat) : sl y m = .slice (slp y m) m m := by cases m <;> rfl
theorem slp_pos {y m : Nat} (h : m ≠ 0) : slp y m = some ⟨y, 0, none⟩ := by
  cases m with
  | zero => exact absurd rfl h
  | succ m => rfl

def llcells (ys : Nat → Nat) (ls : List (List α)) : List Value := ls.mapIdx fun v l => sl (ys v) l.length

theorem llcells_length (ys : Nat → Nat) (ls : List (List α)) : (llcells ys ls).length = ls.length := by simp [llcells]
theorem llcells_at (ys : Nat → Nat) {ls : List (List α)} {v : Nat} (h : v < ls.length) : (llcells ys ls)[v]? = some (sl (ys v) ls[v].length) := by
  simp [llcells, h]

def upd (ys : Nat → Nat) (v y : Nat) : Nat → Nat := fun u => if u = v then y else ys u
theorem upd_at (ys : Nat → Nat) (v y : Nat) : upd ys v y v = y := by simp [upd]
theorem upd_ne (ys : Nat → Nat) (v y : Nat) {u : Nat} (h : u ≠ v) : upd ys v y u = ys u := by simp [upd, h]

theorem llcells_set (ys : Nat → Nat) (ls : List (List α)) (v y : Nat) (l : List α) : llcells (upd ys v y) (ls.set v l) = (llcells ys ls).set v (sl y l.length) := by
  apply List.ext_getElem?
  intro i
  simp only [llcells, List.getElem?_mapIdx, List.getElem?_set, List.length_mapIdx]
  by_cases hv : v = i
  · subst hv
    by_cases hl : v < ls.length <;> simp [hl, upd_at]
  · simp only [if_neg hv]
    cases ls[i]? with
    | none => rfl
    | some l' => simp [upd_ne ys v y (Ne.symm hv)]

theorem llcells_push (ys : Nat → Nat) (ls : List (List α)) (y : Nat) (l : List α) : llcells (upd ys ls.length y) (ls ++ [l]) = llcells ys ls ++ [sl y l.length] := by
  apply List.ext_getElem?
  intro i
  simp only [llcells, List.getElem?_mapIdx, List.getElem?_append, List.length_mapIdx]
  by_cases hi : i < ls.length
  · simp [hi, upd_ne ys ls.length y (show i ≠ ls.length by omega)]
  · simp only [if_neg hi]
    by_cases h0 : i - ls.length = 0
    · have : i = ls.length := by omega
      subst this; simp [upd_at]
    · obtain ⟨q, hq⟩ : ∃ q, i - ls.length = q + 1 := ⟨i - ls.length - 1, by omega⟩
      simp [hq]

/-- A list of lists, each in an object of its own. -/
structure LL (m : Nat) (H : Heap) (x ty ety : Nat) (enc : α → List Value) (ls : List (List α)) (ys : Nat → Nat) : Prop where
  hx : H x = .cells (llcells ys ls) ty true
  hy : ∀ v (h : v < ls.length), ls[v] ≠ [] → H (ys v) = .cells (ls[v].flatMap enc) ety true
  inj : ∀ u v (hu : u < ls.length) (hv : v < ls.length), ls[u] ≠ [] → ls[v] ≠ [] → ys u = ys v → u = v
  fy : ∀ v (h : v < ls.length), ls[v] ≠ [] → m ≤ ys v
  ne : ∀ v (h : v < ls.length), ls[v] ≠ [] → ys v ≠ x

section
variable {m n n' x ty ety : Nat} {H H' : Heap} {enc : α → List Value} {ls : List (List α)} {ys : Nat → Nat}

theorem LL.keep (h : LL m H x ty ety enc ls ys) (hk : ∀ z, z = x ∨ m ≤ z → H z ≠ .dead → H' z = H z) : LL m H' x ty ety enc ls ys :=
  ⟨by rw [hk x (.inl rfl) (by rw [h.hx]; intro e; cases e), h.hx], fun v hv hn => by rw [hk _ (.inr (h.fy v hv hn)) (by rw [h.hy v hv hn]; intro e; cases e), h.hy v hv hn], h.inj, h.fy, h.ne⟩

theorem live_lt (hw : WF n H) {z : Nat} (h : H z ≠ .dead) : z < n := by
  apply Classical.byContradiction
  intro hc
  exact h (hw z (by omega))

theorem live_of {z : Nat} {cs : List Value} {t : TypeId} {own : Bool} (h : H z = .cells cs t own) : H z ≠ .dead := by rw [h]; intro e; cases e

theorem LL.kp (h : LL m H x ty ety enc ls ys) (hw : WF n H) (hk : Kp n H n' H') : LL m H' x ty ety enc ls ys := h.keep fun z _ hz => hk.keep z (live_lt hw hz)
theorem LL.ltx (h : LL m H x ty ety enc ls ys) (hw : WF n H) : x < n := live_lt hw (live_of h.hx)
theorem LL.lty (h : LL m H x ty ety enc ls ys) (hw : WF n H) {v : Nat} (hv : v < ls.length) (hn : ls[v] ≠ []) : ys v < n := live_lt hw (live_of (h.hy v hv hn))
theorem LL.at (h : LL m H x ty ety enc ls ys) {v : Nat} (hv : v < ls.length) : (llcells ys ls)[v]? = some (sl (ys v) ls[v].length) := llcells_at ys hv

/-- One list is put into another object; the object that it was in may be gone. -/
theorem LL.put (h : LL m H x ty ety enc ls ys) {v y : Nat} {l : List α} (hy : l ≠ [] → H' y = .cells (l.flatMap enc) ety true) (hm : l ≠ [] → m ≤ y) (hyx : y ≠ x)
    (hx : H' x = .cells ((llcells ys ls).set v (sl y l.length)) ty true) (hnew : ∀ u (hu : u < ls.length), u ≠ v → ls[u] ≠ [] → ys u ≠ y)
    (hk : ∀ u (hu : u < ls.length), u ≠ v → ls[u] ≠ [] → H' (ys u) = H (ys u)) : LL m H' x ty ety enc (ls.set v l) (upd ys v y) := by
  have key : ∀ u (hu : u < (ls.set v l).length), u ≠ v → ∃ hu' : u < ls.length, (ls.set v l)[u] = ls[u] := fun u hu hne => ⟨by simpa using hu, by rw [List.getElem_set_ne (Ne.symm hne)]⟩
  refine ⟨by rw [hx, llcells_set], fun u hu hn => ?_, fun u w hu hw hn hn' e => ?_, fun u hu hn => ?_, fun u hu hn => ?_⟩
  · by_cases e : u = v
    · subst e
      simp only [List.getElem_set_self] at hn ⊢
      rw [upd_at]; exact hy hn
    · obtain ⟨hu', e'⟩ := key u hu e
      rw [e'] at hn ⊢
      rw [upd_ne _ _ _ e, hk u hu' e hn]
      exact h.hy u hu' hn
  · by_cases e1 : u = v
    · by_cases e2 : w = v
      · omega
      · exfalso
        obtain ⟨hw', e'⟩ := key w hw e2
        rw [e'] at hn'
        rw [e1, upd_at, upd_ne _ _ _ e2] at e
        exact hnew w hw' e2 hn' e.symm
    · obtain ⟨hu', e'⟩ := key u hu e1
      rw [e'] at hn
      by_cases e2 : w = v
      · exfalso
        rw [e2, upd_at, upd_ne _ _ _ e1] at e
        exact hnew u hu' e1 hn e
      · obtain ⟨hw', e''⟩ := key w hw e2
        rw [e''] at hn'
        rw [upd_ne _ _ _ e1, upd_ne _ _ _ e2] at e
        exact h.inj u w hu' hw' hn hn' e
  · by_cases e : u = v
    · subst e
      simp only [List.getElem_set_self] at hn
      rw [upd_at]; exact hm hn
    · obtain ⟨hu', e'⟩ := key u hu e
      rw [e'] at hn
      rw [upd_ne _ _ _ e]; exact h.fy u hu' hn
  · by_cases e : u = v
    · subst e; rw [upd_at]; exact hyx
    · obtain ⟨hu', e'⟩ := key u hu e
      rw [e'] at hn
      rw [upd_ne _ _ _ e]; exact h.ne u hu' hn

/-- One list more, in a list that is made anew. -/
theorem LL.push (h : ls ≠ [] → LL m H x ty ety enc ls ys) {x' y : Nat} {l : List α} (hy : l ≠ [] → H' y = .cells (l.flatMap enc) ety true) (hm : l ≠ [] → m ≤ y) (hyx : l ≠ [] → y ≠ x')
    (hx : H' x' = .cells (llcells ys ls ++ [sl y l.length]) ty true) (hnew : ∀ u (hu : u < ls.length), ls[u] ≠ [] → ys u ≠ y) (hx' : ∀ u (hu : u < ls.length), ls[u] ≠ [] → ys u ≠ x')
    (hk : ∀ u (hu : u < ls.length), ls[u] ≠ [] → H' (ys u) = H (ys u)) : LL m H' x' ty ety enc (ls ++ [l]) (upd ys ls.length y) := by
  have ne : ∀ u, u < ls.length → ls ≠ [] := fun u hu e => by rw [e] at hu; simp at hu
  have key : ∀ u (hu : u < (ls ++ [l]).length), (∃ h : u < ls.length, (ls ++ [l])[u] = ls[u]) ∨ u = ls.length ∧ (ls ++ [l])[u] = l := by
    intro u hu
    by_cases e : u < ls.length
    · exact .inl ⟨e, List.getElem_append_left e⟩
    · have : u = ls.length := by simp at hu; omega
      subst this
      exact .inr ⟨rfl, by simp⟩
  refine ⟨by rw [hx, llcells_push], fun u hu hn => ?_, fun u w hu hw hn hn' e => ?_, fun u hu hn => ?_, fun u hu hn => ?_⟩
  · rcases key u hu with ⟨h1, e1⟩ | ⟨rfl, e1⟩
    · rw [e1] at hn ⊢
      rw [upd_ne _ _ _ (by omega), hk u h1 hn]
      exact (h (ne u h1)).hy u h1 hn
    · rw [e1] at hn ⊢
      rw [upd_at]; exact hy hn
  · rcases key u hu with ⟨h1, e1⟩ | ⟨rfl, e1⟩ <;> rcases key w hw with ⟨h2, e2⟩ | ⟨rfl, e2⟩
    · rw [e1] at hn; rw [e2] at hn'
      rw [upd_ne _ _ _ (by omega), upd_ne _ _ _ (by omega)] at e
      exact (h (ne u h1)).inj u w h1 h2 hn hn' e
    · rw [e1] at hn
      rw [upd_ne _ _ _ (by omega), upd_at] at e
      exact absurd e (hnew u h1 hn)
    · rw [e2] at hn'
      rw [upd_at, upd_ne _ _ _ (by omega)] at e
      exact absurd e.symm (hnew w h2 hn')
    · rfl
  · rcases key u hu with ⟨h1, e1⟩ | ⟨rfl, e1⟩
    · rw [e1] at hn
      rw [upd_ne _ _ _ (by omega)]; exact (h (ne u h1)).fy u h1 hn
    · rw [e1] at hn
      rw [upd_at]; exact hm hn
  · rcases key u hu with ⟨h1, e1⟩ | ⟨rfl, e1⟩
    · rw [e1] at hn
      rw [upd_ne _ _ _ (by omega)]; exact hx' u h1 hn
    · rw [e1] at hn
      rw [upd_at]; exact hyx hn
end

/-- Nil lists. -/
theorem rep_nil (k : Nat) : rep k [Value.slice none 0 0] = llcells (fun _ => 0) (List.replicate k ([] : List α)) := by
  apply List.ext_getElem?
  intro i
  have e : rep k [Value.slice none 0 0] = List.replicate k (.slice none 0 0) := by
    induction k with
    | zero => rfl
    | succ k ih => rw [List.replicate_succ, ← ih]; rfl
  rw [e, List.getElem?_replicate]
  simp only [llcells, List.getElem?_mapIdx, List.getElem?_replicate]
  split <;> rfl

theorem LL.new {m x ty ety : Nat} {H : Heap} {enc : α → List Value} {k : Nat} (hx : H x = .cells (rep k [Value.slice none 0 0]) ty true) : LL m H x ty ety enc (List.replicate k ([] : List α)) (fun _ => 0) := by
  have key : ∀ v (h : v < (List.replicate k ([] : List α)).length), (List.replicate k ([] : List α))[v] = [] := fun v h => by simp
  exact ⟨by rw [hx, rep_nil], fun v h hn => absurd (key v h) hn, fun u v hu hv hn => absurd (key u hu) hn, fun v h hn => absurd (key v h) hn, fun v h hn => absurd (key v h) hn⟩

end Go.AM

/- What layers 9 and 11 tell, plainly: which variables vanish, which ones may stand first. -/
namespace Go.AM

/-- Variables that vanish. -/
inductive Nul (g : Gram) : Int → Prop
  | mk (i : Nat) (h : i < g.rules.length) (h0 : ∀ s ∈ g.rules[i].right, 0 ≤ s) (h1 : ∀ s ∈ g.rules[i].right, Nul g s) : Nul g g.rules[i].left

/-- Variables that become words. -/
inductive Prd (g : Gram) : Int → Prop
  | mk (i : Nat) (h : i < g.rules.length) (h1 : ∀ s ∈ g.rules[i].right, 0 ≤ s → Prd g s) : Prd g g.rules[i].left

/-- What finding by rounds comes to. -/
inductive Der (rb : GRule → List Bool → Bool) (rules : List GRule) (hs : List Bool) : List Bool → Prop
  | refl : Der rb rules hs hs
  | step {h1 : List Bool} (d : Der rb rules hs h1) (r : GRule) (hr : r ∈ rules) (hb : rb r h1 = true) : Der rb rules hs (h1.set r.left.toNat true)

theorem Der.length {rb : GRule → List Bool → Bool} {rules : List GRule} {hs h1 : List Bool} (d : Der rb rules hs h1) : h1.length = hs.length := by
  induction d with
  | refl => rfl
  | step d r hr hb ih => rw [List.length_set, ih]

/-- Do all symbols vanish? -/
def nulB (right : List Int) (hs : List Bool) : Bool := right.all fun s => decide (0 ≤ s) && hs.getD s.toNat false
def prdB (right : List Int) (hs : List Bool) : Bool := right.all fun s => decide (s < 0) || hs.getD s.toNat false

/-- Variables of rules are variables. -/
structure InG (g : Gram) : Prop where
  left0 : ∀ r ∈ g.rules, 0 ≤ r.left
  left1 : ∀ r ∈ g.rules, r.left < g.vars.length
  right : ∀ r ∈ g.rules, ∀ s ∈ r.right, s < g.vars.length
  rightT : ∀ r ∈ g.rules, ∀ s ∈ r.right, s < 0 → -s - 1 < g.terms.length

def hold (hs : List Bool) (v : Int) : Prop := 0 ≤ v ∧ hs.getD v.toNat false = true

theorem hold_set {hs : List Bool} {w v : Int} (hw : 0 ≤ w) (h : hold (hs.set w.toNat true) v) : hold hs v ∨ v = w := by
  obtain ⟨h0, h⟩ := h
  rw [List.getD_eq_getElem?_getD, List.getElem?_set] at h
  by_cases e : w.toNat = v.toNat
  · exact .inr (by omega)
  · rw [if_neg e] at h
    exact .inl ⟨h0, by rwa [List.getD_eq_getElem?_getD]⟩

theorem nulB_hold {right : List Int} {hs : List Bool} : nulB right hs = true ↔ ∀ s ∈ right, hold hs s := by
  unfold nulB hold
  rw [List.all_eq_true]
  simp
theorem prdB_hold {right : List Int} {hs : List Bool} : prdB right hs = true ↔ ∀ s ∈ right, 0 ≤ s → hold hs s := by
  unfold prdB hold
  rw [List.all_eq_true]
  constructor
  · intro h s hs h0
    have := h s hs
    simp at this
    exact ⟨h0, by rcases this with h | h; omega; simpa using h⟩
  · intro h s hs
    rcases Int.lt_or_le s 0 with h0 | h0
    · simp [h0]
    · have := (h s hs h0).2
      simp at this
      simp [this]

theorem der_nul {g : Gram} (hg : InG g) {n : Nat} {hs : List Bool} (d : Der (fun r => nulB r.right) g.rules (List.replicate n false) hs) : ∀ v, hold hs v → Nul g v := by
  induction d with
  | refl =>
    intro v h
    exfalso
    have := h.2
    rw [List.getD_eq_getElem?_getD, List.getElem?_replicate] at this
    split at this <;> simp at this
  | step d r hr hb ih =>
    intro v h
    rcases hold_set (hg.left0 r hr) h with h | rfl
    · exact ih v h
    · obtain ⟨i, hi, rfl⟩ := List.getElem_of_mem hr
      exact .mk i hi (fun s hs => ((nulB_hold.1 hb) s hs).1) (fun s hs => ih s ((nulB_hold.1 hb) s hs))

theorem closed_nul {g : Gram} (hg : InG g) {hs : List Bool} (hc : ∀ r ∈ g.rules, hs.getD r.left.toNat false = true ∨ nulB r.right hs = false) : ∀ v, Nul g v → hold hs v := by
  intro v h
  induction h with
  | mk i h h0 h1 ih =>
    have hm := List.getElem_mem h
    rcases hc _ hm with e | e
    · exact ⟨hg.left0 _ hm, e⟩
    · rw [nulB_hold.2 fun s hs => ih s hs] at e; cases e

theorem der_prd {g : Gram} (hg : InG g) {n : Nat} {hs : List Bool} (d : Der (fun r => prdB r.right) g.rules (List.replicate n false) hs) : ∀ v, hold hs v → Prd g v := by
  induction d with
  | refl =>
    intro v h
    exfalso
    have := h.2
    rw [List.getD_eq_getElem?_getD, List.getElem?_replicate] at this
    split at this <;> simp at this
  | step d r hr hb ih =>
    intro v h
    rcases hold_set (hg.left0 r hr) h with h | rfl
    · exact ih v h
    · obtain ⟨i, hi, rfl⟩ := List.getElem_of_mem hr
      exact .mk i hi (fun s hs h0 => ih s ((prdB_hold.1 hb) s hs h0))

theorem closed_prd {g : Gram} (hg : InG g) {hs : List Bool} (hc : ∀ r ∈ g.rules, hs.getD r.left.toNat false = true ∨ prdB r.right hs = false) : ∀ v, Prd g v → hold hs v := by
  intro v h
  induction h with
  | mk i h h1 ih =>
    have hm := List.getElem_mem h
    rcases hc _ hm with e | e
    · exact ⟨hg.left0 _ hm, e⟩
    · rw [prdB_hold.2 fun s hs h0 => ih s hs h0] at e; cases e

/-- A step from a variable to one that may stand first then. -/
structure Edg (g : Gram) (v : Int) (i at_ : Nat) (u : Int) : Prop where
  hi : i < g.rules.length
  left : g.rules[i].left = v
  hat : g.rules[i].right[at_]? = some u
  u0 : 0 ≤ u
  nul : ∀ q, q < at_ → ∀ s, g.rules[i].right[q]? = some s → Nul g s

def Beg (g : Gram) (v u : Int) : Prop := ∃ i at_, Edg g v i at_ u

/-- One step or more. -/
inductive Rch (g : Gram) (v : Int) : Int → Prop
  | one {u : Int} (h : Beg g v u) : Rch g v u
  | more {u w : Int} (h : Rch g v u) (k : Beg g u w) : Rch g v w

theorem Rch.trans {g : Gram} {u v w : Int} (a : Rch g u v) (b : Rch g v w) : Rch g u w := by
  induction b with
  | one h => exact a.more h
  | more h k ih => exact ih.more k

theorem Edg.right {g : Gram} {v u : Int} {i at_ : Nat} (h : Edg g v i at_ u) (hg : InG g) : u < g.vars.length :=
  hg.right _ (List.getElem_mem h.hi) _ (List.mem_of_getElem? h.hat)

end Go.AM

/- Finding what can be reached, by a list of what is to be done: plainly. -/
namespace Go.AM

/-- A row tells what can be reached. -/
structure GoodRow (g : Gram) (v : Nat) (r : List Bool) : Prop where
  len : r.length = g.vars.length
  mem : ∀ u : Nat, r[u]? = some true ↔ Rch g v u

/-- What holds midway: `busy` is what is being done. -/
structure Work (g : Gram) (v : Nat) (r : List Bool) (todo : List Nat) (busy : Nat → Prop) : Prop where
  sound : ∀ u : Nat, r[u]? = some true → Rch g v u
  known : ∀ u, u ∈ todo → u = v ∨ r[u]? = some true
  closed : ∀ u : Nat, u = v ∨ r[u]? = some true → u ∈ todo ∨ busy u ∨ ∀ w : Nat, Beg g u w → r[w]? = some true

theorem Work.start (g : Gram) (v k : Nat) : Work g v (List.replicate k false) [v] (fun _ => False) := by
  have h0 : ∀ u : Nat, (List.replicate k false)[u]? ≠ some true := by
    intro u h
    rw [List.getElem?_replicate] at h
    split at h <;> simp at h
  refine ⟨fun u h => absurd h (h0 u), fun u h => .inl (by simpa using h), fun u h => ?_⟩
  rcases h with h | h
  · exact .inl (by simp [h])
  · exact absurd h (h0 u)

theorem Work.pop {g : Gram} {v : Nat} {r : List Bool} {todo : List Nat} {u : Nat} (h : Work g v r (todo ++ [u]) (fun _ => False)) : Work g v r todo (fun w => w = u) := by
  refine ⟨h.sound, fun w hw => h.known w (by simp [hw]), fun w hw => ?_⟩
  rcases h.closed w hw with h1 | h1 | h1
  · simp at h1
    rcases h1 with h1 | h1
    · exact .inl h1
    · exact .inr (.inl h1)
  · exact h1.elim
  · exact .inr (.inr h1)

theorem Work.push {g : Gram} {v : Nat} {r : List Bool} {todo : List Nat} {u w : Nat} (h : Work g v r todo (fun w => w = u)) (hu : u = v ∨ r[u]? = some true) (hb : Beg g u w) (hw : w < r.length) : Work g v (r.set w true) (todo ++ [w]) (fun w => w = u) := by
  have up : ∀ x : Nat, r[x]? = some true → (r.set w true)[x]? = some true := by
    intro x hx
    rw [List.getElem?_set]
    split
    · rename_i e; subst e; simp [hw]
    · exact hx
  have dn : ∀ x : Nat, (r.set w true)[x]? = some true → x = w ∨ r[x]? = some true := by
    intro x hx
    rw [List.getElem?_set] at hx
    split at hx
    · rename_i e; exact .inl e.symm
    · exact .inr hx
  have hrw : Rch g v w := by
    rcases hu with e | e
    · subst e; exact .one hb
    · exact (h.sound u e).more hb
  refine ⟨fun x hx => ?_, fun x hx => ?_, fun x hx => ?_⟩
  · rcases dn x hx with e | e
    · subst e; exact hrw
    · exact h.sound x e
  · simp at hx
    rcases hx with hx | hx
    · rcases h.known x hx with e | e
      · exact .inl e
      · exact .inr (up x e)
    · subst hx
      exact .inr (by rw [List.getElem?_set]; simp [hw])
  · by_cases e : x = w
    · exact .inl (by simp [e])
    · have hx' : x = v ∨ r[x]? = some true := by
        rcases hx with hx | hx
        · exact .inl hx
        · rcases dn x hx with h1 | h1
          · exact absurd h1 e
          · exact .inr h1
      rcases h.closed x hx' with h1 | h1 | h1
      · exact .inl (by simp [h1])
      · exact .inr (.inl h1)
      · exact .inr (.inr fun y hy => up y (h1 y hy))

theorem Work.done {g : Gram} {v : Nat} {r : List Bool} {todo : List Nat} {u : Nat} (h : Work g v r todo (fun w => w = u)) (ha : ∀ w : Nat, Beg g u w → r[w]? = some true) : Work g v r todo (fun _ => False) := by
  refine ⟨h.sound, h.known, fun w hw => ?_⟩
  rcases h.closed w hw with h1 | h1 | h1
  · exact .inl h1
  · subst h1; exact .inr (.inr ha)
  · exact .inr (.inr h1)

theorem Beg.nat {g : Gram} {v u : Int} (h : Beg g v u) : 0 ≤ u := by
  obtain ⟨i, a, h⟩ := h
  exact h.u0

theorem Beg.lt {g : Gram} (hg : InG g) {v u : Int} (h : Beg g v u) : u < g.vars.length := by
  obtain ⟨i, a, h⟩ := h
  exact h.right hg

theorem Work.good {g : Gram} {v : Nat} {r : List Bool} (h : Work g v r [] (fun _ => False)) (hl : r.length = g.vars.length) : GoodRow g v r := by
  refine ⟨hl, fun u => ⟨h.sound u, fun hr => ?_⟩⟩
  have cl : ∀ u : Nat, u = v ∨ r[u]? = some true → ∀ w : Nat, Beg g u w → r[w]? = some true := by
    intro u hu
    rcases h.closed u hu with h1 | h1 | h1
    · simp at h1
    · exact h1.elim
    · exact h1
  have key : ∀ x : Int, Rch g v x → ∀ u : Nat, x = u → r[u]? = some true := by
    intro x hx
    induction hx with
    | one hb => intro u e; subst e; exact cl v (.inl rfl) u hb
    | @more y z hy hb ih =>
      intro u e; subst e
      have hy0 : 0 ≤ y := by
        cases hy with
        | one h => exact h.nat
        | more _ h => exact h.nat
      obtain ⟨q, rfl⟩ : ∃ q : Nat, y = q := ⟨y.toNat, by omega⟩
      exact cl q (.inr (ih q rfl)) u hb
  exact key u hr u rfl

theorem count_false_le (r : List Bool) : r.count false ≤ r.length := List.count_le_length

end Go.AM

/- Finding by rounds that all go through the same state: plainly. -/
namespace Go.AM

/-- What a round makes of a row. -/
structure RoundTo (rb : GRule → List Bool → Bool) (rules : List GRule) (k : Nat) (hs nx : List Bool) : Prop where
  len : nx.length = hs.length
  mem : ∀ v : Nat, v < hs.length → (nx.getD v false = true ↔ hs.getD v false = true ∨ ∃ i, ∃ h : i < rules.length, i < k ∧ rules[i].left = v ∧ rb rules[i] hs = true)

def ClosedR (rb : GRule → List Bool → Bool) (rules : List GRule) (hs : List Bool) : Prop := ∀ r ∈ rules, hs.getD r.left.toNat false = true ∨ rb r hs = false

theorem RoundTo.start (rb : GRule → List Bool → Bool) (rules : List GRule) (hs : List Bool) : RoundTo rb rules 0 hs hs := by
  refine ⟨rfl, fun v hv => ⟨.inl, ?_⟩⟩
  rintro (h | ⟨i, _, h, _⟩)
  · exact h
  · omega

theorem RoundTo.skip {rb : GRule → List Bool → Bool} {rules : List GRule} {k : Nat} {hs nx : List Bool} (h : RoundTo rb rules k hs nx) (hk : k < rules.length) (hb : rb rules[k] hs = false) : RoundTo rb rules (k + 1) hs nx := by
  refine ⟨h.len, fun v hv => (h.mem v hv).trans ?_⟩
  constructor
  · rintro (e | ⟨i, h1, h2, h3⟩)
    · exact .inl e
    · exact .inr ⟨i, h1, by omega, h3⟩
  · rintro (e | ⟨i, h1, h2, h3, h4⟩)
    · exact .inl e
    · by_cases e : i = k
      · subst e; rw [hb] at h4; cases h4
      · exact .inr ⟨i, h1, by omega, h3, h4⟩

theorem RoundTo.take {rb : GRule → List Bool → Bool} {rules : List GRule} {k l : Nat} {hs nx : List Bool} (h : RoundTo rb rules k hs nx) (hk : k < rules.length) (hl : rules[k].left = l) (hll : l < hs.length) (hb : rb rules[k] hs = true) : RoundTo rb rules (k + 1) hs (nx.set l true) := by
  refine ⟨by rw [List.length_set, h.len], fun v hv => ?_⟩
  have hvn : v < nx.length := by rw [h.len]; exact hv
  rw [List.getD_eq_getElem?_getD, List.getElem?_set]
  by_cases e : l = v
  · subst e
    simp [hvn]
    exact .inr ⟨k, by omega, hk, hl, hb⟩
  · rw [if_neg e, ← List.getD_eq_getElem?_getD, h.mem v hv]
    constructor
    · rintro (e | ⟨i, h1, h2, h3⟩)
      · exact .inl e
      · exact .inr ⟨i, h1, by omega, h3⟩
    · rintro (e' | ⟨i, h1, h2, h3, h4⟩)
      · exact .inl e'
      · by_cases e2 : i = k
        · subst e2
          rw [hl] at h3
          exact absurd (by omega) e
        · exact .inr ⟨i, h1, by omega, h3, h4⟩

theorem count_le_of {hs nx : List Bool} (hl : nx.length = hs.length) (h : ∀ v, v < hs.length → hs.getD v false = true → nx.getD v false = true) : hs.count true ≤ nx.count true := by
  induction hs generalizing nx with
  | nil => simp
  | cons a hs ih =>
    match nx, hl with
    | b :: nx, hl =>
      have h0 := h 0 (by simp)
      have h1 := ih (nx := nx) (by simpa using hl) (fun v hv e => by
        have := h (v + 1) (by simpa using hv) (by simpa using e)
        simpa using this)
      simp at h0
      cases a <;> cases b <;> simp_all <;> omega

theorem count_lt_of {hs nx : List Bool} (hl : nx.length = hs.length) (h : ∀ v, v < hs.length → hs.getD v false = true → nx.getD v false = true) {w : Nat} (hw : w < hs.length) (h1 : hs.getD w false = false) (h2 : nx.getD w false = true) : hs.count true < nx.count true := by
  induction hs generalizing nx w with
  | nil => simp at hw
  | cons a hs ih =>
    match nx, hl with
    | b :: nx, hl =>
      have h0 := h 0 (by simp)
      have hr : ∀ v, v < hs.length → hs.getD v false = true → nx.getD v false = true := fun v hv e => by
        have := h (v + 1) (by simpa using hv) (by simpa using e)
        simpa using this
      cases w with
      | zero =>
        simp at h1 h2
        subst h1 h2
        have := count_le_of (by simpa using hl) hr
        simp; omega
      | succ w =>
        have := ih (nx := nx) (w := w) (by simpa using hl) hr (by simpa using hw) (by simpa using h1) (by simpa using h2)
        simp at h0
        cases a <;> cases b <;> simp_all <;> omega

/-- A whole round: either all is found, or one more is. -/
theorem RoundTo.next {rb : GRule → List Bool → Bool} {rules : List GRule} {hs nx : List Bool} {n : Nat} (h : RoundTo rb rules rules.length hs nx) (hleft : ∀ r ∈ rules, 0 ≤ r.left ∧ r.left < hs.length) (hp : ClosedR rb rules hs ∨ n ≤ hs.count true) :
    ClosedR rb rules nx ∨ n + 1 ≤ nx.count true := by
  have up : ∀ v, v < hs.length → hs.getD v false = true → nx.getD v false = true := fun v hv e => (h.mem v hv).2 (.inl e)
  by_cases hc : ClosedR rb rules hs
  · left
    have e : nx = hs := by
      apply List.ext_getElem?
      intro i
      by_cases hi : i < hs.length
      · have hin : i < nx.length := by rw [h.len]; exact hi
        have := h.mem i hi
        rw [List.getElem?_eq_getElem hi, List.getElem?_eq_getElem hin]
        simp only [List.getD_eq_getElem?_getD, List.getElem?_eq_getElem hi, List.getElem?_eq_getElem hin, Option.getD_some] at this
        congr 1
        rw [Bool.eq_iff_iff, this]
        refine ⟨?_, .inl⟩
        rintro (e | ⟨q, h1, _, h3, h4⟩)
        · exact e
        · rcases hc _ (List.getElem_mem h1) with e | e
          · rw [h3] at e
            simpa [hi] using e
          · rw [e] at h4; cases h4
      · rw [List.getElem?_eq_none (l := nx) (by rw [h.len]; omega), List.getElem?_eq_none (l := hs) (by omega)]
    rw [e]; exact hc
  · right
    rcases hp with hp | hp
    · exact absurd hp hc
    · have : ∃ r ∈ rules, hs.getD r.left.toNat false = false ∧ rb r hs = true := by
        apply Classical.byContradiction
        intro hn
        refine hc fun r hr => ?_
        by_cases e1 : hs.getD r.left.toNat false = true
        · exact .inl e1
        · by_cases e2 : rb r hs = true
          · exact absurd ⟨r, hr, by simpa using e1, e2⟩ hn
          · exact .inr (by simpa using e2)
      obtain ⟨r, hr, e1, e2⟩ := this
      obtain ⟨i, hi, rfl⟩ := List.getElem_of_mem hr
      have hl := hleft _ hr
      have hw : rules[i].left.toNat < hs.length := by omega
      have := count_lt_of h.len up hw e1 ((h.mem _ hw).2 (.inr ⟨i, hi, hi, by omega, e2⟩))
      omega

theorem closed_full {rb : GRule → List Bool → Bool} {rules : List GRule} {hs : List Bool} (hleft : ∀ r ∈ rules, 0 ≤ r.left ∧ r.left < hs.length) (hp : ClosedR rb rules hs ∨ hs.length ≤ hs.count true) : ClosedR rb rules hs := by
  rcases hp with h | h
  · exact h
  · intro r hr
    left
    have hl := hleft r hr
    have hall : ∀ b ∈ hs, true = b := List.count_eq_length.1 (Nat.le_antisymm List.count_le_length h)
    have hw : r.left.toNat < hs.length := by omega
    rw [List.getD_eq_getElem?_getD, List.getElem?_eq_getElem hw]
    exact (hall _ (List.getElem_mem hw)).symm

end Go.AM

/- Leftmost derivations, plainly. -/
namespace Go.AM

def neg (s : Int) : Bool := decide (s < 0)

theorem takeWhile_neg {l : List Int} {s : Int} (h : s ∈ l.takeWhile neg) : s < 0 := by
  induction l with
  | nil => simp at h
  | cons a l ih =>
    rw [List.takeWhile_cons] at h
    split at h
    · rename_i ha
      rcases List.mem_cons.1 h with rfl | h
      · simpa [neg] using ha
      · exact ih h
    · simp at h

/-- A form behind a step, and the error's number. -/
def stepS (g : Gram) (form : List Int) (r : Int) : List Int × Nat :=
  if r < 0 ∨ (g.rules.length : Int) ≤ r then ([], 12) else
  match form.dropWhile neg with
  | [] => ([], 13)
  | u :: rest => match g.rules[r.toNat]? with
    | some rule => if rule.left = u then (form.takeWhile neg ++ rule.right ++ rest, 0) else ([], 14)
    | none => ([], 12)

/-- A form behind steps, which one can't be done, and the error's number. -/
def replayS (g : Gram) : List Int → List Int → Nat → List Int × Nat × Nat
  | form, [], _ => (form, 0, 0)
  | form, r :: rest, k => if (stepS g form r).2 = 0 then replayS g (stepS g form r).1 rest (k + 1) else ([], k, (stepS g form r).2)
def replayL (g : Gram) (form rules : List Int) : List Int × Nat × Nat := if 4096 < rules.length then ([], 0, 7) else replayS g form rules 0

theorem stepS_ok {g : Gram} {form form' : List Int} {r : Int} (h : stepS g form r = (form', 0)) : ∃ (i : Nat) (hi : i < g.rules.length) (t rest : List Int), r = i ∧ form = t ++ g.rules[i].left :: rest ∧ form' = t ++ g.rules[i].right ++ rest ∧ (∀ s ∈ t, s < 0) := by
  unfold stepS at h
  split at h
  · simp at h
  · rename_i hr
    split at h
    · simp at h
    · rename_i u rest hd
      split at h
      · rename_i rule hrule
        split at h
        · rename_i hl
          simp at h
          obtain ⟨hi, e⟩ := List.getElem?_eq_some_iff.1 hrule
          refine ⟨r.toNat, hi, form.takeWhile neg, rest, by omega, ?_, ?_, fun s hs => ?_⟩
          · rw [e, hl, ← hd, List.takeWhile_append_dropWhile]
          · rw [← h, e, List.append_assoc]
          · exact takeWhile_neg hs
        · simp at h
      · simp at h

/-- Of all variables that may stand first. -/
def FirstOK (g : Gram) (P : Int → Prop) (form : List Int) : Prop := ∀ (i : Nat) (s : Int), form[i]? = some s → 0 ≤ s → (∀ (q : Nat) (t : Int), q < i → form[q]? = some t → Nul g t) → P s

theorem FirstOK.step {g : Gram} (hg : InG g) {P Q : Int → Prop} {form form' : List Int} {r : Int} (h : FirstOK g P form) (hs : stepS g form r = (form', 0)) (h1 : ∀ u s, P u → Beg g u s → Q s) (h2 : (∀ s, P s → Q s) ∨ form.length ≤ 1) : FirstOK g Q form' := by
  obtain ⟨i, hi, t, rest, rfl, rfl, rfl, ht⟩ := stepS_ok hs
  intro q s hq h0 hnul
  have hnn : ∀ x, Nul g x → 0 ≤ x := fun x hx => by
    cases hx with
    | mk j hj a b => exact hg.left0 _ (List.getElem_mem hj)
  cases t with
  | cons x t =>
    exfalso
    have hx := ht x (by simp)
    by_cases hq0 : q = 0
    · subst hq0
      simp at hq
      omega
    · have := hnn x (hnul 0 x (by omega) (by simp))
      omega
  | nil =>
    simp only [List.nil_append] at h hq hnul h2
    have hu : P g.rules[i].left := h 0 _ (by simp) (hg.left0 _ (List.getElem_mem hi)) (fun q t hq => by omega)
    by_cases hqr : q < g.rules[i].right.length
    · refine h1 _ s hu ⟨i, q, hi, rfl, ?_, h0, fun p hp x hx => hnul p x hp ?_⟩
      · rw [List.getElem?_append_left hqr] at hq; exact hq
      · rw [List.getElem?_append_left (by omega)]; exact hx
    · have hq' := hq
      rw [List.getElem?_append_right (by omega)] at hq'
      have hnl : Nul g g.rules[i].left := by
        have hall : ∀ x ∈ g.rules[i].right, Nul g x := fun x hx => by
          obtain ⟨p, hp, rfl⟩ := List.getElem_of_mem hx
          exact hnul p _ (by omega) (by rw [List.getElem?_append_left hp, List.getElem?_eq_getElem hp])
        exact .mk i hi (fun x hx => hnn x (hall x hx)) hall
      have hps : P s := by
        refine h (q - g.rules[i].right.length + 1) s (by simpa using hq') h0 (fun p x hp hx => ?_)
        cases p with
        | zero => simp at hx; rw [← hx]; exact hnl
        | succ p =>
          simp at hx
          refine hnul (g.rules[i].right.length + p) x (by omega) ?_
          rw [List.getElem?_append_right (by omega), show g.rules[i].right.length + p - g.rules[i].right.length = p by omega]
          exact hx
      rcases h2 with h2 | h2
      · exact h2 s hps
      · exfalso
        simp at h2
        subst h2
        simp at hq'

/-- A variable with a derivation to a form that begins with it may begin with itself. -/
theorem replay_rch {g : Gram} (hg : InG g) {v : Int} : ∀ (rules form : List Int) (k : Nat) (out : List Int) (w : Nat), FirstOK g (Rch g v) form → replayS g form rules k = (out, w, 0) → FirstOK g (Rch g v) out := by
  intro rules
  induction rules with
  | nil => intro form k out w h e; simp [replayS] at e; rw [← e.1]; exact h
  | cons r rest ih =>
    intro form k out w h e
    simp only [replayS] at e
    split at e
    · rename_i h0
      exact ih _ _ _ _ (h.step hg (form' := (stepS g form r).1) (by rw [← h0]) (fun u s hu hb => hu.more hb) (.inl fun s h => h)) e
    · rename_i h0
      simp at e
      exact absurd e.2.2 h0

theorem derives_rch {g : Gram} (hg : InG g) {v : Int} {rules out : List Int} {w : Nat} (h0 : 0 ≤ v) (hr : rules ≠ []) (h : replayS g [v] rules 0 = (out, w, 0)) (hv : out[0]? = some v) : Rch g v v := by
  cases rules with
  | nil => exact absurd rfl hr
  | cons r rest =>
    simp only [replayS] at h
    split at h
    · rename_i e0
      have base : FirstOK g (fun s => s = v) [v] := by
        intro i s hs _ _
        cases i with
        | zero => simp at hs; exact hs.symm
        | succ i => simp at hs
      have h1 : FirstOK g (Rch g v) (stepS g [v] r).1 := base.step hg (form' := (stepS g [v] r).1) (by rw [← e0]) (fun u s hu hb => by rw [hu] at hb; exact .one hb) (.inr (by simp))
      exact replay_rch hg rest _ _ _ _ h1 h 0 v hv h0 (fun q t hq => by omega)
    · rename_i e0
      simp at h
      exact absurd h.2.2 e0

/-! ### Forms as they lie in a run: what is done, what is left -/

def layS (done pend : List Int) : List Int × List Int := (done ++ pend.takeWhile neg, pend.dropWhile neg)

theorem layS_form (done pend : List Int) : (layS done pend).1 ++ (layS done pend).2 = done ++ pend := by
  unfold layS
  rw [List.append_assoc, List.takeWhile_append_dropWhile]

/-- What is done is terminals; what is left begins with a variable. -/
structure Laid (done pend : List Int) : Prop where
  done : ∀ s ∈ done, s < 0
  pend : ∀ s, pend[0]? = some s → 0 ≤ s

theorem layS_laid {done pend : List Int} (h : ∀ s ∈ done, s < 0) : Laid (layS done pend).1 (layS done pend).2 := by
  refine ⟨fun s hs => ?_, fun s hs => ?_⟩
  · unfold layS at hs
    rcases List.mem_append.1 hs with hs | hs
    · exact h s hs
    · exact takeWhile_neg hs
  · unfold layS at hs
    simp only at hs
    have := List.head?_dropWhile_not neg pend
    rw [List.head?_eq_getElem?, hs] at this
    simpa [neg] using this

theorem Laid.takeWhile {done pend : List Int} (h : Laid done pend) : (done ++ pend).takeWhile neg = done ∧ (done ++ pend).dropWhile neg = pend := by
  obtain ⟨h1, h2⟩ := h
  induction done with
  | nil =>
    cases pend with
    | nil => exact ⟨rfl, rfl⟩
    | cons s pend =>
      have := h2 s (by simp)
      have e : neg s = false := by simp [neg]; exact this
      simp [List.takeWhile_cons, List.dropWhile_cons, e]
  | cons d done ih =>
    have hd := h1 d (by simp)
    have e : neg d = true := by simp [neg]; exact hd
    obtain ⟨a, b⟩ := ih (fun s hs => h1 s (by simp [hs]))
    simp only [List.cons_append, List.takeWhile_cons, List.dropWhile_cons, e, if_true]
    exact ⟨by rw [a], b⟩

end Go.AM

/- How long shortest words are, plainly. -/
namespace Go.AM

def farN : Nat := 1073741824

/-- A list of symbols becomes a word of so many terminals. -/
inductive WdL (g : Gram) : List Int → Nat → Prop
  | nil : WdL g [] 0
  | term {s : Int} {rest : List Int} {n : Nat} (h : s < 0) (k : WdL g rest n) : WdL g (s :: rest) (n + 1)
  | var {i : Nat} (h : i < g.rules.length) {rest : List Int} {a b : Nat} (x : WdL g g.rules[i].right a) (k : WdL g rest b) : WdL g (g.rules[i].left :: rest) (a + b)

/-- What a list costs, by what variables cost. -/
def sumC (c : Nat → Nat) : List Int → Nat
  | [] => 0
  | s :: rest => (if s < 0 then 1 else c s.toNat) + sumC c rest

theorem sumC_append (c : Nat → Nat) (a b : List Int) : sumC c (a ++ b) = sumC c a + sumC c b := by
  induction a with
  | nil => simp [sumC]
  | cons s a ih => simp [sumC, ih]; omega

/-- A rule's price: none, if a variable is not done. -/
def priceA (c : Nat → Nat) (d : Nat → Bool) : Nat → List Int → Option Nat
  | n, [] => some n
  | n, s :: rest => if s < 0 then priceA c d (n + 1) rest else if d s.toNat then priceA c d (min (n + c s.toNat) farN) rest else none

def allDone (d : Nat → Bool) (l : List Int) : Prop := ∀ s ∈ l, 0 ≤ s → d s.toNat = true

theorem priceA_some {c : Nat → Nat} {d : Nat → Bool} : ∀ (l : List Int) (n m : Nat), priceA c d n l = some m → allDone d l ∧ (m < farN → m = n + sumC c l) := by
  intro l
  induction l with
  | nil => intro n m h; simp [priceA] at h; subst h; exact ⟨(fun s hs => by cases hs), fun _ => by simp [sumC]⟩
  | cons s l ih =>
    intro n m h
    simp only [priceA] at h
    split at h
    · rename_i hs
      obtain ⟨h1, h2⟩ := ih _ _ h
      refine ⟨fun t ht h0 => ?_, fun hm => ?_⟩
      · rcases List.mem_cons.1 ht with rfl | ht
        · omega
        · exact h1 t ht h0
      · rw [h2 hm, sumC, if_pos hs]; omega
    · rename_i hs
      split at h
      · rename_i hd
        obtain ⟨h1, h2⟩ := ih _ _ h
        refine ⟨fun t ht h0 => ?_, fun hm => ?_⟩
        · rcases List.mem_cons.1 ht with rfl | ht
          · exact hd
          · exact h1 t ht h0
        · have := h2 hm
          rw [sumC, if_neg hs]; omega
      · cases h

theorem priceA_of {c : Nat → Nat} {d : Nat → Bool} : ∀ (l : List Int) (n : Nat), allDone d l → n + sumC c l < farN → priceA c d n l = some (n + sumC c l) := by
  intro l
  induction l with
  | nil => intro n _ _; simp [priceA, sumC]
  | cons s l ih =>
    intro n hd hf
    have hd' : allDone d l := fun t ht => hd t (by simp [ht])
    simp only [priceA]
    rw [sumC] at hf ⊢
    split
    · rename_i hs
      rw [if_pos hs] at hf
      rw [ih _ hd' (by omega)]
      congr 1; omega
    · rename_i hs
      rw [if_neg hs] at hf
      rw [if_pos (hd s (by simp) (by omega)), Nat.min_eq_left (by omega), ih _ hd' (by omega)]
      congr 1; omega

/-- Variables, in the order in which they were done, each with its rule. -/
inductive Ranked (g : Gram) (c : Nat → Nat) (best : Nat → Int) : List Nat → Prop
  | nil : Ranked g c best []
  | snoc {l : List Nat} {v i : Nat} (h : Ranked g c best l) (hv : v ∉ l) (hi : i < g.rules.length) (hb : best v = (i : Int)) (hl : g.rules[i].left = (v : Int)) (hr : ∀ s ∈ g.rules[i].right, 0 ≤ s → s.toNat ∈ l) (hc : c v = sumC c g.rules[i].right) (hf : c v < farN) : Ranked g c best (l ++ [v])

theorem Ranked.wd {g : Gram} {c : Nat → Nat} {best : Nat → Int} {l : List Nat} (h : Ranked g c best l) : ∀ v, v ∈ l → WdL g [(v : Int)] (c v) := by
  induction h with
  | nil => intro v hv; cases hv
  | @snoc l v i h hv hi hb hl hr hc hf ih =>
    intro w hw
    rcases List.mem_append.1 hw with hw | hw
    · exact ih w hw
    · simp at hw
      subst hw
      have key : ∀ r : List Int, (∀ s ∈ r, 0 ≤ s → s.toNat ∈ l) → WdL g r (sumC c r) := by
        intro r
        induction r with
        | nil => intro _; exact .nil
        | cons s r ihr =>
          intro hr
          have hrest := ihr fun t ht => hr t (by simp [ht])
          rw [sumC]
          by_cases hs : s < 0
          · rw [if_pos hs, Nat.add_comm]
            exact .term hs hrest
          · rw [if_neg hs]
            have hm := ih s.toNat (hr s (by simp) (by omega))
            obtain ⟨k, rfl⟩ : ∃ k : Nat, s = k := ⟨s.toNat, by omega⟩
            rw [Int.toNat_natCast] at hm ⊢
            -- a word of one variable, ahead of a list
            have join : ∀ (x : List Int) (a : Nat), WdL g x a → x = [(k : Int)] → WdL g ((k : Int) :: r) (a + sumC c r) := by
              intro x a hx
              cases hx with
              | nil => intro e; cases e
              | term h k' => intro e; simp at e; omega
              | @var i' h' rest a' b' x' k' =>
                intro e
                simp at e
                obtain ⟨e1, e2⟩ := e
                subst e2
                cases k'
                rw [← e1]
                exact .var h' x' hrest
            exact join _ _ hm rfl
      have := WdL.var hi (key _ hr) .nil
      rw [hl, ← hc] at this
      exact this

/-- The state at a choice: every rule whose variables are done has been looked at. -/
structure Dij (g : Gram) (c : Nat → Nat) (d : Nat → Bool) : Prop where
  least : ∀ v k, v < g.vars.length → d v = true → WdL g [(v : Int)] k → c v ≤ k
  relax : ∀ i (h : i < g.rules.length), d g.rules[i].left.toNat = false → allDone d g.rules[i].right → sumC c g.rules[i].right < farN → c g.rules[i].left.toNat ≤ sumC c g.rules[i].right

/-- What is not done costs at least as much as the least of what is not done. -/
theorem Dij.bound {g : Gram} (hg : InG g) {c : Nat → Nat} {d : Nat → Bool} (h : Dij g c d) {m : Nat} (hm : ∀ v, v < g.vars.length → d v = false → m ≤ c v) (hf : m ≤ farN) :
    ∀ (l : List Int) (n : Nat), WdL g l n → (∀ s ∈ l, s < g.vars.length) → (∃ s ∈ l, 0 ≤ s ∧ d s.toNat = false) ∧ m ≤ n ∨ allDone d l ∧ sumC c l ≤ n := by
  intro l n hw
  induction hw with
  | nil => intro _; exact .inr ⟨(fun s hs => by cases hs), by simp [sumC]⟩
  | @term s rest n hs k ih =>
    intro hl
    rcases ih (fun t ht => hl t (by simp [ht])) with ⟨⟨t, ht, h0, h1⟩, h2⟩ | ⟨h1, h2⟩
    · exact .inl ⟨⟨t, by simp [ht], h0, h1⟩, by omega⟩
    · refine .inr ⟨fun t ht h0 => ?_, ?_⟩
      · rcases List.mem_cons.1 ht with rfl | ht
        · omega
        · exact h1 t ht h0
      · rw [sumC, if_pos hs]; omega
  | @var i hi rest a b x k ihx ihk =>
    intro hl
    have hm' := List.getElem_mem hi
    have hl0 := hg.left0 _ hm'
    have hl1 := hg.left1 _ hm'
    by_cases hd : d g.rules[i].left.toNat = true
    · have hla : c g.rules[i].left.toNat ≤ a := by
        have := h.least g.rules[i].left.toNat a (by omega) hd
        rw [Int.toNat_of_nonneg hl0] at this
        exact this (by simpa using WdL.var hi x .nil)
      rcases ihk (fun t ht => hl t (by simp [ht])) with ⟨⟨t, ht, h0, h1⟩, h2⟩ | ⟨h1, h2⟩
      · exact .inl ⟨⟨t, by simp [ht], h0, h1⟩, by omega⟩
      · refine .inr ⟨fun t ht h0 => ?_, ?_⟩
        · rcases List.mem_cons.1 ht with rfl | ht
          · exact hd
          · exact h1 t ht h0
        · rw [sumC, if_neg (by omega)]; omega
    · have hd' : d g.rules[i].left.toNat = false := by simpa using hd
      refine .inl ⟨⟨_, by simp, hl0, hd'⟩, ?_⟩
      have hmc := hm _ (show g.rules[i].left.toNat < g.vars.length by omega) hd'
      rcases ihx (fun t ht => hg.right _ hm' t ht) with ⟨_, h2⟩ | ⟨h1, h2⟩
      · omega
      · by_cases hs : sumC c g.rules[i].right < farN
        · have := h.relax i hi hd' h1 hs
          omega
        · omega

end Go.AM

/- The rounds of Cost, plainly. -/
namespace Go.AM

theorem sumC_congr {c c' : Nat → Nat} {l : List Nat} (h : ∀ v, v ∈ l → c' v = c v) : ∀ r : List Int, (∀ s ∈ r, 0 ≤ s → s.toNat ∈ l) → sumC c' r = sumC c r := by
  intro r
  induction r with
  | nil => intro _; rfl
  | cons s r ih =>
    intro hr
    rw [sumC, sumC, ih fun t ht => hr t (by simp [ht])]
    by_cases hs : s < 0
    · rw [if_pos hs, if_pos hs]
    · rw [if_neg hs, if_neg hs, h _ (hr s (by simp) (by omega))]

theorem Ranked.congr {g : Gram} {c c' : Nat → Nat} {b b' : Nat → Int} {l : List Nat} (h : Ranked g c b l) : (∀ v, v ∈ l → c' v = c v ∧ b' v = b v) → Ranked g c' b' l := by
  induction h with
  | nil => intro _; exact .nil
  | @snoc l v i h hv hi hb hl hr hc hf ih =>
    intro e
    have e' : ∀ w, w ∈ l → c' w = c w ∧ b' w = b w := fun w hw => e w (by simp [hw])
    have ev := e v (by simp)
    refine .snoc (ih e') hv hi (by rw [ev.2]; exact hb) hl hr ?_ (by rw [ev.1]; exact hf)
    rw [ev.1, hc, sumC_congr (fun w hw => (e' w hw).1) _ hr]

theorem Ranked.nodup {g : Gram} {c : Nat → Nat} {b : Nat → Int} {l : List Nat} (h : Ranked g c b l) : l.Nodup := by
  induction h with
  | nil => exact List.nodup_nil
  | snoc h hv hi hb hl hr hc hf ih =>
    rw [List.nodup_append]
    refine ⟨ih, by simp, fun a ha x hx => ?_⟩
    simp at hx; subst hx
    rintro rfl; exact hv ha

theorem Ranked.lt {g : Gram} (hg : InG g) {c : Nat → Nat} {b : Nat → Int} {l : List Nat} (h : Ranked g c b l) : ∀ v, v ∈ l → v < g.vars.length := by
  induction h with
  | nil => intro v hv; cases hv
  | @snoc l v i h hv hi hb hl hr hc hf ih =>
    intro w hw
    rcases List.mem_append.1 hw with hw | hw
    · exact ih w hw
    · simp at hw; subst hw
      have := hg.left1 _ (List.getElem_mem hi)
      rw [hl] at this; omega

theorem nodup_le : ∀ (n : Nat) (l : List Nat), l.Nodup → (∀ v, v ∈ l → v < n) → l.length ≤ n := by
  intro n
  induction n with
  | zero =>
    intro l _ hl
    cases l with
    | nil => simp
    | cons a l => exact absurd (hl a (by simp)) (by omega)
  | succ n ih =>
    intro l hd hl
    have h1 := ih (l.erase n) (hd.erase n) (fun v hv => by
      have := (hd.mem_erase_iff).1 hv
      have := hl v this.2
      omega)
    by_cases hn : n ∈ l
    · rw [List.length_erase_of_mem hn] at h1; omega
    · rw [List.erase_of_not_mem hn] at h1; omega

/-- All are there. -/
theorem all_in {n : Nat} {l : List Nat} (hd : l.Nodup) (hl : ∀ v, v ∈ l → v < n) (hn : l.length = n) : ∀ v, v < n → v ∈ l := by
  intro v hv
  apply Classical.byContradiction
  intro hc
  have h1 : (v :: l).Nodup := List.nodup_cons.2 ⟨hc, hd⟩
  have h2 := nodup_le n (v :: l) h1 (fun w hw => by
    rcases List.mem_cons.1 hw with rfl | hw
    · exact hv
    · exact hl w hw)
  rw [List.length_cons] at h2
  omega

/-- At the head of a round, and while rules are looked at. -/
structure CInv (g : Gram) (c : Nat → Nat) (b : Nat → Int) (d : Nat → Bool) (ord : List Nat) (i : Nat) : Prop where
  ranked : Ranked g c b ord
  done : ∀ v, v < g.vars.length → (d v = true ↔ v ∈ ord)
  least : ∀ v k, v < g.vars.length → d v = true → WdL g [(v : Int)] k → c v ≤ k
  cap : ∀ v, v < g.vars.length → c v ≤ farN
  ach : ∀ v, v < g.vars.length → d v = false → c v < farN → ∃ i, ∃ h : i < g.rules.length, b v = (i : Int) ∧ g.rules[i].left = (v : Int) ∧ (∀ s ∈ g.rules[i].right, 0 ≤ s → s.toNat ∈ ord) ∧ c v = sumC c g.rules[i].right
  relax : ∀ j (h : j < g.rules.length), j < i → d g.rules[j].left.toNat = false → allDone d g.rules[j].right → sumC c g.rules[j].right < farN → c g.rules[j].left.toNat ≤ sumC c g.rules[j].right

section
variable {g : Gram} {c : Nat → Nat} {b : Nat → Int} {d : Nat → Bool} {ord : List Nat} {i : Nat}

theorem CInv.start (c : Nat → Nat) (b : Nat → Int) (d : Nat → Bool) (hc : ∀ v, v < g.vars.length → c v = farN) (hd : ∀ v, v < g.vars.length → d v = false) : CInv g c b d [] 0 :=
  ⟨.nil, fun v hv => by rw [hd v hv]; simp, fun v k hv e => (by rw [hd v hv] at e; cases e), fun v hv => by rw [hc v hv]; exact Nat.le_refl _, fun v hv _ h => by rw [hc v hv] at h; omega, fun j h hj => by omega⟩

theorem allDone_ord (h : CInv g c b d ord i) (hg : InG g) {r : GRule} (hr : r ∈ g.rules) : allDone d r.right ↔ ∀ s ∈ r.right, 0 ≤ s → s.toNat ∈ ord := by
  constructor
  · intro ha s hs h0
    exact (h.done _ (by have := hg.right r hr s hs; omega)).1 (ha s hs h0)
  · intro ha s hs h0
    exact (h.done _ (by have := hg.right r hr s hs; omega)).2 (ha s hs h0)

/-- A rule that tells nothing new. -/
theorem CInv.skip (h : CInv g c b d ord i) (hi : i < g.rules.length) (hn : d g.rules[i].left.toNat = false → allDone d g.rules[i].right → sumC c g.rules[i].right < farN → c g.rules[i].left.toNat ≤ sumC c g.rules[i].right) : CInv g c b d ord (i + 1) :=
  ⟨h.ranked, h.done, h.least, h.cap, h.ach, fun j hj hji => by
    by_cases e : j = i
    · subst e; exact hn
    · exact h.relax j hj (by omega)⟩

/-- A rule by which a variable costs less. -/
theorem CInv.take (h : CInv g c b d ord i) (hg : InG g) (hi : i < g.rules.length) {l : Nat} (hl : g.rules[i].left = (l : Int)) (hd : d l = false) (ha : allDone d g.rules[i].right) {m : Nat} (hm : m = sumC c g.rules[i].right) (hf : m < farN) (hlt : m < c l)
    {c' : Nat → Nat} {b' : Nat → Int} (hc : ∀ v, c' v = if v = l then m else c v) (hb : ∀ v, b' v = if v = l then (i : Int) else b v) : CInv g c' b' d ord (i + 1) := by
  have hlv : l < g.vars.length := by have := hg.left1 _ (List.getElem_mem hi); omega
  have hlo : l ∉ ord := fun hc => by rw [(h.done l hlv).2 hc] at hd; cases hd
  have hne : ∀ v, v ∈ ord → c' v = c v ∧ b' v = b v := fun v hv => by
    have : v ≠ l := fun e => hlo (e ▸ hv)
    exact ⟨by rw [hc, if_neg this], by rw [hb, if_neg this]⟩
  have hle : ∀ v, c' v ≤ c v := fun v => by
    rw [hc]; split
    · rename_i e; subst e; omega
    · exact Nat.le_refl _
  have hs : ∀ r : List Int, (∀ s ∈ r, 0 ≤ s → s.toNat ∈ ord) → sumC c' r = sumC c r := fun r hr => sumC_congr (fun v hv => (hne v hv).1) r hr
  have hord := (allDone_ord h hg (List.getElem_mem hi)).1 ha
  refine ⟨h.ranked.congr hne, h.done, fun v k hv hdv hw => Nat.le_trans (hle v) (h.least v k hv hdv hw), fun v hv => Nat.le_trans (hle v) (h.cap v hv), fun v hv hdv hcv => ?_, fun j hj hji hdj haj hsj => ?_⟩
  · by_cases e : v = l
    · subst e
      refine ⟨i, hi, by rw [hb, if_pos rfl], hl, hord, ?_⟩
      rw [hc, if_pos rfl, hs _ hord, hm]
    · rw [hc, if_neg e] at hcv
      obtain ⟨q, hq, e1, e2, e3, e4⟩ := h.ach v hv hdv hcv
      exact ⟨q, hq, by rw [hb, if_neg e]; exact e1, e2, e3, by rw [hc, if_neg e, hs _ e3, e4]⟩
  · have hoj := (allDone_ord h hg (List.getElem_mem hj)).1 haj
    rw [hs _ hoj] at hsj ⊢
    by_cases e : j = i
    · subst e
      have hlt' : g.rules[j].left.toNat = l := by omega
      rw [hlt', hc, if_pos rfl]; omega
    · exact Nat.le_trans (hle _) (h.relax j hj (by omega) hdj haj hsj)

theorem CInv.dij (h : CInv g c b d ord g.rules.length) : Dij g c d := ⟨h.least, fun j hj => h.relax j hj hj⟩

/-- The least of what is not done is done. -/
theorem CInv.choose (h : CInv g c b d ord g.rules.length) (hg : InG g) {a : Nat} (ha : a < g.vars.length) (hd : d a = false) (hf : c a < farN) (hm : ∀ v, v < g.vars.length → d v = false → c a ≤ c v) {d' : Nat → Bool} (hd' : ∀ v, d' v = if v = a then true else d v) : CInv g c b d' (ord ++ [a]) 0 := by
  obtain ⟨i, hi, e1, e2, e3, e4⟩ := h.ach a ha hd hf
  have hao : a ∉ ord := fun hc => by rw [(h.done a ha).2 hc] at hd; cases hd
  refine ⟨.snoc h.ranked hao hi e1 e2 e3 e4 hf, fun v hv => ?_, fun v k hv hdv hw => ?_, h.cap, fun v hv hdv hcv => ?_, fun j hj hji => by omega⟩
  · rw [hd', List.mem_append]
    split
    · rename_i e; subst e; simp
    · rename_i e
      rw [h.done v hv]; simp [e]
  · by_cases e : v = a
    · subst e
      rcases h.dij.bound hg hm (Nat.le_of_lt hf) _ _ hw (fun s hs => by simp at hs; omega) with ⟨_, h2⟩ | ⟨h1, _⟩
      · exact h2
      · have := h1 (v : Int) (by simp) (by omega)
        rw [Int.toNat_natCast, hd] at this; cases this
    · rw [hd', if_neg e] at hdv
      exact h.least v k hv hdv hw
  · have e : v ≠ a := by rintro rfl; rw [hd', if_pos rfl] at hdv; cases hdv
    rw [hd', if_neg e] at hdv
    obtain ⟨q, hq, f1, f2, f3, f4⟩ := h.ach v hv hdv hcv
    exact ⟨q, hq, f1, f2, fun s hs h0 => by simp [f3 s hs h0], f4⟩

/-- What Cost tells. -/
structure CostOK (g : Gram) (c : Nat → Nat) (b : Nat → Int) : Prop where
  ranked : ∃ ord, Ranked g c b ord ∧ ∀ v, v < g.vars.length → v ∈ ord ∨ v ∉ ord ∧ c v = farN ∧ b v = -1
  least : ∀ v k, v < g.vars.length → WdL g [(v : Int)] k → c v ≤ k ∨ farN ≤ k ∧ c v = farN

/-- Nothing more is found, or all is done. -/
theorem CInv.over (h : CInv g c b d ord i) (hg : InG g) (hx : i = g.rules.length ∧ (∀ v, v < g.vars.length → d v = false → farN ≤ c v) ∨ ord.length = g.vars.length) {c' : Nat → Nat} {b' : Nat → Int} (hc : ∀ v, v < g.vars.length → c' v = if d v then c v else farN) (hb : ∀ v, v < g.vars.length → b' v = if d v then b v else -1) : CostOK g c' b' := by
  have hr : Ranked g c' b' ord := h.ranked.congr fun v hv => by
    have hl := h.ranked.lt hg v hv
    have := (h.done v hl).2 hv
    rw [hc v hl, hb v hl, this]; exact ⟨rfl, rfl⟩
  refine ⟨⟨ord, hr, fun v hv => ?_⟩, fun v k hv hw => ?_⟩
  · by_cases e : v ∈ ord
    · exact .inl e
    · refine .inr ⟨e, ?_⟩
      have hd : d v = false := by
        cases hdv : d v
        · rfl
        · exact absurd ((h.done v hv).1 hdv) e
      rw [hc v hv, hb v hv, hd]; exact ⟨rfl, rfl⟩
  · cases hd : d v
    · right
      rw [hc v hv, hd]
      refine ⟨?_, rfl⟩
      rcases hx with ⟨rfl, hx⟩ | hx
      · rcases h.dij.bound hg (m := farN) hx (Nat.le_refl _) _ _ hw (fun s hs => by simp at hs; omega) with ⟨_, h2⟩ | ⟨h1, _⟩
        · exact h2
        · have := h1 (v : Int) (by simp) (by omega)
          rw [Int.toNat_natCast, hd] at this; cases this
      · have := (h.done v hv).2 (all_in h.ranked.nodup (h.ranked.lt hg) hx v hv)
        rw [hd] at this; cases this
    · left
      rw [hc v hv, hd]
      exact h.least v k hv hd hw
end

end Go.AM

/- Trees by the best rules, plainly. -/
namespace Go.AM

/-- The rules of trees by the best rules, in the order of a derivation. -/
inductive Pre (g : Gram) (b : Nat → Int) : List Int → List Int → Prop
  | nil : Pre g b [] []
  | term {s : Int} {rest d : List Int} (h : s < 0) (k : Pre g b rest d) : Pre g b (s :: rest) d
  | var {i v : Nat} (hi : i < g.rules.length) (hb : b v = (i : Int)) (hl : g.rules[i].left = (v : Int)) {rest d1 d2 : List Int} (x : Pre g b g.rules[i].right d1) (k : Pre g b rest d2) : Pre g b ((v : Int) :: rest) ((i : Int) :: (d1 ++ d2))

theorem Pre.append {g : Gram} {b : Nat → Int} {l1 l2 d1 d2 : List Int} (h : Pre g b l1 d1) (k : Pre g b l2 d2) : Pre g b (l1 ++ l2) (d1 ++ d2) := by
  induction h with
  | nil => exact k
  | term h _ ih => exact .term h ih
  | var hi hb hl x _ _ ih => rw [List.cons_append, List.cons_append, List.append_assoc]; exact .var hi hb hl x ih

/-- Terminals have no rules. -/
theorem Pre.vars {g : Gram} {b : Nat → Int} {l d : List Int} (h : Pre g b l d) : Pre g b (l.filter fun s => decide (0 ≤ s)) d := by
  induction h with
  | nil => exact .nil
  | @term s rest d h _ ih =>
    rw [List.filter_cons_of_neg (by simp; omega)]
    exact ih
  | @var i v hi hb hl rest d1 d2 x k _ ih =>
    rw [List.filter_cons_of_pos (by simp)]
    exact .var hi hb hl x ih

theorem Pre.cons_inv {g : Gram} {b : Nat → Int} {v : Nat} {rest d : List Int} (h : Pre g b ((v : Int) :: rest) d) : ∃ (i : Nat) (hi : i < g.rules.length) (d1 d2 : List Int), b v = (i : Int) ∧ g.rules[i].left = (v : Int) ∧ Pre g b g.rules[i].right d1 ∧ Pre g b rest d2 ∧ d = (i : Int) :: (d1 ++ d2) := by
  generalize e : (v : Int) :: rest = l at h
  cases h with
  | nil => cases e
  | term h k => simp only [List.cons.injEq] at e; omega
  | @var i w hi hb hl rest' d1 d2 x k =>
    simp only [List.cons.injEq] at e
    obtain ⟨e1, e2⟩ := e
    have : v = w := by omega
    subst this; subst e2
    exact ⟨i, hi, d1, d2, hb, hl, x, k, rfl⟩

theorem Pre.nil_inv {g : Gram} {b : Nat → Int} {d : List Int} (h : Pre g b [] d) : d = [] := by
  cases h; rfl

/-- Lists all of whose variables are done have trees. -/
theorem pre_list {g : Gram} {b : Nat → Int} {l : List Nat} (h : ∀ v, v ∈ l → ∃ d, Pre g b [(v : Int)] d) : ∀ r : List Int, (∀ s ∈ r, 0 ≤ s → s.toNat ∈ l) → ∃ d, Pre g b r d := by
  intro r
  induction r with
  | nil => intro _; exact ⟨[], .nil⟩
  | cons s r ih =>
    intro hr
    obtain ⟨d2, h2⟩ := ih fun t ht => hr t (by simp [ht])
    by_cases hs : s < 0
    · exact ⟨d2, .term hs h2⟩
    · obtain ⟨k, rfl⟩ : ∃ k : Nat, s = k := ⟨s.toNat, by omega⟩
      obtain ⟨d1, h1⟩ := h k (by have := hr k (by simp) (by omega); simpa using this)
      exact ⟨_, h1.append h2⟩

theorem Ranked.pre {g : Gram} {c : Nat → Nat} {b : Nat → Int} {l : List Nat} (h : Ranked g c b l) : ∀ v, v ∈ l → ∃ d, Pre g b [(v : Int)] d := by
  induction h with
  | nil => intro v hv; cases hv
  | @snoc l v i h hv hi hb hl hr hc hf ih =>
    intro w hw
    rcases List.mem_append.1 hw with hw | hw
    · exact ih w hw
    · simp at hw; subst hw
      obtain ⟨d, hd⟩ := pre_list ih _ hr
      exact ⟨_, .var hi hb hl hd .nil⟩

/-! ### Of variables that vanish -/

/-- Trees without terminals. -/
inductive PreE (g : Gram) : List Int → List Int → Prop
  | nil : PreE g [] []
  | var {i : Nat} (hi : i < g.rules.length) {rest d1 d2 : List Int} (x : PreE g g.rules[i].right d1) (k : PreE g rest d2) : PreE g (g.rules[i].left :: rest) ((i : Int) :: (d1 ++ d2))

/-- Such a derivation takes away what stands first. -/
theorem PreE.replay {g : Gram} (hg : InG g) {l d : List Int} (h : PreE g l d) : ∀ (F rest : List Int) (k : Nat), replayS g (l ++ F) (d ++ rest) k = replayS g F rest (k + d.length) := by
  induction h with
  | nil => intro F rest k; rfl
  | @var i hi rest0 d1 d2 x k0 ihx ihk =>
    intro F rest k
    have h0 := hg.left0 _ (List.getElem_mem hi)
    have hn : neg g.rules[i].left = false := by simp [neg]; exact h0
    have hs : stepS g (g.rules[i].left :: (rest0 ++ F)) (i : Int) = (g.rules[i].right ++ (rest0 ++ F), 0) := by
      unfold stepS
      rw [if_neg (by omega)]
      simp only [List.dropWhile_cons, List.takeWhile_cons, hn, Bool.false_eq_true, if_false]
      simp only [Int.toNat_natCast, List.getElem?_eq_getElem hi]
      rw [if_pos trivial]
      rfl
    rw [List.cons_append, List.cons_append]
    simp only [replayS, hs, if_true]
    rw [List.append_assoc, ihx, ihk]
    congr 1
    simp; omega

/-- Of what costs nothing the tree by the best rules has no terminals. -/
theorem Ranked.preE' {g : Gram} {c : Nat → Nat} {b : Nat → Int} {l : List Nat} (h : Ranked g c b l) : ∀ v, v ∈ l → c v = 0 → ∀ (i : Nat) (hi : i < g.rules.length) d, b v = (i : Int) → Pre g b g.rules[i].right d → PreE g g.rules[i].right d := by
  induction h with
  | nil => intro v hv; cases hv
  | @snoc l v i h hv hi hb hl hr hc hf ih =>
    intro w hw hw0 i' hi' d e1 hd
    rcases List.mem_append.1 hw with hw | hw
    · exact ih w hw hw0 i' hi' d e1 hd
    · simp at hw; subst hw
      rw [hb] at e1
      have : i = i' := by omega
      subst this
      have key : ∀ (r d : List Int), Pre g b r d → (∀ s ∈ r, 0 ≤ s → s.toNat ∈ l) → sumC c r = 0 → PreE g r d := by
        intro r
        induction r with
        | nil => intro d hd _ _; rw [hd.nil_inv]; exact .nil
        | cons s r ihr =>
          intro d hd hr hs
          rw [sumC] at hs
          by_cases hn : s < 0
          · rw [if_pos hn] at hs; omega
          · rw [if_neg hn] at hs
            obtain ⟨k, rfl⟩ : ∃ k : Nat, s = k := ⟨s.toNat, by omega⟩
            rw [Int.toNat_natCast] at hs
            obtain ⟨j, hj, f1, f2, g1, g2, g3, g4, rfl⟩ := hd.cons_inv
            have hk := ih k (by have := hr k (by simp) (by omega); simpa using this) (by omega) j hj f1 g1 g3
            have hrest := ihr f2 g4 (fun t ht => hr t (by simp [ht])) (by omega)
            have := PreE.var hj hk hrest
            rw [g2] at this
            exact this
      exact key _ _ hd hr (by omega)

theorem Ranked.preE {g : Gram} {c : Nat → Nat} {b : Nat → Int} {l : List Nat} (h : Ranked g c b l) {v : Nat} (hv : v ∈ l) (h0 : c v = 0) {d : List Int} (hd : Pre g b [(v : Int)] d) : PreE g [(v : Int)] d := by
  obtain ⟨i, hi, d1, d2, e1, e2, e3, e4, rfl⟩ := hd.cons_inv
  obtain rfl := e4.nil_inv
  have := PreE.var hi (h.preE' v hv h0 i hi d1 e1 e3) .nil
  rw [e2] at this
  exact this

/-- What is found by rounds about how many steps it takes to vanish. -/
structure Slow (g : Gram) (F : Nat → Nat → Nat) : Prop where
  up : ∀ k v, F k v ≤ F (k + 1) v
  rule : ∀ k i (h : i < g.rules.length), k < g.vars.length → (∀ s ∈ g.rules[i].right, 0 ≤ s ∧ 1 ≤ F k s.toNat) → 1 + sumC (F k) g.rules[i].right ≤ F (k + 1) g.rules[i].left.toNat

theorem Slow.mono {g : Gram} {F : Nat → Nat → Nat} (h : Slow g F) {k l v : Nat} (hkl : k ≤ l) : F k v ≤ F l v := by
  induction l with
  | zero => have : k = 0 := by omega
            subst this; exact Nat.le_refl _
  | succ l ih =>
    by_cases e : k = l + 1
    · subst e; exact Nat.le_refl _
    · exact Nat.le_trans (ih (by omega)) (h.up l v)

/-- The tree of a variable that vanishes has no more steps than were found. -/
theorem Ranked.steps {g : Gram} {F : Nat → Nat → Nat} (hF : Slow g F) {c : Nat → Nat} {b : Nat → Int} {l : List Nat} (h : Ranked g c b l) : l.length ≤ g.vars.length → ∀ v, v ∈ l → c v = 0 → ∀ (i : Nat) (hi : i < g.rules.length) d, b v = (i : Int) → Pre g b g.rules[i].right d → 1 + d.length ≤ F l.length v := by
  induction h with
  | nil => intro _ v hv; cases hv
  | @snoc l v i h hv hi hb hl hr hc hf ih =>
    intro hlen w hw hw0 i' hi' d e1 hd
    rw [List.length_append, List.length_singleton] at hlen ⊢
    rcases List.mem_append.1 hw with hw | hw
    · exact Nat.le_trans (ih (by omega) w hw hw0 i' hi' d e1 hd) (hF.up _ _)
    · simp at hw; subst hw
      rw [hb] at e1
      have : i = i' := by omega
      subst this
      have key : ∀ (r d : List Int), Pre g b r d → (∀ s ∈ r, 0 ≤ s → s.toNat ∈ l) → sumC c r = 0 → (∀ s ∈ r, 0 ≤ s ∧ 1 ≤ F l.length s.toNat) ∧ d.length ≤ sumC (F l.length) r := by
        intro r
        induction r with
        | nil => intro d hd _ _; rw [hd.nil_inv]; exact ⟨(fun s hs => by cases hs), by simp [sumC]⟩
        | cons s r ihr =>
          intro d hd hr hs
          rw [sumC] at hs ⊢
          by_cases hn : s < 0
          · rw [if_pos hn] at hs; omega
          · rw [if_neg hn] at hs ⊢
            obtain ⟨k, rfl⟩ : ∃ k : Nat, s = k := ⟨s.toNat, by omega⟩
            rw [Int.toNat_natCast] at hs ⊢
            obtain ⟨j, hj, f1, f2, g1, g2, g3, g4, rfl⟩ := hd.cons_inv
            have hk := ih (by omega) k (by have := hr k (by simp) (by omega); simpa using this) (by omega) j hj f1 g1 g3
            obtain ⟨hrest, hsum⟩ := ihr f2 g4 (fun t ht => hr t (by simp [ht])) (by omega)
            refine ⟨fun t ht => ?_, by simp; omega⟩
            rcases List.mem_cons.1 ht with rfl | ht
            · exact ⟨by omega, by rw [Int.toNat_natCast]; omega⟩
            · exact hrest t ht
      obtain ⟨k1, k2⟩ := key _ _ hd hr (by omega)
      have := hF.rule l.length i hi (by omega) k1
      rw [hl, Int.toNat_natCast] at this
      omega

end Go.AM

/- What layer 9 tells, plainly: which variables are of use; rounds that find which ones are, and what shortest words cost. -/
namespace Go.AM

/-- Variables that stand in a derivation of a word from the start. -/
inductive Usd (g : Gram) : Int → Prop
  | base (h : Prd g 0) : Usd g 0
  | step (i : Nat) (h : i < g.rules.length) (hu : Usd g g.rules[i].left) (hp : ∀ s ∈ g.rules[i].right, 0 ≤ s → Prd g s) {s : Int} (hs : s ∈ g.rules[i].right) (h0 : 0 ≤ s) : Usd g s

/-- Nothing is found any more. -/
def UClosed (g : Gram) (ws o : List Bool) : Prop := ∀ r ∈ g.rules, hold o r.left → prdB r.right ws = true → ∀ s ∈ r.right, 0 ≤ s → hold o s

theorem usd_of {g : Gram} {ws o : List Bool} (hws : ∀ v, hold ws v ↔ Prd g v) (hsound : ∀ v, hold o v → Usd g v) (hb : Prd g 0 → hold o 0) (hc : UClosed g ws o) (v : Int) : hold o v ↔ Usd g v := by
  refine ⟨hsound v, fun h => ?_⟩
  induction h with
  | base h => exact hb h
  | step i h hu hp hs h0 ih => exact hc _ (List.getElem_mem h) ih (prdB_hold.2 fun s hs h0 => (hws s).2 (hp s hs h0)) _ hs h0

theorem hold_nat {l : List Bool} {u : Nat} : hold l (u : Int) ↔ l[u]? = some true := by
  unfold hold
  rw [Int.toNat_natCast, List.getD_eq_getElem?_getD]
  cases l[u]? with
  | none => simp
  | some b => simp

theorem hold_setI {l : List Bool} {i : Nat} (hi : i < l.length) {v : Int} : hold (l.set i true) v ↔ v = (i : Int) ∨ hold l v := by
  unfold hold
  simp only [List.getD_eq_getElem?_getD, List.getElem?_set]
  by_cases e : i = v.toNat
  · subst e
    simp only [if_true, hi, Option.getD_some, and_true]
    constructor
    · intro h; left; omega
    · rintro (h | h)
      · omega
      · exact h.1
  · rw [if_neg e]
    constructor
    · exact .inr
    · rintro (h | h)
      · omega
      · exact h

/-- A list of what is to be done: midway. -/
structure UWork (g : Gram) (ws r : List Bool) (todo : List Nat) (busy : Nat → Prop) : Prop where
  sound : ∀ u : Int, hold r u → Usd g u
  known : ∀ u, u ∈ todo → hold r (u : Nat)
  base : hold r 0
  closed : ∀ u : Nat, hold r u → u ∈ todo ∨ busy u ∨ ∀ q ∈ g.rules, q.left = (u : Int) → prdB q.right ws = true → ∀ s ∈ q.right, 0 ≤ s → hold r s

theorem UWork.start {g : Gram} (ws : List Bool) {k : Nat} (hk : 0 < k) (h0 : Prd g 0) : UWork g ws ((List.replicate k false).set 0 true) [0] (fun _ => False) := by
  have hl : 0 < (List.replicate k false).length := by simpa using hk
  have hn : ∀ v, ¬ hold (List.replicate k false) v := by
    intro v h
    have := h.2
    rw [List.getD_eq_getElem?_getD, List.getElem?_replicate] at this
    split at this <;> simp at this
  have hz : ∀ v, hold ((List.replicate k false).set 0 true) v → v = 0 := fun v h => by
    rcases (hold_setI hl).1 h with h | h
    · exact h
    · exact absurd h (hn v)
  have hb : hold ((List.replicate k false).set 0 true) 0 := (hold_setI hl).2 (.inl rfl)
  refine ⟨fun u h => by rw [hz u h]; exact .base h0, fun u hu => ?_, hb, fun u h => .inl ?_⟩
  · have : u = 0 := by simpa using hu
    subst this; exact hb
  · have := hz _ h
    simp; omega

theorem UWork.pop {g : Gram} {ws r : List Bool} {todo : List Nat} {u : Nat} (h : UWork g ws r (todo ++ [u]) (fun _ => False)) : UWork g ws r todo (fun w => w = u) := by
  refine ⟨h.sound, fun w hw => h.known w (by simp [hw]), h.base, fun w hw => ?_⟩
  rcases h.closed w hw with h1 | h1 | h1
  · simp at h1
    rcases h1 with h1 | h1
    · exact .inl h1
    · exact .inr (.inl h1)
  · exact h1.elim
  · exact .inr (.inr h1)

theorem UWork.push {g : Gram} {ws r : List Bool} {todo : List Nat} {u w : Nat} (h : UWork g ws r todo (fun w => w = u)) (hw : w < r.length) (hu : Usd g w) : UWork g ws (r.set w true) (todo ++ [w]) (fun w => w = u) := by
  have up : ∀ x, hold r x → hold (r.set w true) x := fun x hx => (hold_setI hw).2 (.inr hx)
  refine ⟨fun x hx => ?_, fun x hx => ?_, up _ h.base, fun x hx => ?_⟩
  · rcases (hold_setI hw).1 hx with rfl | hx
    · exact hu
    · exact h.sound x hx
  · rcases List.mem_append.1 hx with hx | hx
    · exact up _ (h.known x hx)
    · have : x = w := by simpa using hx
      subst this; exact (hold_setI hw).2 (.inl rfl)
  · rcases (hold_setI hw).1 hx with e | hx'
    · exact .inl (by have : x = w := by omega
                     simp [this])
    · rcases h.closed x hx' with h1 | h1 | h1
      · exact .inl (by simp [h1])
      · exact .inr (.inl h1)
      · exact .inr (.inr fun q hq e hp s hs h0 => up _ (h1 q hq e hp s hs h0))

theorem UWork.done {g : Gram} {ws r : List Bool} {todo : List Nat} {u : Nat} (h : UWork g ws r todo (fun w => w = u)) (ha : ∀ q ∈ g.rules, q.left = (u : Int) → prdB q.right ws = true → ∀ s ∈ q.right, 0 ≤ s → hold r s) : UWork g ws r todo (fun _ => False) := by
  refine ⟨h.sound, h.known, h.base, fun w hw => ?_⟩
  rcases h.closed w hw with h1 | h1 | h1
  · exact .inl h1
  · subst h1; exact .inr (.inr ha)
  · exact .inr (.inr h1)

theorem UWork.over {g : Gram} (hg : InG g) {ws r : List Bool} (h : UWork g ws r [] (fun _ => False)) : UClosed g ws r := by
  intro q hq hl hp s hs h0
  obtain ⟨u, hu⟩ : ∃ u : Nat, q.left = u := ⟨q.left.toNat, by have := hg.left0 q hq; omega⟩
  rw [hu] at hl
  rcases h.closed u hl with h1 | h1 | h1
  · cases h1
  · exact h1.elim
  · exact h1 q hq hu hp s hs h0

/-! ### Rounds -/

def RUr (ws o : List Bool) (r : GRule) (j : Nat) : Prop := hold o r.left → prdB r.right ws = true → ∀ (p : Nat) (s : Int), p < j → r.right[p]? = some s → 0 ≤ s → hold o s

/-- A round, midway: `k` rules are done, and `j` symbols of the next one. -/
structure RU (g : Gram) (ws o0 o : List Bool) (k j : Nat) : Prop where
  len : o.length = o0.length
  sound : ∀ v, hold o v → Usd g v
  mono : ∀ v, hold o0 v → hold o v
  stay : UClosed g ws o0 → ∀ v, hold o v → hold o0 v
  prog : (o = o0 ∧ (∀ (i : Nat) (h : i < g.rules.length), i < k → RUr ws o0 g.rules[i] g.rules[i].right.length) ∧ ∀ h : k < g.rules.length, RUr ws o0 g.rules[k] j) ∨ o0.count true < o.count true

theorem RUr.zero (ws o : List Bool) (r : GRule) : RUr ws o r 0 := fun _ _ _ _ h => absurd h (Nat.not_lt_zero _)

section
variable {g : Gram} {ws o0 o : List Bool} {k j : Nat}

theorem RU.start (hs : ∀ v, hold o0 v → Usd g v) : RU g ws o0 o0 0 0 := ⟨rfl, hs, fun _ h => h, fun _ _ h => h, .inl ⟨rfl, fun i h hi => absurd hi (Nat.not_lt_zero _), fun _ => .zero _ _ _⟩⟩

theorem RU.skip (h : RU g ws o0 o k j) (hk : k < g.rules.length) {s : Int} (hs : g.rules[k].right[j]? = some s) (hn : ¬ (0 ≤ s ∧ hold o g.rules[k].left ∧ prdB g.rules[k].right ws = true)) : RU g ws o0 o k (j + 1) := by
  refine ⟨h.len, h.sound, h.mono, h.stay, ?_⟩
  rcases h.prog with ⟨e, h1, h2⟩ | h1
  · refine .inl ⟨e, h1, fun _ hl hp p t hpj ht h0 => ?_⟩
    by_cases hj : p = j
    · subst hj
      rw [hs] at ht
      cases ht
      exact absurd ⟨h0, by rw [e]; exact hl, hp⟩ hn
    · exact h2 hk hl hp p t (by omega) ht h0
  · exact .inr h1

theorem count_set_le {l : List Bool} {i : Nat} (hi : i < l.length) : l.count true ≤ (l.set i true).count true :=
  count_le_of (by simp) fun v hv hv2 => by
    rw [List.getD_eq_getElem?_getD, List.getElem?_set]
    split
    · rename_i e; subst e; simp [hv]
    · rwa [← List.getD_eq_getElem?_getD]

theorem RU.take (h : RU g ws o0 o k j) (hk : k < g.rules.length) (hws : ∀ v, hold ws v ↔ Prd g v) {s : Nat} (hs : g.rules[k].right[j]? = some (s : Int)) (hsl : s < o.length) (hl : hold o g.rules[k].left) (hp : prdB g.rules[k].right ws = true) :
    RU g ws o0 (o.set s true) k (j + 1) := by
  have hus : Usd g s := .step k hk (h.sound _ hl) (fun t ht h0 => (hws t).1 (prdB_hold.1 hp t ht h0)) (List.mem_of_getElem? hs) (by omega)
  refine ⟨by rw [List.length_set]; exact h.len, fun v hv => ?_, fun v hv => (hold_setI hsl).2 (.inr (h.mono v hv)), fun hc v hv => ?_, ?_⟩
  · rcases (hold_setI hsl).1 hv with rfl | hv
    · exact hus
    · exact h.sound v hv
  · rcases (hold_setI hsl).1 hv with rfl | hv
    · exact hc _ (List.getElem_mem hk) (h.stay hc _ hl) hp _ (List.mem_of_getElem? hs) (by omega)
    · exact h.stay hc v hv
  · rcases h.prog with ⟨e, h1, h2⟩ | h1
    · subst e
      cases hb : o[s] with
      | true =>
        have hsame : o.set s true = o := by
          apply List.ext_getElem? ; intro q
          rw [List.getElem?_set]
          split
          · rename_i e; subst e; simp [hsl, hb]
          · rfl
        rw [hsame]
        refine .inl ⟨rfl, h1, fun _ hl hp p t hpj ht h0 => ?_⟩
        by_cases hj : p = j
        · subst hj
          rw [hs] at ht
          cases ht
          exact hold_nat.2 (by rw [List.getElem?_eq_getElem hsl, hb])
        · exact h2 hk hl hp p t (by omega) ht h0
      | false =>
        right
        refine count_lt_of (w := s) (by simp) (fun v hv hv2 => ?_) hsl ?_ ?_
        · rw [List.getD_eq_getElem?_getD, List.getElem?_set]
          split
          · rename_i e; subst e; simp [hv]
          · rwa [← List.getD_eq_getElem?_getD]
        · rw [List.getD_eq_getElem?_getD, List.getElem?_eq_getElem hsl, hb]; rfl
        · rw [List.getD_eq_getElem?_getD, List.getElem?_set]; simp [hsl]
    · exact .inr (Nat.lt_of_lt_of_le h1 (count_set_le hsl))

theorem RU.rule (h : RU g ws o0 o k j) (hk : k < g.rules.length) (hj : g.rules[k].right.length ≤ j) : RU g ws o0 o (k + 1) 0 := by
  refine ⟨h.len, h.sound, h.mono, h.stay, ?_⟩
  rcases h.prog with ⟨e, h1, h2⟩ | h1
  · refine .inl ⟨e, fun i hi hik => ?_, fun _ => .zero _ _ _⟩
    by_cases e2 : i = k
    · subst e2
      exact fun hl hp p s hpl hs h0 => h2 hk hl hp p s (by omega) hs h0
    · exact h1 i hi (by omega)
  · exact .inr h1

/-- What a round comes to. -/
theorem RU.next (h : RU g ws o0 o g.rules.length 0) {n : Nat} (hp : UClosed g ws o0 ∨ n ≤ o0.count true) : UClosed g ws o ∨ n + 1 ≤ o.count true := by
  have clo : ∀ o : List Bool, (∀ (i : Nat) (h : i < g.rules.length), i < g.rules.length → RUr ws o g.rules[i] g.rules[i].right.length) → UClosed g ws o := by
    intro o h r hr hl hp s hs h0
    obtain ⟨i, hi, rfl⟩ := List.getElem_of_mem hr
    obtain ⟨p, hp', rfl⟩ := List.getElem_of_mem hs
    exact h i hi hi hl hp p _ hp' (List.getElem?_eq_getElem hp') h0
  rcases h.prog with ⟨e, h1, _⟩ | h1
  · subst e
    exact .inl (clo _ h1)
  · rcases hp with hc | hc
    · left
      intro r hr hl hpr t ht h0
      exact h.mono _ (hc r hr (h.stay hc _ hl) hpr t ht h0)
    · exact .inr (by omega)
end

/-- As many rounds as there are variables are enough. -/
theorem uclosed_full {g : Gram} (hg : InG g) {ws o : List Bool} (hl : o.length = g.vars.length) (h : UClosed g ws o ∨ g.vars.length ≤ o.count true) : UClosed g ws o := by
  rcases h with h | h
  · exact h
  · intro r hr _ _ s hs h0
    have hall : ∀ b ∈ o, true = b := List.count_eq_length.1 (Nat.le_antisymm List.count_le_length (by omega))
    obtain ⟨u, rfl⟩ : ∃ u : Nat, s = u := ⟨s.toNat, by omega⟩
    have hu : u < o.length := by have := hg.right r hr _ hs; omega
    rw [hold_nat, List.getElem?_eq_getElem hu, ← hall _ (List.getElem_mem hu)]

/-! ### What shortest words cost, by rounds -/

theorem wd_list {g : Gram} {c : Nat → Nat} : ∀ r : List Int, (∀ s ∈ r, 0 ≤ s → WdL g [s] (c s.toNat)) → WdL g r (sumC c r) := by
  intro r
  induction r with
  | nil => intro _; exact .nil
  | cons s r ihr =>
    intro hr
    have hrest := ihr fun t ht => hr t (by simp [ht])
    rw [sumC]
    by_cases hs : s < 0
    · rw [if_pos hs, Nat.add_comm]
      exact .term hs hrest
    · rw [if_neg hs]
      have hm := hr s (by simp) (by omega)
      have join : ∀ (x : List Int) (a : Nat), WdL g x a → x = [s] → WdL g (s :: r) (a + sumC c r) := by
        intro x a hx
        cases hx with
        | nil => intro e; cases e
        | term h k' => intro e; simp at e; omega
        | @var i' h' rest a' b' x' k' =>
          intro e
          simp at e
          obtain ⟨e1, e2⟩ := e
          subst e2
          cases k'
          rw [← e1]
          exact .var h' x' hrest
      exact join _ _ hm rfl

theorem sumC_mono {c o : Nat → Nat} : ∀ r : List Int, (∀ s ∈ r, 0 ≤ s → c s.toNat ≤ o s.toNat) → sumC c r ≤ sumC o r := by
  intro r
  induction r with
  | nil => intro _; exact Nat.le_refl _
  | cons s r ih =>
    intro h
    have h1 := ih fun t ht => h t (by simp [ht])
    simp only [sumC]
    by_cases hs : s < 0
    · simp only [hs, if_true]; omega
    · have := h s (by simp) (by omega)
      simp only [hs, if_false]; omega

theorem sumC_ge {c : Nat → Nat} : ∀ {r : List Int} {s : Int}, s ∈ r → 0 ≤ s → c s.toNat ≤ sumC c r := by
  intro r
  induction r with
  | nil => intro s h; cases h
  | cons t r ih =>
    intro s hs h0
    simp only [sumC]
    rcases List.mem_cons.1 hs with rfl | hs
    · rw [if_neg (by omega)]; omega
    · have := ih hs h0; omega

/-- The document's sum of a rule, cut at Far at each variable. -/
def sumF (c : Nat → Nat) : Nat → List Int → Nat
  | a, [] => a
  | a, s :: rest => sumF c (if s < 0 then a + 1 else min (a + c s.toNat) farN) rest
theorem sumF_min (c : Nat → Nat) : ∀ (r : List Int) (a b : Nat), min a farN = min b farN → min (sumF c a r) farN = min (b + sumC c r) farN := by
  intro r
  induction r with
  | nil => intro a b h; simpa [sumF, sumC] using h
  | cons s r ih =>
    intro a b h
    simp only [sumF, sumC]
    by_cases hs : s < 0
    · simp only [hs, if_true]
      rw [ih (a + 1) (b + 1) (by omega)]; congr 1; omega
    · simp only [hs, if_false]
      rw [ih _ (b + c s.toNat) (by omega)]; congr 1; omega
theorem sumF_snoc (c : Nat → Nat) : ∀ (r : List Int) (a : Nat) (s : Int), sumF c a (r ++ [s]) = if s < 0 then sumF c a r + 1 else min (sumF c a r + c s.toNat) farN := by
  intro r
  induction r with
  | nil => intro a s; rfl
  | cons t r ih => intro a s; simp only [List.cons_append, sumF]; exact ih _ s

structure Least (g : Gram) (c : Nat → Nat) : Prop where
  cap : ∀ v, v < g.vars.length → c v ≤ farN
  rel : ∀ r ∈ g.rules, c r.left.toNat ≤ min (sumC c r.right) farN

theorem CostOK.cap {g : Gram} {c : Nat → Nat} {b : Nat → Int} (h : CostOK g c b) : ∀ v, v < g.vars.length → c v ≤ farN := by
  obtain ⟨ord, hr, hall⟩ := h.ranked
  intro v hv
  rcases hall v hv with h1 | ⟨_, h1, _⟩
  · have key : ∀ l : List Nat, Ranked g c b l → ∀ v, v ∈ l → c v ≤ farN := by
      intro l hl
      induction hl with
      | nil => intro v hv; cases hv
      | snoc h hv hi hb hl hr hc hf ih =>
        intro w hw
        rcases List.mem_append.1 hw with hw | hw
        · exact ih w hw
        · simp at hw; subst hw; omega
    exact key ord hr v h1
  · omega

theorem CostOK.rel {g : Gram} (hg : InG g) {c : Nat → Nat} {b : Nat → Int} (h : CostOK g c b) : Least g c := by
  have hcap := h.cap
  refine ⟨hcap, fun r hr => ?_⟩
  have hl0 := hg.left0 r hr
  have hl1 := hg.left1 r hr
  have hc := hcap r.left.toNat (by omega)
  rcases Nat.lt_or_ge (sumC c r.right) farN with hs | hs
  · obtain ⟨ord, hrk, hall⟩ := h.ranked
    have hw : WdL g r.right (sumC c r.right) := wd_list _ fun s hs' h0 => by
      have := sumC_ge (c := c) hs' h0
      rcases hall s.toNat (by have := hg.right r hr s hs'; omega) with h1 | ⟨_, h1, _⟩
      · have := hrk.wd _ h1
        rwa [Int.toNat_of_nonneg h0] at this
      · omega
    obtain ⟨i, hi, rfl⟩ := List.getElem_of_mem hr
    have hv := WdL.var hi hw .nil
    have := h.least g.rules[i].left.toNat _ (by omega) (by rw [Int.toNat_of_nonneg hl0]; exact hv)
    omega
  · omega

/-- Rank by rank. -/
theorem Ranked.at {g : Gram} {c : Nat → Nat} {b : Nat → Int} {l : List Nat} (h : Ranked g c b l) : ∀ (i v : Nat), l[i]? = some v → ∃ q, ∃ hq : q < g.rules.length, b v = (q : Int) ∧ g.rules[q].left = (v : Int) ∧ (∀ s ∈ g.rules[q].right, 0 ≤ s → ∃ p, p < i ∧ l[p]? = some s.toNat) ∧ c v = sumC c g.rules[q].right ∧ c v < farN := by
  induction h with
  | nil => intro i v h; simp at h
  | @snoc l v' q h hv hi hb hl hr hc hf ih =>
    intro i v e
    rw [List.getElem?_append] at e
    split at e
    · rename_i hil
      obtain ⟨q, hq, h1, h2, h3, h4⟩ := ih i v e
      refine ⟨q, hq, h1, h2, fun s hs h0 => ?_, h4⟩
      obtain ⟨p, hp, e2⟩ := h3 s hs h0
      exact ⟨p, hp, by rw [List.getElem?_append_left (by omega)]; exact e2⟩
    · rename_i hil
      have hi0 : i - l.length = 0 := by
        cases hx : i - l.length with
        | zero => rfl
        | succ k => rw [hx] at e; simp at e
      rw [hi0] at e
      simp at e
      subst e
      refine ⟨q, hi, hb, hl, fun s hs h0 => ?_, hc, hf⟩
      obtain ⟨p, hp, e2⟩ := List.getElem_of_mem (hr s hs h0)
      exact ⟨p, by omega, by rw [List.getElem?_append_left hp, List.getElem?_eq_getElem hp, e2]⟩

/-- Rounds over the rules, each in its place: `i` rounds are done, and `k` rules of the next one. -/
structure BF (g : Gram) (c : Nat → Nat) (b : Nat → Int) (ord : List Nat) (o : Nat → Nat) (i k : Nat) : Prop where
  lo : ∀ v, v < g.vars.length → c v ≤ o v
  hi : ∀ v, v < g.vars.length → o v ≤ farN
  rank : ∀ p v, p < i → ord[p]? = some v → o v = c v
  cur : ∀ v q, ord[i]? = some v → q < k → b v = (q : Int) → o v = c v

section
variable {g : Gram} {c : Nat → Nat} {b : Nat → Int} {ord : List Nat} {o : Nat → Nat} {i k : Nat}

theorem BF.start (hc : Least g c) (ho : ∀ v, v < g.vars.length → o v = farN) : BF g c b ord o 0 0 :=
  ⟨fun v hv => by rw [ho v hv]; exact hc.cap v hv, fun v hv => by rw [ho v hv]; exact Nat.le_refl _, fun p v hp => absurd hp (Nat.not_lt_zero _), fun v q _ hq => absurd hq (Nat.not_lt_zero _)⟩

theorem BF.relax (h : BF g c b ord o i k) (hg : InG g) (hc : Least g c) (hr : Ranked g c b ord) (hk : k < g.rules.length) {l : Nat} (hl : g.rules[k].left = (l : Int)) {m : Nat} (hm : min m farN = min (sumC o g.rules[k].right) farN) {o' : Nat → Nat} (ho' : ∀ v, o' v = if v = l then min (o l) m else o v) : BF g c b ord o' i (k + 1) := by
  have hmem := List.getElem_mem hk
  have hlv : l < g.vars.length := by have := hg.left1 _ hmem; omega
  have hcl := hc.rel _ hmem
  rw [hl, Int.toNat_natCast] at hcl
  have hmono : sumC c g.rules[k].right ≤ sumC o g.rules[k].right := sumC_mono _ fun s hs h0 => h.lo _ (by have := hg.right _ hmem s hs; omega)
  have hcm : c l ≤ m := by omega
  have keep : ∀ v, v < g.vars.length → o v = c v → o' v = c v := by
    intro v hv e
    rw [ho']; split
    · rename_i e2; subst e2; omega
    · exact e
  refine ⟨fun v hv => ?_, fun v hv => ?_, fun p v hp e => ?_, fun v q e hq hb => ?_⟩
  · rw [ho']; split
    · rename_i e; subst e; have := h.lo v hv; omega
    · exact h.lo v hv
  · rw [ho']; split
    · rename_i e; subst e; have := h.hi v hv; omega
    · exact h.hi v hv
  · exact keep v (hr.lt hg v (List.mem_of_getElem? e)) (h.rank p v hp e)
  · have hv := hr.lt hg v (List.mem_of_getElem? e)
    by_cases hqk : q < k
    · exact keep v hv (h.cur v q e hqk hb)
    · have : q = k := by omega
      subst this
      obtain ⟨q', hq', b1, b2, b3, b4, b5⟩ := hr.at i v e
      have : q' = q := by omega
      subst this
      have hvl : v = l := by omega
      subst hvl
      have hs : sumC o g.rules[q'].right = sumC c g.rules[q'].right := by
        apply Nat.le_antisymm
        · refine sumC_mono _ fun s hs h0 => ?_
          obtain ⟨p, hp, e2⟩ := b3 s hs h0
          exact Nat.le_of_eq (h.rank p _ hp e2)
        · exact hmono
      rw [ho', if_pos rfl]
      have := h.lo v hv
      omega

theorem BF.next (h : BF g c b ord o i g.rules.length) (hr : Ranked g c b ord) : BF g c b ord o (i + 1) 0 := by
  refine ⟨h.lo, h.hi, fun p v hp e => ?_, fun v q _ hq => absurd hq (Nat.not_lt_zero _)⟩
  by_cases hpi : p < i
  · exact h.rank p v hpi e
  · have : p = i := by omega
    subst this
    obtain ⟨q, hq, b1, _⟩ := hr.at p v e
    exact h.cur v q e hq b1

end

/-- As many rounds as there are variables: what comes is what Cost tells. -/
theorem BF.over {g : Gram} (hg : InG g) {c : Nat → Nat} {b : Nat → Int} {ord : List Nat} (hr : Ranked g c b ord) (hall : ∀ v, v < g.vars.length → v ∈ ord ∨ v ∉ ord ∧ c v = farN ∧ b v = -1) {o : Nat → Nat} (h : BF g c b ord o g.vars.length 0) : ∀ v, v < g.vars.length → o v = c v := by
  intro v hv
  rcases hall v hv with h1 | ⟨_, h1, _⟩
  · obtain ⟨p, hp, e⟩ := List.getElem_of_mem h1
    have := nodup_le g.vars.length ord hr.nodup (hr.lt hg)
    exact h.rank p v (by omega) (by rw [List.getElem?_eq_getElem hp, e])
  · have h2 := h.lo v hv
    have h3 := h.hi v hv
    omega

end Go.AM

/- Words by the best rules; what a derivation of a word goes through: plainly. -/
namespace Go.AM

/-- Trees by the best rules, with their words. -/
inductive PreW (g : Gram) (b : Nat → Int) : List Int → List Int → List Int → Prop
  | nil : PreW g b [] [] []
  | term {s : Int} {rest d w : List Int} (h : s < 0) (k : PreW g b rest d w) : PreW g b (s :: rest) d (s :: w)
  | var {i v : Nat} (hi : i < g.rules.length) (hb : b v = (i : Int)) (hl : g.rules[i].left = (v : Int)) {rest d1 d2 w1 w2 : List Int} (x : PreW g b g.rules[i].right d1 w1) (k : PreW g b rest d2 w2) : PreW g b ((v : Int) :: rest) ((i : Int) :: (d1 ++ d2)) (w1 ++ w2)

theorem Pre.word {g : Gram} {b : Nat → Int} {l d : List Int} (h : Pre g b l d) : ∃ w, PreW g b l d w := by
  induction h with
  | nil => exact ⟨[], .nil⟩
  | term h _ ih => obtain ⟨w, hw⟩ := ih; exact ⟨_, .term h hw⟩
  | var hi hb hl _ _ ih1 ih2 =>
    obtain ⟨w1, h1⟩ := ih1
    obtain ⟨w2, h2⟩ := ih2
    exact ⟨_, .var hi hb hl h1 h2⟩

theorem PreW.neg {g : Gram} {b : Nat → Int} {l d w : List Int} (h : PreW g b l d w) : ∀ s ∈ w, s < 0 := by
  induction h with
  | nil => intro s hs; cases hs
  | term h _ ih =>
    intro s hs
    rcases List.mem_cons.1 hs with rfl | hs
    · exact h
    · exact ih s hs
  | var _ _ _ _ _ ih1 ih2 =>
    intro s hs
    rcases List.mem_append.1 hs with hs | hs
    · exact ih1 s hs
    · exact ih2 s hs

theorem Ranked.mem_at {g : Gram} {c : Nat → Nat} {b : Nat → Int} {ord : List Nat} (h : Ranked g c b ord) {v : Nat} (hv : v ∈ ord) : ∃ q, ∃ hq : q < g.rules.length, b v = (q : Int) ∧ g.rules[q].left = (v : Int) ∧ (∀ s ∈ g.rules[q].right, 0 ≤ s → s.toNat ∈ ord) ∧ c v = sumC c g.rules[q].right ∧ c v < farN := by
  obtain ⟨p, hp, e⟩ := List.getElem_of_mem hv
  obtain ⟨q, hq, h1, h2, h3, h4⟩ := h.at p v (by rw [List.getElem?_eq_getElem hp, e])
  refine ⟨q, hq, h1, h2, fun s hs h0 => ?_, h4⟩
  obtain ⟨p', _, e'⟩ := h3 s hs h0
  exact List.mem_of_getElem? e'

theorem PreW.len {g : Gram} {c : Nat → Nat} {b : Nat → Int} {ord : List Nat} (hr : Ranked g c b ord) {l d w : List Int} (h : PreW g b l d w) : (∀ s ∈ l, 0 ≤ s → s.toNat ∈ ord) → w.length = sumC c l := by
  induction h with
  | nil => intro _; rfl
  | term h _ ih =>
    intro hl
    rw [sumC, if_pos h, List.length_cons, ih fun t ht => hl t (by simp [ht])]; omega
  | @var i v hi hb hl rest d1 d2 w1 w2 x k ih1 ih2 =>
    intro hm
    obtain ⟨q, hq, h1, h2, h3, h4, _⟩ := hr.mem_at (v := v) (by have := hm v (by simp) (by omega); simpa using this)
    have : i = q := by omega
    subst this
    rw [sumC, if_neg (by omega), Int.toNat_natCast, List.length_append, ih1 h3, ih2 fun t ht => hm t (by simp [ht]), h4]

theorem step_at {g : Gram} (hg : InG g) {t rest : List Int} (ht : ∀ s ∈ t, s < 0) {i : Nat} (hi : i < g.rules.length) : stepS g (t ++ g.rules[i].left :: rest) (i : Int) = (t ++ g.rules[i].right ++ rest, 0) := by
  have h0 := hg.left0 _ (List.getElem_mem hi)
  have hn : AM.neg g.rules[i].left = false := by simp [AM.neg]; exact h0
  have ht' : ∀ s ∈ t, AM.neg s = true := fun s hs => by simp [AM.neg]; exact ht s hs
  have h1 : (t ++ g.rules[i].left :: rest).takeWhile AM.neg = t := by
    rw [List.takeWhile_append_of_pos ht', List.takeWhile_cons, hn]; simp
  have h2 : (t ++ g.rules[i].left :: rest).dropWhile AM.neg = g.rules[i].left :: rest := by
    rw [List.dropWhile_append_of_pos ht', List.dropWhile_cons, hn]; simp
  unfold stepS
  rw [if_neg (by omega), h1, h2]
  simp only [Int.toNat_natCast, List.getElem?_eq_getElem hi]
  rw [if_pos trivial]

theorem PreW.replay {g : Gram} (hg : InG g) {b : Nat → Int} {l d w : List Int} (h : PreW g b l d w) : ∀ (t F rest : List Int) (k : Nat), (∀ s ∈ t, s < 0) → replayS g (t ++ l ++ F) (d ++ rest) k = replayS g (t ++ w ++ F) rest (k + d.length) := by
  induction h with
  | nil => intro t F rest k _; rfl
  | @term s r d w hs _ ih =>
    intro t F rest k ht
    have := ih (t ++ [s]) F rest k (fun x hx => by
      rcases List.mem_append.1 hx with hx | hx
      · exact ht x hx
      · have : x = s := by simpa using hx
        omega)
    simpa using this
  | @var i v hi hb hl r d1 d2 w1 w2 x _ ih1 ih2 =>
    intro t F rest k ht
    have e1 : t ++ ((v : Int) :: r) ++ F = t ++ g.rules[i].left :: (r ++ F) := by rw [hl]; simp
    have e2 : ((i : Int) :: (d1 ++ d2)) ++ rest = (i : Int) :: (d1 ++ (d2 ++ rest)) := by simp
    have hs := step_at hg ht hi (rest := r ++ F)
    rw [e1, e2]
    simp only [replayS, hs, if_true]
    rw [ih1 t (r ++ F) (d2 ++ rest) (k + 1) ht]
    have hw1 := x.neg
    have := ih2 (t ++ w1) F rest (k + 1 + d1.length) (fun s hs => by
      rcases List.mem_append.1 hs with hs | hs
      · exact ht s hs
      · exact hw1 s hs)
    have e3 : t ++ w1 ++ (r ++ F) = t ++ w1 ++ r ++ F := by simp
    have e4 : t ++ (w1 ++ w2) ++ F = t ++ w1 ++ w2 ++ F := by simp
    rw [e3, this, e4]
    congr 1
    simp; omega

theorem Pre.best {g : Gram} {b : Nat → Int} {l d : List Int} (h : Pre g b l d) : ∀ k ∈ d, ∃ (i : Nat) (hi : i < g.rules.length), k = (i : Int) ∧ b g.rules[i].left.toNat = (i : Int) := by
  induction h with
  | nil => intro k hk; cases hk
  | term _ _ ih => exact ih
  | @var i v hi hb hl _ d1 d2 _ _ ih1 ih2 =>
    intro k hk
    rcases List.mem_cons.1 hk with rfl | hk
    · exact ⟨i, hi, rfl, by rw [hl, Int.toNat_natCast, hb]⟩
    · rcases List.mem_append.1 hk with hk | hk
      · exact ih1 k hk
      · exact ih2 k hk

theorem Ranked.prd {g : Gram} {c : Nat → Nat} {b : Nat → Int} {l : List Nat} (h : Ranked g c b l) : ∀ v, v ∈ l → Prd g (v : Int) := by
  induction h with
  | nil => intro v hv; cases hv
  | @snoc l v i h hv hi hb hl hr hc hf ih =>
    intro w hw
    rcases List.mem_append.1 hw with hw | hw
    · exact ih w hw
    · simp at hw; subst hw
      rw [← hl]
      refine .mk i hi fun s hs h0 => ?_
      have := ih _ (hr s hs h0)
      rwa [Int.toNat_of_nonneg h0] at this

/-! ### How many steps the best rules take -/

theorem Pre.term_inv {g : Gram} {b : Nat → Int} {s : Int} {rest d : List Int} (hs : s < 0) (h : Pre g b (s :: rest) d) : Pre g b rest d := by
  generalize e : s :: rest = l at h
  cases h with
  | nil => cases e
  | term _ k => simp only [List.cons.injEq] at e; rw [e.2]; exact k
  | var => simp only [List.cons.injEq] at e; omega

theorem Pre.uniq {g : Gram} {b : Nat → Int} {l d : List Int} (h : Pre g b l d) : ∀ {d' : List Int}, Pre g b l d' → d = d' := by
  induction h with
  | nil => intro d' h'; exact h'.nil_inv.symm
  | term hs _ ih => intro d' h'; exact ih (h'.term_inv hs)
  | @var i v hi hb hl rest d1 d2 x k ih1 ih2 =>
    intro d' h'
    obtain ⟨i', hi', e1, e2, b1, b2, b3, b4, rfl⟩ := h'.cons_inv
    have : i = i' := by omega
    subst this
    rw [ih1 b3, ih2 b4]

open Classical in
noncomputable def szOf (g : Gram) (b : Nat → Int) (v : Nat) : Nat := if h : ∃ D, Pre g b [(v : Int)] D then (Classical.choose h).length else 0
theorem szOf_eq {g : Gram} {b : Nat → Int} {v : Nat} {D : List Int} (h : Pre g b [(v : Int)] D) : szOf g b v = D.length := by
  unfold szOf
  have hx : ∃ D, Pre g b [(v : Int)] D := ⟨D, h⟩
  rw [dif_pos hx, (Classical.choose_spec hx).uniq h]

def sumV (c : Nat → Nat) : List Int → Nat
  | [] => 0
  | s :: rest => (if s < 0 then 0 else c s.toNat) + sumV c rest

theorem sumV_pre {g : Gram} {b : Nat → Int} {l d : List Int} (h : Pre g b l d) : sumV (szOf g b) l = d.length := by
  induction h with
  | nil => rfl
  | term hs _ ih => rw [sumV, if_pos hs, ih]; omega
  | @var i v hi hb hl rest d1 d2 x k ih1 ih2 =>
    rw [sumV, if_neg (by omega), Int.toNat_natCast, szOf_eq (.var hi hb hl x .nil), ih2]
    simp; omega

def wideM : Nat := 1048576
def wfold (st : Nat → Nat) : Nat → List Int → Nat
  | n, [] => n
  | n, s :: r => wfold st (if s < 0 then n else min (n + st s.toNat) wideM) r

theorem wfold_le (st : Nat → Nat) : ∀ (r : List Int) (n : Nat), n ≤ wideM → wfold st n r ≤ wideM := by
  intro r
  induction r with
  | nil => intro n h; exact h
  | cons s r ih =>
    intro n h
    simp only [wfold]
    apply ih
    split
    · exact h
    · exact Nat.min_le_right _ _

theorem wfold_eq {st sz : Nat → Nat} : ∀ (r : List Int) (n n' : Nat), (∀ s ∈ r, 0 ≤ s → st s.toNat = min (sz s.toNat) wideM) → n = min n' wideM → wfold st n r = min (n' + sumV sz r) wideM := by
  intro r
  induction r with
  | nil => intro n n' _ h; simpa [wfold, sumV] using h
  | cons s r ih =>
    intro n n' h hn
    simp only [wfold, sumV]
    by_cases hs : s < 0
    · simp only [hs, if_true, Nat.zero_add]
      exact ih n n' (fun t ht => h t (by simp [ht])) hn
    · simp only [hs, if_false]
      rw [ih _ (n' + sz s.toNat) (fun t ht => h t (by simp [ht])) (by rw [h s (by simp) (by omega), hn]; omega)]
      congr 1; omega

theorem wfold_snoc (st : Nat → Nat) : ∀ (r : List Int) (n : Nat) (s : Int), wfold st n (r ++ [s]) = if s < 0 then wfold st n r else min (wfold st n r + st s.toNat) wideM := by
  intro r
  induction r with
  | nil => intro n s; rfl
  | cons t r ih => intro n s; simp only [List.cons_append, wfold]; exact ih _ s

/-- Rounds over the variables: `i` rounds are done, and `k` variables of the next one. -/
structure WD (g : Gram) (b : Nat → Int) (ord : List Nat) (st : Nat → Nat) (i k : Nat) : Prop where
  rank : ∀ p v, p < i → ord[p]? = some v → st v = min (szOf g b v) wideM
  cur : ∀ v, ord[i]? = some v → v < k → st v = min (szOf g b v) wideM

section
variable {g : Gram} {c : Nat → Nat} {b : Nat → Int} {ord : List Nat} {st : Nat → Nat} {i k : Nat}

theorem WD.start (st : Nat → Nat) : WD g b ord st 0 0 := ⟨fun p v hp => absurd hp (Nat.not_lt_zero _), fun v _ hq => absurd hq (Nat.not_lt_zero _)⟩

/-- What comes for a variable whose symbols are all right. -/
theorem wide_new (hr : Ranked g c b ord) {p v : Nat} (hp : ord[p]? = some v) {q : Nat} (hq : q < g.rules.length) (hb : b v = (q : Int)) (hst : ∀ p' u, p' < p → ord[p']? = some u → st u = min (szOf g b u) wideM) : wfold st 1 g.rules[q].right = min (szOf g b v) wideM := by
  obtain ⟨q', hq', h1, h2, h3, h4, h5⟩ := hr.at p v hp
  have : q' = q := by omega
  subst this
  have hv : v ∈ ord := List.mem_of_getElem? hp
  obtain ⟨D, hD⟩ := hr.pre v hv
  obtain ⟨i, hi, d1, d2, e1, e2, x, y, rfl⟩ := hD.cons_inv
  have : i = q' := by omega
  subst this
  have hd2 := y.nil_inv
  subst hd2
  have e := sumV_pre x
  rw [szOf_eq hD]
  have := wfold_eq (st := st) (sz := szOf g b) g.rules[i].right 1 1 (fun s hs h0 => by
    obtain ⟨p', hp', e'⟩ := h3 s hs h0
    exact hst p' _ hp' e') (by decide)
  rw [this, e]
  congr 1
  simp; omega

theorem WD.set (h : WD g b ord st i k) (hr : Ranked g c b ord) {m : Nat} (hm : ∀ q (hq : q < g.rules.length), b k = (q : Int) → m = wfold st 1 g.rules[q].right) {st' : Nat → Nat} (hst : ∀ v, st' v = if v = k then m else st v) : WD g b ord st' i (k + 1) := by
  refine ⟨fun p v hp e => ?_, fun v e hv => ?_⟩
  · rw [hst]; split
    · rename_i ek
      subst ek
      obtain ⟨q, hq, h1, _⟩ := hr.at p v e
      rw [hm q hq h1]
      exact wide_new hr e hq h1 fun p' u hp' e' => h.rank p' u (by omega) e'
    · exact h.rank p v hp e
  · rw [hst]; split
    · rename_i ek
      subst ek
      obtain ⟨q, hq, h1, _⟩ := hr.at i v e
      rw [hm q hq h1]
      exact wide_new hr e hq h1 fun p' u hp' e' => h.rank p' u hp' e'
    · exact h.cur v e (by omega)

theorem WD.next (h : WD g b ord st i k) (hk : ∀ v, v ∈ ord → v < k) : WD g b ord st (i + 1) 0 := by
  refine ⟨fun p v hp e => ?_, fun v _ hq => absurd hq (Nat.not_lt_zero _)⟩
  by_cases hpi : p < i
  · exact h.rank p v hpi e
  · have : p = i := by omega
    subst this
    exact h.cur v e (hk v (List.mem_of_getElem? e))

theorem WD.over (hg : InG g) (hr : Ranked g c b ord) (h : WD g b ord st g.vars.length 0) {v : Nat} (hv : v ∈ ord) : st v = min (szOf g b v) wideM := by
  obtain ⟨p, hp, e⟩ := List.getElem_of_mem hv
  have := nodup_le g.vars.length ord hr.nodup (hr.lt hg)
  exact h.rank p v (by omega) (by rw [List.getElem?_eq_getElem hp, e])
end

/-! ### Derivations of words -/

theorem WdL.append {g : Gram} {a b : List Int} {m n : Nat} (h : WdL g a m) (k : WdL g b n) : WdL g (a ++ b) (m + n) := by
  induction h with
  | nil => simpa using k
  | term hs _ ih => rw [List.cons_append, Nat.add_right_comm]; exact .term hs ih
  | var hi x _ _ ih => rw [List.cons_append, Nat.add_assoc]; exact .var hi x ih

theorem WdL.split {g : Gram} {l : List Int} {n : Nat} (h : WdL g l n) : ∀ {a b : List Int}, l = a ++ b → ∃ m k, n = m + k ∧ WdL g a m ∧ WdL g b k := by
  induction h with
  | nil =>
    intro a b e
    obtain ⟨rfl, rfl⟩ := List.append_eq_nil_iff.1 e.symm
    exact ⟨0, 0, rfl, .nil, .nil⟩
  | @term s rest n hs k ih =>
    intro a b e
    cases a with
    | nil => exact ⟨0, n + 1, by omega, .nil, by simp at e; rw [← e]; exact .term hs k⟩
    | cons x a =>
      simp at e
      obtain ⟨rfl, e⟩ := e
      obtain ⟨m, q, rfl, h1, h2⟩ := ih e
      exact ⟨m + 1, q, by omega, .term hs h1, h2⟩
  | @var i hi rest m n x k ihx ihk =>
    intro a b e
    cases a with
    | nil => exact ⟨0, m + n, by omega, .nil, by simp at e; rw [← e]; exact .var hi x k⟩
    | cons y a =>
      simp at e
      obtain ⟨rfl, e⟩ := e
      obtain ⟨p, q, rfl, h1, h2⟩ := ihk e
      exact ⟨m + p, q, by omega, .var hi x h1, h2⟩

theorem WdL.terms {g : Gram} : ∀ {t : List Int}, (∀ s ∈ t, s < 0) → WdL g t t.length := by
  intro t
  induction t with
  | nil => intro _; exact .nil
  | cons s t ih => intro h; exact .term (h s (by simp)) (ih fun x hx => h x (by simp [hx]))

theorem WdL.prd {g : Gram} {l : List Int} {n : Nat} (h : WdL g l n) : ∀ s ∈ l, 0 ≤ s → Prd g s := by
  induction h with
  | nil => intro s hs; cases hs
  | term hs _ ih =>
    intro s h h0
    rcases List.mem_cons.1 h with rfl | h
    · omega
    · exact ih s h h0
  | @var i hi rest m n x k ihx ihk =>
    intro s h h0
    rcases List.mem_cons.1 h with rfl | h
    · exact .mk i hi ihx
    · exact ihk s h h0

theorem WdL.nul {g : Gram} {l : List Int} {n : Nat} (h : WdL g l n) : n = 0 → (∀ r ∈ g.rules, 0 ≤ r.left) → ∀ s ∈ l, 0 ≤ s ∧ Nul g s := by
  induction h with
  | nil => intro _ _ s hs; cases hs
  | term hs _ ih => intro h; omega
  | @var i hi rest m n x k ihx ihk =>
    intro h hl s hs
    rcases List.mem_cons.1 hs with rfl | hs
    · exact ⟨hl _ (List.getElem_mem hi), .mk i hi (fun s hs => (ihx (by omega) hl s hs).1) fun s hs => (ihx (by omega) hl s hs).2⟩
    · exact ihk (by omega) hl s hs

/-- A derivation of a word: its forms become words, and each of its rules is a rule of use. -/
theorem replay_word {g : Gram} (hg : InG g) : ∀ (rules form t : List Int) (k q : Nat), replayS g form rules k = (t, q, 0) → (∀ s ∈ t, s < 0) →
    WdL g form t.length ∧ ((∀ s ∈ form, 0 ≤ s → Prd g s → Usd g s) → ∀ r ∈ rules, ∃ (i : Nat) (hi : i < g.rules.length), r = (i : Int) ∧ Usd g g.rules[i].left ∧ ∃ m, m ≤ t.length ∧ WdL g [g.rules[i].left] m) := by
  intro rules
  induction rules with
  | nil =>
    intro form t k q h ht
    simp [replayS] at h
    obtain ⟨rfl, _⟩ := h
    exact ⟨.terms ht, fun _ r hr => by cases hr⟩
  | cons r rules ih =>
    intro form t k q h ht
    simp only [replayS] at h
    split at h
    · rename_i he
      obtain ⟨h1, h2⟩ := ih _ t _ q h ht
      obtain ⟨i, hi, u, rest, rfl, e1, e2, hu⟩ := stepS_ok (g := g) (form := form) (r := r) (form' := (stepS g form r).1) (by rw [← he])
      rw [e2] at h1 h2
      obtain ⟨m1, m2, e3, w1, w2⟩ := h1.split (a := u ++ g.rules[i].right) (b := rest) rfl
      obtain ⟨m3, m4, e4, w3, w4⟩ := w1.split (a := u) (b := g.rules[i].right) rfl
      have hwl : WdL g (g.rules[i].left :: rest) (m4 + m2) := .var hi w4 w2
      refine ⟨?_, fun hform => ?_⟩
      · rw [e1, show t.length = m3 + (m4 + m2) by omega]
        exact w3.append hwl
      · have hprd : Prd g g.rules[i].left := .mk i hi w4.prd
        have hus : Usd g g.rules[i].left := hform _ (by rw [e1]; simp) (hg.left0 _ (List.getElem_mem hi)) hprd
        intro r hr
        rcases List.mem_cons.1 hr with rfl | hr
        · exact ⟨i, hi, rfl, hus, m4, by omega, by have := WdL.var hi w4 .nil; simpa using this⟩
        · refine h2 (fun s hs h0 hp => ?_) r hr
          rcases List.mem_append.1 hs with hs | hs
          · rcases List.mem_append.1 hs with hs | hs
            · exact hform s (by rw [e1]; simp [hs]) h0 hp
            · exact .step i hi hus w4.prd hs h0
          · exact hform s (by rw [e1]; simp [hs]) h0 hp
    · rename_i he
      simp at h
      exact absurd h.2.2 he

end Go.AM

/- Of a list, what stands ahead of its first number that is not below nought. -/
namespace Go.AM

theorem tw_at {l : List Int} {j : Nat} (hj : j < l.length) (h : ∀ s ∈ l.take j, s < 0) (h0 : 0 ≤ l[j]) : l.takeWhile neg = l.take j ∧ l.dropWhile neg = l[j] :: l.drop (j + 1) := by
  induction l generalizing j with
  | nil => simp at hj
  | cons a l ih =>
    cases j with
    | zero =>
      have e : neg a = false := by simp [neg]; simpa using h0
      simp [e]
    | succ j =>
      have ha := h a (by simp)
      have e : neg a = true := by simp [neg]; exact ha
      obtain ⟨h1, h2⟩ := ih (j := j) (by simpa using hj) (fun s hs => h s (by simp [hs])) (by simpa using h0)
      simp only [List.takeWhile_cons, List.dropWhile_cons, e, if_true, h1, h2]
      exact ⟨rfl, by simp⟩

theorem tw_all {l : List Int} (h : ∀ s ∈ l, s < 0) : l.takeWhile neg = l ∧ l.dropWhile neg = [] := by
  induction l with
  | nil => exact ⟨rfl, rfl⟩
  | cons a l ih =>
    have e : neg a = true := by simp [neg]; exact h a (by simp)
    obtain ⟨h1, h2⟩ := ih fun s hs => h s (by simp [hs])
    simp only [List.takeWhile_cons, List.dropWhile_cons, e, if_true, h1, h2]
    exact ⟨trivial, trivial⟩

end Go.AM
