/- A part of a proof. Its conditions: none. -/
import Derived.Test.YtplnndgdklfnfaaAmA
import Derived.ProofKit
import Derived.Deep.Slices
import Derived.Carry
import Derived.Test.YtplnndgdklfnfaaAmD
set_option linter.all false
/- From a reading of the arguments as data to objects of the abstract machine. -/
namespace Go.AM
open Go.RowKit

/-- CELLS READ AS A TYPE in a heap of the machine: integers, bools, floats, strings, slices and structs of these. -/
inductive AR (P : Program) (H : Heap) : TypeId → List Value → Prop where
  | bool (t : TypeId) (b : Bool) (ht : P.underlying t = some .bool) : AR P H t [.bool b]
  | int (t : TypeId) (k : IntKind) (n : Int) (ht : P.underlying t = some (.int k)) (hw : (Lit.int k n).wf = true) : AR P H t [.int k n]
  | float (t : TypeId) (k : FloatKind) (b : Nat) (ht : P.underlying t = some (.float k)) (hw : (Lit.float k b).wf = true) : AR P H t [.float k b]
  | string (t : TypeId) (s : ByteArray) (ht : P.underlying t = some .string) (hs : s.size ≤ maxLen) : AR P H t [.string s]
  | nil (t e : TypeId) (ht : P.underlying t = some (.slice e)) : AR P H t [.slice none 0 0]
  | slice (t e : TypeId) (x m : Nat) (cs : List Value) (ht : P.underlying t = some (.slice e)) (hx : H x = .cells cs e false) (hl : cs.length = m * P.cellsOf e) (hm : m ≤ maxLen)
      (he : ∀ i, i < m → AR P H e ((cs.drop (i * P.cellsOf e)).take (P.cellsOf e))) : AR P H t [.slice (some ⟨x, 0, none⟩) m m]
  | struct (t : TypeId) (fs : Array Field) (cs : List Value) (ht : P.underlying t = some (.struct fs)) (hl : cs.length = P.cellsOf t)
      (hf : ∀ (i : Nat) (f : Field), fs[i]? = some f → AR P H f.type ((cs.drop f.offset).take (P.cellsOf f.type))) : AR P H t cs

theorem AR.mono {P : Program} {H H' : Heap} {t : TypeId} {cs : List Value} (h : AR P H t cs) (hle : ∀ x, H x ≠ .dead → H' x = H x) : AR P H' t cs := by
  induction h with
  | bool t b ht => exact .bool t b ht
  | int t k n ht hw => exact .int t k n ht hw
  | float t k b ht hw => exact .float t k b ht hw
  | string t s ht hs => exact .string t s ht hs
  | nil t e ht => exact .nil t e ht
  | slice t e x m cs ht hx hl hm _ ih => exact .slice t e x m cs ht (by rw [hle x (by rw [hx]; intro e; cases e), hx]) hl hm ih
  | struct t fs cs ht hl _ ih => exact .struct t fs cs ht hl ih

/-- Fields one behind the other, from a place on: where they end. -/
def lined (P : Program) : Nat → List Field → Nat → Bool
  | at_, [], stop => at_ == stop
  | at_, f :: fs, stop => f.offset == at_ && lined P (at_ + P.cellsOf f.type) fs stop

/-- Types that the machine reads. -/
def plainT (P : Program) : Nat → TypeId → Bool
  | 0, _ => false
  | d + 1, t => match P.underlying t with
    | some .bool | some (.int _) | some (.float _) | some .string => P.cellsOf t == 1
    | some (.slice e) => P.cellsOf t == 1 && decide (P.cellsOf e ≠ 0) && plainT P d e
    | some (.struct fs) => lined P 0 fs.toList (P.cellsOf t) && fs.toList.all fun f => plainT P d f.type
    | _ => false

/-- What is there of the arguments so far. -/
structure Sofar (P : Program) (w : World) (ι : Inj) (C : Heap) (n : Nat) : Prop where
  hr : HR P w.heap.size ι C w
  free : ∀ x, n ≤ x → ι x = none
  wf : WF n C
  ro : ∀ x t, ι x = some t → t.own = false

/-- .. and more of it. -/
structure More (ι : Inj) (C : Heap) (n : Nat) (κ : Inj) (C' : Heap) (n' : Nat) : Prop where
  le : Inj.le ι κ
  heap : ∀ x, C x ≠ .dead → C' x = C x
  n : n ≤ n'

theorem More.refl (ι : Inj) (C : Heap) (n : Nat) : More ι C n ι C n := ⟨Inj.le_refl ι, fun _ _ => rfl, Nat.le_refl _⟩
theorem More.trans {ι κ μ : Inj} {C C1 C2 : Heap} {n n1 n2 : Nat} (a : More ι C n κ C1 n1) (b : More κ C1 n1 μ C2 n2) : More ι C n μ C2 n2 :=
  ⟨Inj.le_trans a.le b.le, fun x h => by rw [b.heap x (by rw [a.heap x h]; exact h), a.heap x h], Nat.le_trans a.n b.n⟩

section
variable {P : Program} {w : World}

theorem Sofar.addRO {ι : Inj} {C : Heap} {n : Nat} (h : Sofar P w ι C n) {cs : List Value} {e : TypeId} {b o : Nat} (hb : b < w.heap.size)
    (hc : ∀ (i : Nat) (v : Value), cs[i]? = some v → ∃ v', w.cell? ⟨b, o + i, none⟩ = some v' ∧ VR ι v v' ∧ one v = true) :
    Sofar P w (iset ι n ⟨b, o, false, 0, 0⟩) (hset C n (.cells cs e false)) (n + 1) ∧ More ι C n (iset ι n ⟨b, o, false, 0, 0⟩) (hset C n (.cells cs e false)) (n + 1) := by
  have hn := h.free n (Nat.le_refl _)
  have hle := iset_le (ι := ι) ⟨b, o, false, 0, 0⟩ hn
  refine ⟨⟨⟨fun x => ?_, fun x y t u hx hy ex ey ho hbl => ?_, fun x t e => ?_, Nat.le_refl _⟩, fun x hx => ?_, fun x hx => ?_, fun x t e => ?_⟩, ⟨hle, fun x hx => ?_, Nat.le_succ n⟩⟩
  · rw [hset_apply]; split
    · rename_i e; subst e
      refine ⟨_, iset_same _ _ _, rfl, fun i v e => ?_, fun e => by cases e⟩
      obtain ⟨v', h1, h2, h3⟩ := hc i v e
      exact ⟨v', h1, h2.mono hle, h3⟩
    · exact (h.hr.obj x).carry hle fun _ _ => rfl
  · exfalso
    by_cases e : x = n
    · subst e; rw [iset_same] at ex; cases ex; cases ho
    · rw [iset_other _ _ e] at ex
      rw [h.ro x t ex] at ho; cases ho
  · by_cases e1 : x = n
    · subst e1; rw [iset_same] at e; cases e; exact ⟨hb, (fun k => by cases k), fun _ => hb⟩
    · rw [iset_other _ _ e1] at e; exact h.hr.rng x t e
  · rw [iset_other _ _ (by omega)]; exact h.free x (by omega)
  · rw [hset_other _ _ (by omega)]; exact h.wf x (by omega)
  · by_cases e1 : x = n
    · subst e1; rw [iset_same] at e; cases e; rfl
    · rw [iset_other _ _ e1] at e; exact h.ro x t e
  · by_cases e : x = n
    · subst e; exact absurd (h.wf x (Nat.le_refl _)) hx
    · exact hset_other _ _ e

theorem cells?_spec {base : Nat} {a : Addr} {m : Nat} {cs : List Value} (h : w.cells? base a m = some cs) : cs.length = m ∧ ∀ i, i < m → w.cell? (a.add i) = cs[i]? := by
  obtain ⟨_, h1, h2⟩ := World.cells?_some h
  exact ⟨h1, h2⟩

theorem VRs.one_of {κ : Inj} {l l' : List Value} (h : VRs κ l l') (h1 : ∀ v ∈ l', v.oneCell' = true) : l.all one = true := by
  rw [List.all_eq_true]
  intro v hv
  obtain ⟨i, hi, rfl⟩ := List.getElem_of_mem hv
  obtain ⟨v', e1, e2⟩ := h.get (List.getElem?_eq_getElem hi)
  rw [← e2.one]; exact h1 v' (List.mem_of_getElem? e1)

variable {H : Type} {enc : TypeId × Value → H}

/-- What opening some cells leaves. -/
def Opened (P : Program) (w : World) (ι : Inj) (C : Heap) (n : Nat) (t : TypeId) (cs : List Value) : Prop :=
  ∃ acs κ C' n', Sofar P w κ C' n' ∧ More ι C n κ C' n' ∧ VRs κ acs cs ∧ AR P C' t acs ∧ acs.length = P.cellsOf t ∧ acs.all one = true

theorem opened_flat {ι : Inj} {C : Heap} {n : Nat} {t : TypeId} {v : Value} (h : Sofar P w ι C n) (hf : still1 v = true) (hr : VR ι v v) (ha : AR P C t [v]) (hc : (P.cellsOf t == 1) = true) : Opened P w ι C n t [v] := by
  refine ⟨[v], ι, C, n, h, More.refl _ _ _, .cons hr (.nil ι), ha, ?_, by simp [still1_one hf]⟩
  have : P.cellsOf t = 1 := by simpa using hc
  simp [this]

theorem open_elems {e : TypeId} {a : Addr} {f : TypeId → List Value → Prop} {len : Nat} (hop : ∀ cs, f e cs → ∀ ι C n, Sofar P w ι C n → Opened P w ι C n e cs)
    (he : ∀ i, i < len → ∃ cs, w.cells? 0 (a.add (i * P.cellsOf e)) (P.cellsOf e) = some cs ∧ f e cs) : ∀ m, m ≤ len → ∀ ι C n, Sofar P w ι C n →
    ∃ (acs : List Value) (κ : Inj) (C' : Heap) (n' : Nat), Sofar P w κ C' n' ∧ More ι C n κ C' n' ∧ acs.length = m * P.cellsOf e ∧ (∀ i, i < m → AR P C' e ((acs.drop (i * P.cellsOf e)).take (P.cellsOf e))) ∧
      ∀ (i : Nat) (v : Value), acs[i]? = some v → ∃ v', w.cell? (a.add i) = some v' ∧ VR κ v v' ∧ one v = true := by
  intro m
  induction m with
  | zero => intro _ ι C n h; exact ⟨[], ι, C, n, h, More.refl _ _ _, by simp, fun i hi => by omega, fun i v e => by simp at e⟩
  | succ m ih =>
    intro hm ι C n h
    obtain ⟨acs, κ, C', n', h1, h2, h3, h4, h5⟩ := ih (by omega) ι C n h
    obtain ⟨cs, hcs, hf⟩ := he m (by omega)
    obtain ⟨bcs, μ, C'', n'', g1, g2, g3, g4, g5, g6⟩ := hop cs hf κ C' n' h1
    obtain ⟨hlen, hcell⟩ := cells?_spec hcs
    refine ⟨acs ++ bcs, μ, C'', n'', g1, h2.trans g2, by rw [List.length_append, h3, g5, Nat.succ_mul], fun i hi => ?_, fun i v hq => ?_⟩
    · by_cases him : i < m
      · have hle : i * P.cellsOf e + P.cellsOf e ≤ m * P.cellsOf e := by rw [← Nat.succ_mul]; exact Nat.mul_le_mul_right _ him
        rw [List.drop_append_of_le_length (by omega), List.take_append_of_le_length (by simp; omega)]
        exact (h4 i him).mono g2.heap
      · have : i = m := by omega
        subst this
        rw [← h3, List.drop_left, List.take_of_length_le (by omega)]
        exact g4
    · by_cases hia : i < acs.length
      · rw [List.getElem?_append_left hia] at hq
        obtain ⟨v', e1, e2, e3⟩ := h5 i v hq
        exact ⟨v', e1, e2.mono g2.le, e3⟩
      · rw [List.getElem?_append_right (by omega)] at hq
        obtain ⟨v', e1, e2⟩ := g3.get hq
        refine ⟨v', ?_, e2, List.all_eq_true.1 g6 v (List.mem_of_getElem? hq)⟩
        have hi' : i - acs.length < bcs.length := by
          rcases Nat.lt_or_ge (i - acs.length) bcs.length with g | g
          · exact g
          · rw [List.getElem?_eq_none g] at hq; cases hq
        have := hcell (i - acs.length) (by omega)
        rw [Go.Deep.add_add, ← h3, show acs.length + (i - acs.length) = i by omega] at this
        rw [this]; exact e1

theorem open_fields {f : TypeId → List Value → Prop} {cs : List Value} : ∀ (fs : List Field) (at_ stop : Nat), lined P at_ fs stop = true → stop ≤ cs.length →
    (∀ g ∈ fs, ∀ cs', f g.type cs' → ∀ ι C n, Sofar P w ι C n → Opened P w ι C n g.type cs') → (∀ g ∈ fs, f g.type ((cs.drop g.offset).take (P.cellsOf g.type))) → ∀ ι C n, Sofar P w ι C n →
    ∃ acs κ C' n', Sofar P w κ C' n' ∧ More ι C n κ C' n' ∧ VRs κ acs ((cs.drop at_).take (stop - at_)) ∧ acs.all one = true ∧ acs.length = stop - at_ ∧ at_ ≤ stop ∧
      ∀ g ∈ fs, at_ ≤ g.offset ∧ AR P C' g.type ((acs.drop (g.offset - at_)).take (P.cellsOf g.type)) := by
  intro fs
  induction fs with
  | nil =>
    intro at_ stop hl _ _ _ ι C n h
    have : at_ = stop := by simpa [lined] using hl
    subst this
    exact ⟨[], ι, C, n, h, More.refl _ _ _, by simpa using VRs.nil ι, rfl, by simp, Nat.le_refl _, fun g hg => by cases hg⟩
  | cons g fs ih =>
    intro at_ stop hl hst hop hf ι C n h
    simp only [lined, Bool.and_eq_true, beq_iff_eq] at hl
    obtain ⟨hoff, hl⟩ := hl
    obtain ⟨bcs, κ, C', n', g1, g2, g3, g4, g5, g6⟩ := hop g (by simp) _ (hf g (by simp)) ι C n h
    obtain ⟨acs, μ, C'', n'', h1, h2, h3, h4, h5, h6, h7⟩ := ih _ stop hl hst (fun g' hg' => hop g' (by simp [hg'])) (fun g' hg' => hf g' (by simp [hg'])) κ C' n' g1
    rw [hoff] at g3
    refine ⟨bcs ++ acs, μ, C'', n'', h1, g2.trans h2, ?_, by simp [g6, h4], by rw [List.length_append, g5, h5]; omega, by omega, fun g' hg' => ?_⟩
    · have e1 : (cs.drop at_).take (stop - at_) = (cs.drop at_).take (P.cellsOf g.type) ++ (cs.drop (at_ + P.cellsOf g.type)).take (stop - (at_ + P.cellsOf g.type)) := by
        have : stop - at_ = P.cellsOf g.type + (stop - (at_ + P.cellsOf g.type)) := by omega
        rw [this, List.take_add, List.drop_drop]
      rw [e1]
      exact (g3.mono h2.le).append h3
    · rcases List.mem_cons.1 hg' with e | e
      · subst e
        refine ⟨by omega, ?_⟩
        rw [hoff, Nat.sub_self, List.drop_zero, List.take_append_of_le_length (by omega), List.take_of_length_le (by omega)]
        exact g4.mono h2.heap
      · obtain ⟨k1, k2⟩ := h7 g' e
        refine ⟨by omega, ?_⟩
        rw [List.drop_append, List.drop_of_length_le (by omega), List.nil_append, g5, show g'.offset - at_ - P.cellsOf g.type = g'.offset - (at_ + P.cellsOf g.type) by omega]
        exact k2

theorem open_cells : ∀ (fuel d : Nat) (t : TypeId) (cs : List Value) (x : DataW H × List MemPlace), plainT P d t = true → DataW.trod enc P w 0 (fun _ => true) true fuel t cs = some x →
    ∀ ι C n, Sofar P w ι C n → Opened P w ι C n t cs := by
  intro fuel
  induction fuel with
  | zero => intro d t cs x _ h; simp [DataW.trod] at h
  | succ fuel ih =>
    intro d t cs x hp h ι C n hs
    cases d with
    | zero => simp [plainT] at hp
    | succ d =>
      simp only [plainT] at hp
      split at hp
      · rename_i ht
        obtain ⟨b, rfl, _⟩ := DataW.trod_bool ht h
        exact opened_flat hs rfl (.bool b) (.bool t b ht) hp
      · rename_i k ht
        obtain ⟨m, rfl, _, hw⟩ := DataW.trod_int ht h
        exact opened_flat hs rfl (.int k m) (.int t k m ht hw) hp
      · rename_i k ht
        have : ∃ b, cs = [.float k b] ∧ (Lit.float k b).wf = true := by
          unfold DataW.trod at h
          rw [ht] at h
          split at h <;> simp_all
        obtain ⟨b, rfl, hw⟩ := this
        exact opened_flat hs rfl (.float k b) (.float t k b ht hw) hp
      · rename_i ht
        obtain ⟨s, rfl, _, hw⟩ := DataW.trod_string ht h
        exact opened_flat hs rfl (.string s) (.string t s ht hw) hp
      · rename_i e ht
        simp only [Bool.and_eq_true, decide_eq_true_eq] at hp
        obtain ⟨⟨hc, he0⟩, hpe⟩ := hp
        have hc' : P.cellsOf t = 1 := by simpa using hc
        rcases DataW.trod_slice ht h with ⟨rfl, _⟩ | ⟨a, len, cap, elems, rest, m, hm, rfl, _, _, hlc, hmx, hel, h1, h2, _⟩
        · exact opened_flat hs rfl (.sliceNil none) (.nil t e ht) hc
        · have hmf : m = fuel := by omega
          subst hmf
          by_cases hcap : cap = 0
          · have hl0 : len = 0 := by omega
            subst hcap hl0
            refine ⟨[.slice none 0 0], ι, C, n, hs, More.refl _ _ _, .cons (.sliceNil (some a)) (.nil ι), .nil t e ht, by simp [hc'], rfl⟩
          · obtain ⟨hr1, hr2⟩ := h2 rfl
            have hsome : ∀ i, i < len → ∃ cs, w.cells? 0 (a.add (i * P.cellsOf e)) (P.cellsOf e) = some cs ∧ (∃ x, DataW.trod enc P w 0 (fun _ => true) true m e cs = some x) := by
              intro i hi
              have := h1 i hi
              rw [List.getElem?_eq_getElem (by omega)] at this
              obtain ⟨cs', e1, e2⟩ := Option.bind_eq_some_iff.1 this
              exact ⟨cs', e1, _, e2⟩
            have hfirst : ∃ cs, w.cells? 0 (a.add 0) (P.cellsOf e) = some cs := by
              by_cases hl : 0 < len
              · obtain ⟨cs', e1, _⟩ := hsome 0 hl
                exact ⟨cs', by simpa using e1⟩
              · have hl0 : len = 0 := by omega
                have := hr2 0 (by omega)
                rw [List.getElem?_eq_getElem (by omega)] at this
                obtain ⟨cs', e1, _⟩ := Option.bind_eq_some_iff.1 this
                exact ⟨cs', by simpa [hl0] using e1⟩
            obtain ⟨cs0, hcs0⟩ := hfirst
            obtain ⟨hl0, hcell0⟩ := cells?_spec hcs0
            have hc0 := hcell0 0 (by omega)
            rw [List.getElem?_eq_getElem (by omega)] at hc0
            have ha : a.add 0 = a := by simp [Addr.add]
            rw [ha, ha] at hc0
            have hblk : a.block < w.heap.size := World.block_lt_of_cell? w a hc0
            have hspot : a.spot = none := by
              unfold World.cell? at hc0
              cases hsp : a.spot with
              | none => rfl
              | some s => simp [hsp] at hc0; split at hc0 <;> simp at hc0
            obtain ⟨b, o, sp⟩ := a
            simp only at hspot hblk
            subst hspot
            obtain ⟨acs, κ, C', n', g1, g2, g3, g4, g5⟩ := open_elems (f := fun e cs => ∃ x, DataW.trod enc P w 0 (fun _ => true) true m e cs = some x)
              (fun cs' hx ι C n h => by obtain ⟨x, hx⟩ := hx; exact ih d e cs' x hpe hx ι C n h) hsome len (Nat.le_refl _) ι C n hs
            obtain ⟨k1, k2⟩ := g1.addRO (e := e) hblk (fun i v e => by
              obtain ⟨v', e1, e2⟩ := g5 i v e
              rw [add_lit] at e1
              exact ⟨v', e1, e2⟩)
            refine ⟨[.slice (some ⟨n', 0, none⟩) len len], _, _, n' + 1, k1, g2.trans k2, .cons ?_ (.nil _), ?_, by simp [hc'], rfl⟩
            · exact .slice n' 0 len o cap _ (iset_same _ _ _) (fun _ => rfl) hlc hmx (fun e => by cases e)
            · refine .slice t e n' len acs ht (hset_same _ _ _) g3 (by omega) fun i hi => (g4 i hi).mono k2.heap
      · rename_i fs ht
        simp only [Bool.and_eq_true, List.all_eq_true] at hp
        obtain ⟨xs, m, hm, _, hlen, hxs, hf⟩ := DataW.trod_struct ht h
        have hmf : m = fuel := by omega
        subst hmf
        obtain ⟨acs, κ, C', n', g1, g2, g3, g4, g5, _, g7⟩ := open_fields (w := w) (f := fun t cs => ∃ x, DataW.trod enc P w 0 (fun _ => true) true m t cs = some x) (cs := cs) fs.toList 0 (P.cellsOf t) hp.1 (by omega)
          (fun g hg cs' hx ι C n h => by obtain ⟨x, hx⟩ := hx; exact ih d g.type cs' x (hp.2 g hg) hx ι C n h)
          (fun g hg => by
            obtain ⟨i, hi, rfl⟩ := List.getElem_of_mem hg
            have hi' : i < fs.size := by simpa using hi
            have := hf i fs[i] (Array.getElem?_eq_getElem hi')
            rw [List.getElem?_eq_getElem (by omega)] at this
            exact ⟨_, by simpa using this⟩) ι C n hs
        refine ⟨acs, κ, C', n', g1, g2, ?_, ?_, by omega, g4⟩
        · simpa [List.take_of_length_le (Nat.le_of_eq hlen)] using g3
        · refine .struct t fs acs ht (by omega) fun i f hi => ?_
          have hmem : f ∈ fs.toList := by have := Array.mem_of_getElem? hi; simpa using this
          have := (g7 f hmem).2
          simpa using this
      · cases hp

end
end Go.AM

/- From a run of the machine at whatever readable arguments to the row's post: a law that answers true. -/
namespace Go.AM
open Go.RowKit Go.ChangeShapes Go.WideShapes Go.ChangeAt

section
variable {P : Program} {H : Type} {enc : TypeId × Value → H}

/-- The machine's values of some types. -/
def ARV (P : Program) (H : Heap) (t : TypeId) (v : Value) : Prop := AR P H t (vcells v) ∧ (aggT P t = some true → ∃ cs, v = .agg cs) ∧ (aggT P t = some false → one v = true)

inductive ARs (P : Program) (H : Heap) : List TypeId → List Value → Prop where
  | nil : ARs P H [] []
  | cons {t : TypeId} {v : Value} {ts : List TypeId} {vs : List Value} (h : ARV P H t v) (k : ARs P H ts vs) : ARs P H (t :: ts) (v :: vs)

theorem ARV.mono {H H' : Heap} {t : TypeId} {v : Value} (h : ARV P H t v) (hle : ∀ x, H x ≠ .dead → H' x = H x) : ARV P H' t v := ⟨h.1.mono hle, h.2⟩
theorem ARs.mono {H H' : Heap} {ts : List TypeId} {vs : List Value} (h : ARs P H ts vs) (hle : ∀ x, H x ≠ .dead → H' x = H x) : ARs P H' ts vs := by
  induction h with
  | nil => exact .nil
  | cons h _ ih => exact .cons (h.mono hle) ih

theorem one_of_ok {t : TypeId} {W : World} {base d : Nat} {v : Value} (hp : plainT P d t = true) (ha : aggT P t = some false) (h : Value.okWide P W .any base t v) : v.oneCell' = true := by
  cases d with
  | zero => simp [plainT] at hp
  | succ d =>
    unfold aggT at ha
    simp only [plainT] at hp
    unfold Value.okWide at h
    unfold Cell.okWide Cell.ok at h
    split at hp <;> rename_i ht <;> (try rw [ht] at ha) <;> (try rw [ht] at h) <;> (first | (cases ha; done) | (cases hp; done) | skip) <;>
      (cases v <;> first | rfl | (simp at h) | (simp at hp))

theorem open_args : ∀ (ts : List TypeId) (vs : List Value) (ds : List (DataW H)) (ps : List MemPlace) (W : World) (base d : Nat), (∀ t ∈ ts, plainT P d t = true) →
    (∀ (j : Nat) t v, ts[j]? = some t → vs[j]? = some v → Value.okWide P W .any base t v) → DataW.TrodAll enc P W 0 (fun _ => true) true ts vs ds ps →
    ∀ ι C n, Sofar P W ι C n → ∃ avs κ C' n', Sofar P W κ C' n' ∧ More ι C n κ C' n' ∧ VRs κ avs vs ∧ ARs P C' ts avs := by
  intro ts
  induction ts with
  | nil =>
    intro vs ds ps W base d _ _ h ι C n hs
    obtain ⟨rfl, _, _⟩ := trodAll_nil h
    exact ⟨[], ι, C, n, hs, More.refl _ _ _, .nil ι, .nil⟩
  | cons t ts ih =>
    intro vs ds ps W base d hp hok h ι C n hs
    obtain ⟨v, vs1, d1, ds1, a, b, rfl, rfl, rfl, h1, h2⟩ := trodAll_cons h
    obtain ⟨fuel, h1⟩ := h1
    obtain ⟨acs, κ, C1, n1, g1, g2, g3, g4, g5, g6⟩ := open_cells fuel d t _ _ (hp t (by simp)) h1 ι C n hs
    obtain ⟨avs, μ, C2, n2, k1, k2, k3, k4⟩ := ih vs1 ds1 b W base d (fun t' ht' => hp t' (by simp [ht'])) (fun j t' v' e1 e2 => hok (j + 1) t' v' (by simpa using e1) (by simpa using e2)) h2 κ C1 n1 g1
    have hov := hok 0 t v rfl rfl
    have hagg : ∃ b, aggT P t = some b := by
      have hpt := hp t (by simp)
      cases d with
      | zero => simp [plainT] at hpt
      | succ d =>
        simp only [plainT] at hpt
        unfold aggT
        split at hpt <;> rename_i ht <;> simp [ht]
        cases hpt
    obtain ⟨b, hb⟩ := hagg
    have hval : ∃ av, VR κ av v ∧ ARV P C1 t av := by
      cases b with
      | true =>
        have hv : ∃ cs, v = .agg cs := by
          unfold aggT at hb
          unfold Value.okWide at hov
          split at hb <;> rename_i ht <;> simp only [ht] at hov <;> (try (cases hb; done))
          all_goals (obtain ⟨cs, e, _⟩ := hov; exact ⟨cs, e⟩)
        obtain ⟨cs, rfl⟩ := hv
        refine ⟨.agg acs.toArray, ?_, ?_, fun _ => ⟨_, rfl⟩, fun e => by rw [hb] at e; cases e⟩
        · have := g3.agg; simpa [Value.cells] using this
        · simpa [vcells, Value.cells] using g4
      | false =>
        have hv1 := one_of_ok (hp t (by simp)) hb hov
        have hc : v.cells.toList = [v] := by cases v <;> first | rfl | (simp [Value.oneCell'] at hv1)
        rw [hc] at g3
        match acs, g3 with
        | [av], g3 =>
          obtain ⟨v', k, e, r1, _⟩ := g3.cons_inv
          simp only [List.cons.injEq] at e
          obtain ⟨rfl, _⟩ := e
          have ho : one av = true := by simpa using g6
          have hvc : vcells av = [av] := by cases av <;> first | rfl | (simp [one] at ho)
          exact ⟨av, r1, by rw [hvc]; exact g4, fun e => by (rw [hb] at e; cases e), fun _ => ho⟩
        | [], g3 => simp [VRs] at g3
        | _ :: _ :: _, g3 => simp [VRs] at g3
    obtain ⟨av, r1, r2⟩ := hval
    exact ⟨av :: avs, μ, C2, n2, k1, g2.trans k2, .cons (r1.mono k2.le) k3, .cons (r2.mono k2.heap) k4⟩

theorem trodAll_stays (hl : laidOutB P = true) {W W' : World} (hb : Below W.heap.size W W') : ∀ (ts : List TypeId) (vs : List Value) (ds : List (DataW H)) (ps : List MemPlace),
    (∀ t ∈ ts, P.readableRec t = true ∧ t < P.types.size) → DataW.TrodAll enc P W 0 (fun _ => true) true ts vs ds ps → (∀ x ∈ ps, x.block < W.heap.size) →
    DataW.TrodAll enc P W' 0 (fun b => decide (b < W.heap.size)) true ts vs ds ps := by
  intro ts
  induction ts with
  | nil => intro vs ds ps _ h _; obtain ⟨rfl, rfl, rfl⟩ := trodAll_nil h; exact rfl
  | cons t ts ih =>
    intro vs ds ps ht h hp
    obtain ⟨v, vs1, d1, ds1, a, b, rfl, rfl, rfl, h1, h2⟩ := trodAll_cons h
    obtain ⟨hr, hrow⟩ := ht t (by simp)
    exact ⟨a, b, Below.trod hl hr hrow h1 hb (fun x hx => hp x (by simp [hx])), ih vs1 ds1 b (fun t' h' => ht t' (by simp [h'])) h2 (fun x hx => hp x (by simp [hx])), rfl⟩

/-- WHAT A LAW WANTS: at whatever arguments the machine reads, its run answers true. -/
def LawRuns (P : Program) (F : FuncId) (ts : List TypeId) : Prop :=
  ∀ (n : Nat) (H : Heap) (vs : List Value), WF n H → ARs P H ts vs → ∃ n' H', BS P (.call F vs n H) (.ret (.bool true) n' H')

theorem law_contract (hm : P.follows .mixedOrders = true) (hl : laidOutB P = true) {F : FuncId} {fn : Func} {s : ChangeSpec} {d : Nat} {tb : TypeId} (hlaw : LawRuns P F fn.params.toList) (hvars : s.vars = [])
    (hspec : ∀ ds : List (DataW H), ds.length = fn.params.size → s.fn H ds = { results := [.lit (.bool true)], args := ds })
    (hp : ∀ t ∈ fn.params.toList, plainT P d t = true ∧ P.readableRec t = true ∧ t < P.types.size) (hres : fn.resultTypes = #[tb]) (htb : P.underlying tb = some .bool)
    (W : World) (base : Nat) (args : Array Value) (ds gs : List (DataW H)) (before : List MemPlace)
    (hval : ∀ (j : Nat) t v, fn.params[j]? = some t → args[j]? = some v → Value.okWide P W .any base t v) (hW : DataW.Whole enc P fn.params.toList s.vars false W args.toList ds gs before) :
    Calls P F args W fun e W' => ∃ v, e = .returned v ∧ s.post enc P fn false true false false W args v W' := by
  have hlt := hW.lt
  have hW' := hW
  obtain ⟨p, q, hA, hV, rfl, hfz, hnd⟩ := hW
  rw [hvars] at hV
  obtain ⟨rfl, rfl⟩ : gs = [] ∧ q = [] := by
    cases gs with
    | nil => exact ⟨rfl, hV⟩
    | cons => exact absurd hV (by simp [DataW.TrodVars])
  have hs0 : Sofar P W (fun _ => none) (fun _ => .dead) 0 := ⟨⟨fun x => trivial, fun x y t u hx => absurd rfl hx, fun x t e => by (cases e), Nat.le_refl _⟩, fun _ _ => rfl, fun _ _ => rfl, fun x t e => by (cases e)⟩
  obtain ⟨avs, κ, C, n, g1, g2, g3, g4⟩ := open_args fn.params.toList args.toList ds p W base d (fun t ht => (hp t ht).1) (fun j t v e1 e2 => hval j t v (by simpa using e1) (by simpa using e2)) hA _ _ 0 hs0
  obtain ⟨n', H', hbs⟩ := hlaw n C avs g1.wf g4
  obtain ⟨hmono, hcs, _⟩ := sound hm hbs
  have hcall := hcs g1.wf W.heap.size κ C W args.toList g3 g1.hr (fun _ _ _ => rfl) (fun x h1 _ => g1.free x h1)
  rw [Array.toArray_toList] at hcall
  refine hcall.mono ?_
  rintro e W' ⟨v', κ', C', rfl, hvr, ha⟩
  cases hvr
  refine ⟨.bool true, rfl, ds, [], p, [], p, [], by simpa using hW', ?_, ?_, ?_, ?_, fun h => by cases h⟩
  · have hlen : ds.length = fn.params.size := by
      have key : ∀ (ts : List TypeId) (vs : List Value) (ds : List (DataW H)) (ps : List MemPlace), DataW.TrodAll enc P W 0 (fun _ => true) true ts vs ds ps → ds.length = ts.length := by
        intro ts
        induction ts with
        | nil => intro vs ds ps h; obtain ⟨_, rfl, _⟩ := trodAll_nil h; rfl
        | cons t ts ih =>
          intro vs ds ps h
          obtain ⟨v, vs1, d1, ds1, a, b, rfl, rfl, rfl, _, h2⟩ := trodAll_cons h
          simp [ih _ _ _ h2]
      rw [key _ _ _ _ hA]; simp
    rw [hres, List.append_nil, hspec ds hlen]
    exact trodAll_mk1 (shut_bool htb true)
  · have hlen : ds.length = fn.params.size := by
      have key : ∀ (ts : List TypeId) (vs : List Value) (ds : List (DataW H)) (ps : List MemPlace), DataW.TrodAll enc P W 0 (fun _ => true) true ts vs ds ps → ds.length = ts.length := by
        intro ts
        induction ts with
        | nil => intro vs ds ps h; obtain ⟨_, rfl, _⟩ := trodAll_nil h; rfl
        | cons t ts ih =>
          intro vs ds ps h
          obtain ⟨v, vs1, d1, ds1, a, b, rfl, rfl, rfl, _, h2⟩ := trodAll_cons h
          simp [ih _ _ _ h2]
      rw [key _ _ _ _ hA]; simp
    rw [List.append_nil, hspec ds hlen]
    exact trodAll_stays hl ha.below _ _ _ _ (fun t ht => (hp t ht).2) hA (fun x hx => by simpa using hlt x (by simp [hx]))
  · rw [hvars]
    have hlen : True := trivial
    have : (s.fn H (ds ++ [])).vars = [] := by
      rw [List.append_nil, hspec ds (by
        have key : ∀ (ts : List TypeId) (vs : List Value) (ds : List (DataW H)) (ps : List MemPlace), DataW.TrodAll enc P W 0 (fun _ => true) true ts vs ds ps → ds.length = ts.length := by
          intro ts
          induction ts with
          | nil => intro vs ds ps h; obtain ⟨_, rfl, _⟩ := trodAll_nil h; rfl
          | cons t ts ih =>
            intro vs ds ps h
            obtain ⟨v, vs1, d1, ds1, a, b, rfl, rfl, rfl, _, h2⟩ := trodAll_cons h
            simp [ih _ _ _ h2]
        rw [key _ _ _ _ hA]; simp)]
    rw [this]
    exact rfl
  · exact World.keptBut_mono (fun x hx => by cases hx) (ha.below.frame (fun _ => False))

end
end Go.AM

/- Grammars, as the machine holds them. -/
namespace Go.AM
open Go.RowKit

structure GRule where
  left : Int
  right : List Int
  weight : Nat
structure Gram where
  terms : List ByteArray
  vars : List ByteArray
  rules : List GRule

def RR (H : Heap) (a : Option Addr) (l : List GRule) : Prop :=
  l ≠ [] → ∃ x k cs ty own, a = some ⟨x, k, none⟩ ∧ H x = .cells cs ty own ∧ ∀ i r, l[i]? = some r →
    ∃ p, cs[k + i * 3]? = some (.int .i64 r.left) ∧ cs[k + i * 3 + 1]? = some (.slice p r.right.length r.right.length) ∧ cs[k + i * 3 + 2]? = some (.float .f64 r.weight) ∧ RS (Value.int .i64) H p r.right

theorem RR.mono {n n' : Nat} {H H' : Heap} {a : Option Addr} {l : List GRule} (h : RR H a l) (hw : WF n H) (hk : Kp n H n' H') : RR H' a l := by
  intro hl
  obtain ⟨x, k, cs, ty, own, e1, e2, e3⟩ := h hl
  refine ⟨x, k, cs, ty, own, e1, ?_, fun i r hi => ?_⟩
  · rw [hk.keep x, e2]
    apply Classical.byContradiction
    intro hx
    rw [hw x (by omega)] at e2; cases e2
  · obtain ⟨p, c1, c2, c3, c4⟩ := e3 i r hi
    exact ⟨p, c1, c2, c3, c4.mono hw hk⟩

theorem RR.atS {H : Heap} {a : Option Addr} {l : List GRule} (h : RR H a l) {i : Nat} (hi : i < l.length) :
    ∃ x k cs ty own p, a = some ⟨x, k, none⟩ ∧ H x = .cells cs ty own ∧ cs[k + i * 3]? = some (.int .i64 l[i].left) ∧ cs[k + i * 3 + 1]? = some (.slice p l[i].right.length l[i].right.length) ∧
      cs[k + i * 3 + 2]? = some (.float .f64 l[i].weight) ∧ RS (Value.int .i64) H p l[i].right := by
  obtain ⟨x, k, cs, ty, own, e1, e2, e3⟩ := h (by intro e; simp [e] at hi)
  obtain ⟨p, c1, c2, c3, c4⟩ := e3 i _ (List.getElem?_eq_getElem hi)
  exact ⟨x, k, cs, ty, own, p, e1, e2, c1, c2, c3, c4⟩

theorem RR.at {H : Heap} {a : Option Addr} {l : List GRule} (h : RR H a l) {i : Nat} (hi : i < l.length) :
    ∃ x k cs ty own p, a = some ⟨x, k, none⟩ ∧ H x = .cells cs ty own ∧ cs[k + i * 3]? = some (.int .i64 l[i].left) ∧ cs[k + i * 3 + 1]? = some (.slice p l[i].right.length l[i].right.length) ∧
      cs[k + i * 3 + 2]? = some (.float .f64 l[i].weight) ∧ RA (Value.int .i64) H p l[i].right := by
  obtain ⟨x, k, cs, ty, own, p, e1, e2, c1, c2, c3, c4⟩ := h.atS hi
  exact ⟨x, k, cs, ty, own, p, e1, e2, c1, c2, c3, c4.ra⟩

/-- The cells of a rule that is loaded whole. -/
theorem take3 {cs : List Value} {k : Nat} {a b c : Value} (h0 : cs[k]? = some a) (h1 : cs[k + 1]? = some b) (h2 : cs[k + 2]? = some c) : (cs.drop k).take 3 = [a, b, c] := by
  apply List.ext_getElem?
  intro i
  rw [List.getElem?_take, List.getElem?_drop]
  match i with
  | 0 => simpa using h0
  | 1 => simpa using h1
  | 2 => simpa using h2
  | i + 3 => simp; omega

theorem len3 {cs : List Value} {k : Nat} {c : Value} (h2 : cs[k + 2]? = some c) : k + 3 ≤ cs.length := by
  rcases Nat.lt_or_ge (k + 2) cs.length with h | h
  · omega
  · rw [List.getElem?_eq_none h] at h2; cases h2

def gcells (pt pv pr : Option Addr) (g : Gram) : List Value :=
  [.slice pt g.terms.length g.terms.length, .slice pv g.vars.length g.vars.length, .slice pr g.rules.length g.rules.length]

/-- A grammar by value. -/
def RG (H : Heap) (v : Value) (g : Gram) : Prop :=
  ∃ pt pv pr, v = .agg (gcells pt pv pr g).toArray ∧ RA Value.string H pt g.terms ∧ RA Value.string H pv g.vars ∧ RR H pr g.rules

theorem RG.mono {n n' : Nat} {H H' : Heap} {v : Value} {g : Gram} (h : RG H v g) (hw : WF n H) (hk : Kp n H n' H') : RG H' v g := by
  obtain ⟨pt, pv, pr, e, h1, h2, h3⟩ := h
  exact ⟨pt, pv, pr, e, h1.mono hw hk, h2.mono hw hk, h3.mono hw hk⟩

/-- What integers and lengths are. -/
def inI (n : Int) : Prop := -9223372036854775808 ≤ n ∧ n ≤ 9223372036854775807
def maxL : Nat := 9223372036854775807
structure WG (g : Gram) : Prop where
  terms : g.terms.length ≤ maxL
  vars : g.vars.length ≤ maxL
  rules : g.rules.length ≤ maxL
  left : ∀ r ∈ g.rules, inI r.left
  right : ∀ r ∈ g.rules, r.right.length ≤ maxL ∧ ∀ s ∈ r.right, inI s
  weight : ∀ r ∈ g.rules, r.weight < 2 ^ 64
  size : ∀ s ∈ g.terms ++ g.vars, s.size ≤ maxL

theorem box_cells (pt pv pr : Option Addr) (g : Gram) : vcells (.agg (gcells pt pv pr g).toArray) = gcells pt pv pr g := rfl
theorem box_one (pt pv pr : Option Addr) (g : Gram) : (gcells pt pv pr g).all one = true := rfl
theorem gc_0 (pt pv pr : Option Addr) (g : Gram) : (gcells pt pv pr g)[0]? = some (.slice pt g.terms.length g.terms.length) := rfl
theorem gc_1 (pt pv pr : Option Addr) (g : Gram) : (gcells pt pv pr g)[1]? = some (.slice pv g.vars.length g.vars.length) := rfl
theorem gc_2 (pt pv pr : Option Addr) (g : Gram) : (gcells pt pv pr g)[2]? = some (.slice pr g.rules.length g.rules.length) := rfl
theorem gc_len (pt pv pr : Option Addr) (g : Gram) : (gcells pt pv pr g).length = 3 := rfl
theorem gc_all (pt pv pr : Option Addr) (g : Gram) : ((gcells pt pv pr g).drop 0).take 3 = gcells pt pv pr g := rfl

end Go.AM

/- What arguments are: lists of integers, strings, rules; grammars. -/
namespace Go.AM
open Go.RowKit

theorem pick_list {α : Type} {Q : Nat → α → Prop} : ∀ (m : Nat), (∀ i, i < m → ∃ y, Q i y) → ∃ l : List α, l.length = m ∧ ∀ i y, l[i]? = some y → Q i y := by
  intro m
  induction m with
  | zero => intro _; exact ⟨[], rfl, fun i y h => by simp at h⟩
  | succ m ih =>
    intro h
    obtain ⟨l, h1, h2⟩ := ih fun i hi => h i (by omega)
    obtain ⟨y, hy⟩ := h m (by omega)
    refine ⟨l ++ [y], by simp [h1], fun i z e => ?_⟩
    by_cases hi : i < l.length
    · rw [List.getElem?_append_left hi] at e; exact h2 i z e
    · rw [List.getElem?_append_right (by omega)] at e
      have : i - l.length = 0 := by
        apply Classical.byContradiction
        intro hc
        obtain ⟨q, hq⟩ : ∃ q, i - l.length = q + 1 := ⟨i - l.length - 1, by omega⟩
        rw [hq] at e; simp at e
      have e' : i = m := by omega
      rw [this] at e
      simp at e
      subst e
      rw [e']; exact hy

theorem at1 {cs : List Value} {i : Nat} {v : Value} (h : (cs.drop i).take 1 = [v]) : cs[i]? = some v := by
  have : ((cs.drop i).take 1)[0]? = some v := by rw [h]; rfl
  rw [List.getElem?_take, List.getElem?_drop] at this
  simpa using this

variable {P : Program} {H : Heap}

theorem AR.int_inv {t : TypeId} {cs : List Value} (h : AR P H t cs) (ht : P.underlying t = some (.int .i64)) : ∃ n, cs = [.int .i64 n] ∧ inI n := by
  cases h with
  | int t k n ht' hw =>
    rw [ht] at ht'; cases ht'
    refine ⟨n, rfl, ?_⟩
    simp [Lit.wf, IntKind.min, IntKind.max, IntKind.signed, IntKind.bits] at hw
    unfold inI
    omega
  | _ => simp_all

theorem AR.str_inv {t : TypeId} {cs : List Value} (h : AR P H t cs) (ht : P.underlying t = some .string) : ∃ s, cs = [.string s] ∧ s.size ≤ maxL := by
  cases h with
  | string t s ht' hs =>
    refine ⟨s, rfl, Nat.le_trans hs ?_⟩
    unfold maxL maxLen
    omega
  | _ => simp_all

theorem AR.float_inv {t : TypeId} {cs : List Value} (h : AR P H t cs) (ht : P.underlying t = some (.float .f64)) : ∃ b, cs = [.float .f64 b] ∧ b < 2 ^ 64 := by
  cases h with
  | float t k b ht' hw =>
    rw [ht] at ht'; cases ht'
    refine ⟨b, rfl, ?_⟩
    simpa [Lit.wf] using hw
  | _ => simp_all

theorem AR.slice_inv {t e : TypeId} {cs : List Value} (h : AR P H t cs) (ht : P.underlying t = some (.slice e)) : cs = [.slice none 0 0] ∨ ∃ x m ds, cs = [.slice (some ⟨x, 0, none⟩) m m] ∧ H x = .cells ds e false ∧ m ≤ maxL ∧ ∀ i, i < m → AR P H e ((ds.drop (i * P.cellsOf e)).take (P.cellsOf e)) := by
  cases h with
  | nil => exact .inl rfl
  | slice t e' x m ds ht' hx hl hm he =>
    rw [ht] at ht'; cases ht'
    refine .inr ⟨x, m, ds, rfl, hx, Nat.le_trans hm ?_, he⟩
    unfold maxL maxLen
    omega
  | _ => simp_all

theorem AR.list_inv {α : Type} {enc : α → Value} {good : α → Prop} {t e : TypeId} {cs : List Value} (h : AR P H t cs) (ht : P.underlying t = some (.slice e)) (hc : P.cellsOf e = 1) (hi : ∀ ds, AR P H e ds → ∃ y, ds = [enc y] ∧ good y) :
    ∃ p l, cs = [.slice p l.length l.length] ∧ RS enc H p l ∧ l.length ≤ maxL ∧ ∀ y ∈ l, good y := by
  rcases h.slice_inv ht with rfl | ⟨x, m, ds, rfl, hx, hm, he⟩
  · exact ⟨none, [], rfl, .inl ⟨rfl, rfl⟩, by simp, fun y hy => by cases hy⟩
  · obtain ⟨l, h1, h2⟩ := pick_list (Q := fun i y => ds[i]? = some (enc y) ∧ good y) m fun i hi' => by
      obtain ⟨y, e1, e2⟩ := hi _ (he i hi')
      rw [hc, Nat.mul_one] at e1
      exact ⟨y, at1 e1, e2⟩
    subst h1
    refine ⟨_, l, rfl, .inr ⟨x, 0, ds, e, false, rfl, hx, ?_, fun i y e => by rw [Nat.zero_add]; exact (h2 i y e).1⟩, hm, fun y hy => ?_⟩
    · rw [Nat.zero_add]
      apply Classical.byContradiction
      intro hc
      have hlt : ds.length < l.length := by omega
      have := (h2 ds.length _ (List.getElem?_eq_getElem hlt)).1
      rw [List.getElem?_eq_none (Nat.le_refl _)] at this
      cases this
    obtain ⟨i, hi', rfl⟩ := List.getElem_of_mem hy
    exact (h2 i _ (List.getElem?_eq_getElem hi')).2

theorem AR.ints {t e : TypeId} {cs : List Value} (h : AR P H t cs) (ht : P.underlying t = some (.slice e)) (hc : P.cellsOf e = 1) (he : P.underlying e = some (.int .i64)) :
    ∃ p l, cs = [.slice p l.length l.length] ∧ RS (Value.int .i64) H p l ∧ l.length ≤ maxL ∧ ∀ y ∈ l, inI y := h.list_inv ht hc fun _ hd => hd.int_inv he
theorem AR.strs {t e : TypeId} {cs : List Value} (h : AR P H t cs) (ht : P.underlying t = some (.slice e)) (hc : P.cellsOf e = 1) (he : P.underlying e = some .string) :
    ∃ p l, cs = [.slice p l.length l.length] ∧ RA Value.string H p l ∧ l.length ≤ maxL ∧ ∀ y ∈ l, y.size ≤ maxL := by
  obtain ⟨p, l, e, h1, h2⟩ := h.list_inv ht hc fun _ hd => hd.str_inv he
  exact ⟨p, l, e, h1.ra, h2⟩

/-- The types of a grammar. -/
structure GramT (P : Program) (tg tr ti tn tss trs tis tf : TypeId) : Prop where
  g : ∃ f1 f2 f3 : Field, P.underlying tg = some (.struct #[f1, f2, f3]) ∧ f1.type = tss ∧ f1.offset = 0 ∧ f2.type = tss ∧ f2.offset = 1 ∧ f3.type = trs ∧ f3.offset = 2
  r : ∃ f1 f2 f3 : Field, P.underlying tr = some (.struct #[f1, f2, f3]) ∧ f1.type = ti ∧ f1.offset = 0 ∧ f2.type = tis ∧ f2.offset = 1 ∧ f3.type = tf ∧ f3.offset = 2
  i : P.underlying ti = some (.int .i64)
  n : P.underlying tn = some .string
  ss : P.underlying tss = some (.slice tn)
  rs : P.underlying trs = some (.slice tr)
  is : P.underlying tis = some (.slice ti)
  f : P.underlying tf = some (.float .f64)
  ci : P.cellsOf ti = 1
  cn : P.cellsOf tn = 1
  css : P.cellsOf tss = 1
  crs : P.cellsOf trs = 1
  cis : P.cellsOf tis = 1
  cf : P.cellsOf tf = 1
  cr : P.cellsOf tr = 3
  cg : P.cellsOf tg = 3

theorem AR.struct_inv {t : TypeId} {fs : Array Field} {cs : List Value} (h : AR P H t cs) (ht : P.underlying t = some (.struct fs)) : cs.length = P.cellsOf t ∧ ∀ (i : Nat) (f : Field), fs[i]? = some f → AR P H f.type ((cs.drop f.offset).take (P.cellsOf f.type)) := by
  cases h with
  | struct t fs' cs ht' hl hf =>
    rw [ht] at ht'; cases ht'
    exact ⟨hl, hf⟩
  | _ => simp_all

section
variable {tg tr ti tn tss trs tis tf : TypeId}

theorem AR.rule (T : GramT P tg tr ti tn tss trs tis tf) {cs : List Value} (h : AR P H tr cs) : ∃ (r : GRule) (p : Option Addr), cs = [.int .i64 r.left, .slice p r.right.length r.right.length, .float .f64 r.weight] ∧ RS (Value.int .i64) H p r.right ∧ inI r.left ∧ r.right.length ≤ maxL ∧ (∀ s ∈ r.right, inI s) ∧ r.weight < 2 ^ 64 := by
  obtain ⟨f1, f2, f3, e, a1, b1, a2, b2, a3, b3⟩ := T.r
  obtain ⟨hl, hf⟩ := h.struct_inv e
  rw [T.cr] at hl
  match cs, hl with
  | [x, y, z], _ =>
    have h1 := hf 0 f1 rfl
    have h2 := hf 1 f2 rfl
    have h3 := hf 2 f3 rfl
    rw [a1, b1, T.ci] at h1
    rw [a2, b2, T.cis] at h2
    rw [a3, b3, T.cf] at h3
    obtain ⟨n, e1, hn⟩ := h1.int_inv T.i
    obtain ⟨p, l, e2, hp, hl, hs⟩ := h2.ints T.is T.ci T.i
    obtain ⟨w, e3, hw⟩ := h3.float_inv T.f
    simp at e1 e2 e3
    subst e1 e2 e3
    exact ⟨⟨n, l, w⟩, p, rfl, hp, hn, hl, hs, hw⟩

theorem AR.rules (T : GramT P tg tr ti tn tss trs tis tf) {cs : List Value} (h : AR P H trs cs) : ∃ p l, cs = [.slice p l.length l.length] ∧ RR H p l ∧ l.length ≤ maxL ∧ ∀ r ∈ l, inI r.left ∧ (r.right.length ≤ maxL ∧ ∀ s ∈ r.right, inI s) ∧ r.weight < 2 ^ 64 := by
  rcases h.slice_inv T.rs with rfl | ⟨x, m, ds, rfl, hx, hm, he⟩
  · exact ⟨none, [], rfl, fun h => absurd rfl h, by simp, fun y hy => by cases hy⟩
  · obtain ⟨l, h1, h2⟩ := pick_list (Q := fun i (r : GRule) => (∃ p, ds[i * 3]? = some (.int .i64 r.left) ∧ ds[i * 3 + 1]? = some (.slice p r.right.length r.right.length) ∧ ds[i * 3 + 2]? = some (.float .f64 r.weight) ∧ RS (Value.int .i64) H p r.right) ∧ inI r.left ∧ (r.right.length ≤ maxL ∧ ∀ s ∈ r.right, inI s) ∧ r.weight < 2 ^ 64) m fun i hi' => by
      have h := he i hi'
      rw [T.cr] at h
      obtain ⟨r, p, e, hp, q1, q2, q3, q4⟩ := AR.rule T h
      have g : ∀ j, j < 3 → ds[i * 3 + j]? = ((ds.drop (i * 3)).take 3)[j]? := fun j hj => by rw [List.getElem?_take, if_pos hj, List.getElem?_drop]
      refine ⟨r, ⟨p, ?_, ?_, ?_, hp⟩, q1, ⟨q2, q3⟩, q4⟩
      · have := g 0 (by omega); rw [e] at this; simpa using this
      · have := g 1 (by omega); rw [e] at this; simpa using this
      · have := g 2 (by omega); rw [e] at this; simpa using this
    subst h1
    refine ⟨_, l, rfl, fun _ => ⟨x, 0, ds, tr, false, rfl, hx, fun i r e => ?_⟩, hm, fun r hr => ?_⟩
    · obtain ⟨⟨p, c0, c1, c2, c3⟩, _⟩ := h2 i r e
      exact ⟨p, by rw [Nat.zero_add]; exact c0, by rw [Nat.zero_add]; exact c1, by rw [Nat.zero_add]; exact c2, c3⟩
    · obtain ⟨i, hi', rfl⟩ := List.getElem_of_mem hr
      exact (h2 i _ (List.getElem?_eq_getElem hi')).2

theorem ARV.gram (T : GramT P tg tr ti tn tss trs tis tf) {v : Value} (ha : aggT P tg = some true) (h : ARV P H tg v) : ∃ g, RG H v g ∧ WG g := by
  obtain ⟨h1, h2, _⟩ := h
  obtain ⟨cs, rfl⟩ := h2 ha
  obtain ⟨f1, f2, f3, e, a1, b1, a2, b2, a3, b3⟩ := T.g
  have hvc : vcells (.agg cs) = cs.toList := rfl
  rw [hvc] at h1
  obtain ⟨hl, hf⟩ := h1.struct_inv e
  rw [T.cg] at hl
  obtain ⟨cs⟩ := cs
  simp only at hl hf
  match cs, hl with
  | [x, y, z], _ =>
    have h1 := hf 0 f1 rfl
    have h2 := hf 1 f2 rfl
    have h3 := hf 2 f3 rfl
    rw [a1, b1, T.css] at h1
    rw [a2, b2, T.css] at h2
    rw [a3, b3, T.crs] at h3
    obtain ⟨pt, lt, e1, ht, ht1, ht2⟩ := h1.strs T.ss T.cn T.n
    obtain ⟨pv, lv, e2, hv, hv1, hv2⟩ := h2.strs T.ss T.cn T.n
    obtain ⟨pr, lr, e3, hr, hr1, hr2⟩ := AR.rules T h3
    simp at e1 e2 e3
    subst e1 e2 e3
    refine ⟨⟨lt, lv, lr⟩, ⟨pt, pv, pr, rfl, ht, hv, hr⟩, ht1, hv1, hr1, fun r h => (hr2 r h).1, fun r h => (hr2 r h).2.1, fun r h => (hr2 r h).2.2, fun s hs => ?_⟩
    rcases List.mem_append.1 hs with hs | hs
    · exact ht2 s hs
    · exact hv2 s hs

theorem ARV.gramI (T : GramT P tg tr ti tn tss trs tis tf) {v : Value} (ha : aggT P tg = some true) (h : ARV P H tg v) : ∃ g, RG H v g ∧ WG g := ARV.gram T ha h
end

theorem vcells_one {v : Value} (h : one v = true) : vcells v = [v] := by cases v <;> first | rfl | (simp [one] at h)

theorem ARV.intI {v : Value} {t : TypeId} (ht : P.underlying t = some (.int .i64)) (ha : aggT P t = some false) (h : ARV P H t v) : ∃ n, v = .int .i64 n ∧ inI n := by
  obtain ⟨h1, _, h3⟩ := h
  obtain ⟨n, e, hn⟩ := h1.int_inv ht
  refine ⟨n, ?_, hn⟩
  have ho := h3 ha
  rw [vcells_one ho] at e
  simpa using e

theorem ARV.intsI {v : Value} {t e : TypeId} (ht : P.underlying t = some (.slice e)) (hc : P.cellsOf e = 1) (he : P.underlying e = some (.int .i64)) (ha : aggT P t = some false) (h : ARV P H t v) :
    ∃ p l, v = .slice p l.length l.length ∧ RS (Value.int .i64) H p l ∧ l.length ≤ maxL ∧ ∀ y ∈ l, inI y := by
  obtain ⟨h1, _, h3⟩ := h
  obtain ⟨p, l, e', hp, hl, hs⟩ := h1.ints ht hc he
  refine ⟨p, l, ?_, hp, hl, hs⟩
  have ho := h3 ha
  rw [vcells_one ho] at e'
  simpa using e'

end Go.AM

/- How great what floating point operations make may be, by powers of two. -/
namespace Go.AM
open Ieee

/-- A number below '2 ^ (K + 1)'. -/
def Low (K : Int) (m : Nat) (e : Int) : Prop := m = 0 ∨ e + (m.log2 : Int) ≤ K

theorem Low.mono {K L : Int} {m : Nat} {e : Int} (h : Low K m e) (hl : K ≤ L) : Low L m e := by
  rcases h with h | h
  · exact .inl h
  · exact .inr (by omega)

theorem cut_even_le (neg : Bool) (n drop B : Nat) (h : n < B * 2 ^ drop) (hB : 0 < B) : Toward.cut .even neg n drop ≤ B := by
  unfold Toward.cut
  simp only
  have key : n / 1 <<< min drop (n.log2 + 2) < B := by
    rw [Nat.shiftLeft_eq, Nat.one_mul]
    rcases Nat.le_total drop (n.log2 + 2) with hd | hd
    · rw [Nat.min_eq_left hd]
      exact (Nat.div_lt_iff_lt_mul (Nat.two_pow_pos _)).2 h
    · rw [Nat.min_eq_right hd]
      have : n < 2 ^ (n.log2 + 2) := Nat.lt_of_lt_of_le Nat.lt_log2_self (Nat.pow_le_pow_right (by omega) (by omega))
      rw [Nat.div_eq_of_lt this]; exact hB
  have h1 : ∀ b : Bool, b.toNat ≤ 1 := fun b => by cases b <;> simp
  exact Nat.le_trans (Nat.add_le_add_left (h1 _) _) key

theorem low_write {K : Int} {s : Bool} {m : Nat} {e : Int} (h : Low K m e) (h0 : 0 ≤ K) (h1 : K ≤ 900) :
    ∃ m' e', Format.read double (Format.write double (.number s m e)) = .number s m' e' ∧ Low (K + 1) m' e' := by
  have rd : ∀ R : Nat, R ≤ (K + 1024).toNat * 2 ^ 52 → ∃ m' e', Format.read double (Format.word double s R) = .number s m' e' ∧ Low (K + 1) m' e' := by
    intro R hR
    have hK : (K + 1024).toNat ≤ 1924 := by omega
    have hR2 : R ≤ 1924 * 2 ^ 52 := Nat.le_trans hR (Nat.mul_le_mul_right _ hK)
    have hsw : Format.signWeight double = 2 ^ 63 := rfl
    have hbin : Format.binade double = 2 ^ 52 := rfl
    have hinf : Format.infRung double = 2047 * 2 ^ 52 := rfl
    have hlp : Format.leastPlace double = -1074 := rfl
    have hneg : (Format.word double s R / 2 ^ 63 % 2 == 1) = s := by
      unfold Format.word; rw [hsw]
      cases s
      · simp only [Bool.false_eq_true, if_false]; rw [Nat.div_eq_of_lt (by omega)]; rfl
      · simp only [if_true]; rw [show (2 ^ 63 + R) / 2 ^ 63 = 1 by omega]; rfl
    have hrung : Format.word double s R % 2 ^ 63 = R := by
      unfold Format.word; rw [hsw]
      cases s
      · simp only [Bool.false_eq_true, if_false]; omega
      · simp only [if_true]; omega
    unfold Format.read
    simp only [hsw, hbin, hinf, hlp, hneg, hrung]
    split
    · rename_i hlt
      refine ⟨_, _, rfl, ?_⟩
      rcases Nat.eq_zero_or_pos R with e | e
      · exact .inl e
      · right
        have : R.log2 < 52 := (Nat.log2_lt (by omega)).2 hlt
        omega
    · rename_i hge
      rw [if_pos (by omega)]
      refine ⟨_, _, rfl, .inr ?_⟩
      have hm : R % 2 ^ 52 < 2 ^ 52 := Nat.mod_lt _ (Nat.two_pow_pos _)
      have hl : (2 ^ 52 + R % 2 ^ 52).log2 < 53 := (Nat.log2_lt (by omega)).2 (by omega)
      have hq : R / 2 ^ 52 ≤ (K + 1024).toNat := by
        have := Nat.div_le_div_right (c := 2 ^ 52) hR
        rwa [Nat.mul_div_cancel _ (Nat.two_pow_pos _)] at this
      have hq1 : 1 ≤ R / 2 ^ 52 := by omega
      omega
  unfold Format.write Format.nearest
  simp only
  split
  · exact rd 0 (Nat.zero_le _)
  rename_i hm
  have hL : e + (m.log2 : Int) ≤ K := by rcases h with h | h; exact absurd h hm; exact h
  have hlp : Format.leastPlace double = -1074 := rfl
  have hfb : ((Format.fractionBits double : Nat) : Int) = 52 := rfl
  have hbin : Format.binade double = 2 ^ 52 := rfl
  have hinf : Format.infRung double = 2047 * 2 ^ 52 := rfl
  rw [hlp, hfb, hbin, hinf]
  generalize hlast : max (e + (m.log2 : Int) - 52) (-1074) = last
  have hl1 : e + (m.log2 : Int) - 52 ≤ last := by omega
  have hl2 : last ≤ K - 52 ∨ last = -1074 := by omega
  have hl3 : -1074 ≤ last := by omega
  have hkept : Toward.cut .even s (m <<< (e - last).toNat) (last - e).toNat ≤ 2 ^ 53 := by
    refine cut_even_le _ _ _ _ ?_ (Nat.two_pow_pos _)
    rw [Nat.shiftLeft_eq, ← Nat.pow_add]
    have h2 : m < 2 ^ (m.log2 + 1) := Nat.lt_log2_self
    calc m * 2 ^ (e - last).toNat < 2 ^ (m.log2 + 1) * 2 ^ (e - last).toNat := Nat.mul_lt_mul_of_pos_right h2 (Nat.two_pow_pos _)
      _ = 2 ^ (m.log2 + 1 + (e - last).toNat) := by rw [← Nat.pow_add]
      _ ≤ 2 ^ (53 + (last - e).toNat) := Nat.pow_le_pow_right (by omega) (by omega)
  refine rd _ (Nat.le_trans (Nat.min_le_left _ _) ?_)
  have hpl : (last - -1074).toNat ≤ (K + 1022).toNat := by omega
  calc (last - -1074).toNat * 2 ^ 52 + Toward.cut .even s (m <<< (e - last).toNat) (last - e).toNat ≤ (K + 1022).toNat * 2 ^ 52 + 2 ^ 53 := Nat.add_le_add (Nat.mul_le_mul_right _ hpl) hkept
    _ = ((K + 1022).toNat + 2) * 2 ^ 52 := by rw [Nat.add_mul]
    _ ≤ (K + 1024).toNat * 2 ^ 52 := Nat.mul_le_mul_right _ (by omega)

theorem log2_mul_le {m n : Nat} (hm : m ≠ 0) (hn : n ≠ 0) : (m * n).log2 ≤ m.log2 + n.log2 + 1 := by
  have h1 : m < 2 ^ (m.log2 + 1) := Nat.lt_log2_self
  have h2 : n < 2 ^ (n.log2 + 1) := Nat.lt_log2_self
  have : m * n < 2 ^ (m.log2 + n.log2 + 2) := by
    calc m * n < 2 ^ (m.log2 + 1) * 2 ^ (n.log2 + 1) := Nat.mul_lt_mul'' h1 h2
      _ = 2 ^ (m.log2 + n.log2 + 2) := by rw [← Nat.pow_add]; congr 1; omega
  have := (Nat.log2_lt (Nat.mul_ne_zero hm hn)).2 this
  omega

theorem low_mul {K L : Int} {x y : Nat} {s t : Bool} {m n : Nat} {e j : Int} (hx : Format.read double x = .number s m e) (hy : Format.read double y = .number t n j) (h1 : Low K m e) (h2 : Low L n j) (h0 : 0 ≤ K + L + 1) (h9 : K + L + 1 ≤ 900) :
    ∃ r m' e', Format.mul double x y = some r ∧ Format.read double r = .number (s ^^ t) m' e' ∧ Low (K + L + 2) m' e' := by
  have hl : Low (K + L + 1) (m * n) (e + j) := by
    rcases Nat.eq_zero_or_pos m with hm | hm
    · exact .inl (by simp [hm])
    rcases Nat.eq_zero_or_pos n with hn | hn
    · exact .inl (by simp [hn])
    right
    have a : e + (m.log2 : Int) ≤ K := by rcases h1 with h | h; omega; exact h
    have b : j + (n.log2 : Int) ≤ L := by rcases h2 with h | h; omega; exact h
    have := log2_mul_le (m := m) (n := n) (by omega) (by omega)
    omega
  obtain ⟨m', e', h3, h4⟩ := low_write (s := s ^^ t) hl h0 h9
  exact ⟨_, m', e', by unfold Format.mul; rw [hx, hy]; rfl, h3, h4.mono (by omega)⟩

theorem signed_abs (s : Bool) (m up : Nat) : (signed s m up).natAbs = m * 2 ^ up := by
  unfold signed
  rw [Nat.shiftLeft_eq]
  cases s <;> simp [Int.natAbs_mul, Int.natAbs_pow]

theorem low_add {K : Int} {x y : Nat} {s t : Bool} {m n : Nat} {e j : Int} (hx : Format.read double x = .number s m e) (hy : Format.read double y = .number t n j) (h1 : Low K m e) (h2 : Low K n j) (h0 : 0 ≤ K) (h9 : K ≤ 899) :
    ∃ r s' m' e', Format.add double x y = some r ∧ Format.read double r = .number s' m' e' ∧ Low (K + 2) m' e' := by
  have part : ∀ (m : Nat) (e base : Int), Low K m e → base ≤ e → m * 2 ^ (e - base).toNat < 2 ^ (K + 1 - base).toNat ∨ m = 0 := by
    intro m e base h hb
    rcases Nat.eq_zero_or_pos m with hm | hm
    · exact .inr hm
    left
    have a : e + (m.log2 : Int) ≤ K := by rcases h with h | h; omega; exact h
    have h2 : m < 2 ^ (m.log2 + 1) := Nat.lt_log2_self
    calc m * 2 ^ (e - base).toNat < 2 ^ (m.log2 + 1) * 2 ^ (e - base).toNat := Nat.mul_lt_mul_of_pos_right h2 (Nat.two_pow_pos _)
      _ = 2 ^ (m.log2 + 1 + (e - base).toNat) := by rw [← Nat.pow_add]
      _ ≤ 2 ^ (K + 1 - base).toNat := Nat.pow_le_pow_right (by omega) (by omega)
  generalize hb : min e j = base
  have hl : Low (K + 1) (signed s m (e - base).toNat + signed t n (j - base).toNat).natAbs base := by
    rcases Nat.eq_zero_or_pos (signed s m (e - base).toNat + signed t n (j - base).toNat).natAbs with h | h
    · exact .inl h
    right
    have tri := Int.natAbs_add_le (signed s m (e - base).toNat) (signed t n (j - base).toNat)
    rw [signed_abs, signed_abs] at tri
    have hbound : (signed s m (e - base).toNat + signed t n (j - base).toNat).natAbs < 2 ^ ((K + 1 - base).toNat + 1) := by
      rw [Nat.pow_succ]
      have p1 := part m e base h1 (by omega)
      have p2 := part n j base h2 (by omega)
      have pos := Nat.two_pow_pos (K + 1 - base).toNat
      rcases p1 with p1 | p1 <;> rcases p2 with p2 | p2
      · omega
      · subst p2; simp only [Nat.zero_mul] at tri; omega
      · subst p1; simp only [Nat.zero_mul] at tri; omega
      · subst p1; subst p2; simp only [Nat.zero_mul] at tri; omega
    have := (Nat.log2_lt (by omega)).2 hbound
    have hK : 0 ≤ K + 1 - base := by
      apply Classical.byContradiction
      intro hc
      have p1 := part m e base h1 (by omega)
      have p2 := part n j base h2 (by omega)
      rw [show (K + 1 - base).toNat = 0 by omega] at p1 p2
      have q1 : m = 0 := by
        rcases p1 with p1 | p1
        · have := Nat.two_pow_pos (e - base).toNat
          rcases Nat.eq_zero_or_pos m with h | h
          · exact h
          · have := Nat.mul_pos h this; omega
        · exact p1
      have q2 : n = 0 := by
        rcases p2 with p2 | p2
        · have := Nat.two_pow_pos (j - base).toNat
          rcases Nat.eq_zero_or_pos n with h | h
          · exact h
          · have := Nat.mul_pos h this; omega
        · exact p2
      subst q1; subst q2; simp only [Nat.zero_mul] at tri; omega
    omega
  obtain ⟨m', e', h3, h4⟩ := low_write (s := if signed s m (e - base).toNat + signed t n (j - base).toNat = 0 then s && t else decide (signed s m (e - base).toNat + signed t n (j - base).toNat < 0)) hl (by omega) (by omega)
  refine ⟨_, _, m', e', ?_, h3, h4.mono (by omega)⟩
  unfold Format.add
  rw [hx, hy]
  simp only [Datum.sum, hb, Option.map_some]

theorem low_int {K : Int} {s : Bool} {m : Nat} {e : Int} (h : Low K m e) (h0 : 0 ≤ K) : ∃ z, Datum.toInt .zero (.number s m e) = some z ∧ z.natAbs < 2 ^ (K + 1).toNat := by
  refine ⟨_, rfl, ?_⟩
  rw [signed_abs, Nat.pow_zero, Nat.mul_one]
  unfold Toward.cut
  simp only [Bool.toNat_false, Nat.add_zero]
  have hn : m <<< e.toNat < 2 ^ (K + 1).toNat * 2 ^ (-e).toNat := by
    rw [Nat.shiftLeft_eq]
    rcases Nat.eq_zero_or_pos m with hm | hm
    · subst hm; rw [Nat.zero_mul]; exact Nat.mul_pos (Nat.two_pow_pos _) (Nat.two_pow_pos _)
    have a : e + (m.log2 : Int) ≤ K := by rcases h with h | h; omega; exact h
    have h2 : m < 2 ^ (m.log2 + 1) := Nat.lt_log2_self
    calc m * 2 ^ e.toNat < 2 ^ (m.log2 + 1) * 2 ^ e.toNat := Nat.mul_lt_mul_of_pos_right h2 (Nat.two_pow_pos _)
      _ = 2 ^ (m.log2 + 1 + e.toNat) := by rw [← Nat.pow_add]
      _ ≤ 2 ^ ((K + 1).toNat + (-e).toNat) := Nat.pow_le_pow_right (by omega) (by omega)
      _ = _ := by rw [Nat.pow_add]
  generalize m <<< e.toNat = n at *
  rw [Nat.shiftLeft_eq, Nat.one_mul]
  rcases Nat.le_total (-e).toNat (n.log2 + 2) with hd | hd
  · rw [Nat.min_eq_left hd]
    exact (Nat.div_lt_iff_lt_mul (Nat.two_pow_pos _)).2 hn
  · rw [Nat.min_eq_right hd]
    have : n < 2 ^ (n.log2 + 2) := Nat.lt_of_lt_of_le Nat.lt_log2_self (Nat.pow_le_pow_right (by omega) (by omega))
    rw [Nat.div_eq_of_lt this]; exact Nat.two_pow_pos _


/-- Below a number that is no zero, and not below nought. -/
theorem low_order {x y : Nat} {m n : Nat} {e j : Int} (hx : Format.read double x = .number false m e) (hy : Format.read double y = .number false n j) (h : Format.order double x y = some .lt) : Low (j + (n.log2 : Int)) m e := by
  unfold Format.order at h
  rw [hx, hy] at h
  simp only [Datum.order, signed, Bool.false_eq_true, if_false, Option.some.injEq] at h
  rcases Nat.eq_zero_or_pos m with hm | hm
  · exact .inl hm
  right
  generalize hb : min e j = base at h
  rw [Nat.shiftLeft_eq, Nat.shiftLeft_eq] at h
  have hlt : m * 2 ^ (e - base).toNat < n * 2 ^ (j - base).toNat := by
    have hi : ((m * 2 ^ (e - base).toNat : Nat) : Int) < ((n * 2 ^ (j - base).toNat : Nat) : Int) := by
      apply Classical.byContradiction
      intro hc
      simp only [compare, compareOfLessAndEq, if_neg hc] at h
      split at h <;> cases h
    omega
  have h1 : 2 ^ m.log2 ≤ m := Nat.log2_self_le (by omega)
  have h2 : n < 2 ^ (n.log2 + 1) := Nat.lt_log2_self
  have h3 : 2 ^ (m.log2 + (e - base).toNat) < 2 ^ (n.log2 + 1 + (j - base).toNat) := by
    calc 2 ^ (m.log2 + (e - base).toNat) = 2 ^ m.log2 * 2 ^ (e - base).toNat := by rw [Nat.pow_add]
      _ ≤ m * 2 ^ (e - base).toNat := Nat.mul_le_mul_right _ h1
      _ < n * 2 ^ (j - base).toNat := hlt
      _ ≤ 2 ^ (n.log2 + 1) * 2 ^ (j - base).toNat := Nat.mul_le_mul_right _ (Nat.le_of_lt h2)
      _ = 2 ^ (n.log2 + 1 + (j - base).toNat) := (Nat.pow_add 2 (n.log2 + 1) (j - base).toNat).symm
  have h4 := (Nat.pow_lt_pow_iff_right (a := 2) (by omega)).1 h3
  omega

theorem read_e9 : Format.read double 4741671816366391296 = .number false 8388608000000000 (-23) := by decide
theorem read_e6 : Format.read double 4696837146684686336 = .number false 8589934592000000 (-33) := by decide
theorem read_half : Format.read double 4602678819172646912 = .number false 4503599627370496 (-53) := by decide

theorem read_zero : Format.read double 0 = .number false 0 (-1074) := by decide

theorem read_neg {b : Nat} (hb : b < 2 ^ 64) : Format.read double (b ^^^ 2 ^ 63) = (Format.read double b).opposite := by
  have h1 : (b ^^^ 2 ^ 63) % 2 ^ 63 = b % 2 ^ 63 := by rw [Nat.xor_mod_two_pow]; simp
  have h2 : (b ^^^ 2 ^ 63) / 2 ^ 63 = (b / 2 ^ 63) ^^^ 1 := by rw [Nat.xor_div_two_pow]
  have hsw : Format.signWeight double = 2 ^ 63 := rfl
  have hneg : ((b ^^^ 2 ^ 63) / 2 ^ 63 % 2 == 1) = !(b / 2 ^ 63 % 2 == 1) := by
    rw [h2]
    have hq : b / 2 ^ 63 = 0 ∨ b / 2 ^ 63 = 1 := by omega
    rcases hq with hq | hq <;> rw [hq] <;> rfl
  unfold Format.read
  simp only [hsw, h1, hneg]
  split
  · rfl
  · split
    · rfl
    · split <;> rfl

theorem told_ok {a : Nat} (h : Format.order double a 4741671816366391296 = some .lt) (hs : ∀ m e, Format.read double a = .number true m e → m = 0) (hi : Format.read double a ≠ .infinity true) :
    ∃ r1 r2 z, Format.mul double a 4696837146684686336 = some r1 ∧ Format.add double r1 4602678819172646912 = some r2 ∧ (Format.read double r2).toInt .zero = some z ∧ z.natAbs < 2 ^ 60 := by
  have key : ∃ s m e, Format.read double a = .number s m e ∧ Low 29 m e := by
    cases hr : Format.read double a with
    | nan s t => unfold Format.order at h; rw [hr] at h; simp [Datum.order] at h
    | infinity s =>
      unfold Format.order at h
      rw [hr, read_e9] at h
      cases s
      · simp [Datum.order] at h
      · exact absurd hr hi
    | number s m e =>
      refine ⟨s, m, e, rfl, ?_⟩
      cases s with
      | true => exact .inl (hs m e hr)
      | false =>
        have := low_order hr read_e9 h
        exact this.mono (by decide)
  obtain ⟨s, m, e, h1, h2⟩ := key
  obtain ⟨r1, m1, e1, a1, a2, a3⟩ := low_mul h1 read_e6 h2 (L := 20) (.inr (by decide)) (by omega) (by omega)
  obtain ⟨r2, s2, m2, e2, b1, b2, b3⟩ := low_add a2 read_half (a3.mono (by omega : _ ≤ (52 : Int))) (.inr (by decide)) (by omega) (by omega)
  obtain ⟨z, c1, c2⟩ := low_int (s := s2) b3 (by omega)
  refine ⟨r1, r2, z, a1, b1, by rw [b2]; exact c1, Nat.lt_of_lt_of_le c2 (Nat.pow_le_pow_right (by omega) (by omega))⟩

theorem div_ok (k : Int) (hk : k.natAbs < 2 ^ 64) : ∃ q, Format.div double (FloatKind.nearest .f64 k) 4696837146684686336 = some q := by
  have hl : Low 64 k.natAbs 0 := by
    rcases Nat.eq_zero_or_pos k.natAbs with h | h
    · exact .inl h
    · have := (Nat.log2_lt (by omega)).2 hk
      exact .inr (by omega)
  obtain ⟨m, e, h1, h2⟩ := low_write (s := decide (k < 0)) hl (by omega) (by omega)
  have hd : ∃ d, Datum.quotient (double.fractionBits + 2) (Format.read double (Format.write double (.number (decide (k < 0)) k.natAbs 0))) (Format.read double 4696837146684686336) = some d := by
    rw [h1, read_e6]
    exact ⟨_, rfl⟩
  obtain ⟨d, hd⟩ := hd
  refine ⟨Format.write double d, ?_⟩
  show (Datum.quotient (double.fractionBits + 2) (Format.read double (Format.write double (.number (decide (k < 0)) k.natAbs 0))) (Format.read double 4696837146684686336)).map _ = _
  rw [hd]; rfl

/-- What stands ahead of nought, turned round, or what does not: no infinite one below nought, and none below it. -/
theorem pos_ok {b : Nat} (h : Format.order double b 0 ≠ some .lt) : (∀ m e, Format.read double b = .number true m e → m = 0) ∧ Format.read double b ≠ .infinity true := by
  unfold Format.order at h
  rw [read_zero] at h
  constructor
  · intro m e hr
    rw [hr] at h
    apply Classical.byContradiction
    intro hm
    apply h
    simp only [Datum.order, signed, Option.some.injEq]
    simp only [if_true, Bool.false_eq_true, if_false, Nat.zero_shiftLeft, Nat.shiftLeft_eq]
    have hp : 0 < m * 2 ^ (e - min e (-1074)).toNat := Nat.mul_pos (by omega) (Nat.two_pow_pos _)
    simp only [compare, compareOfLessAndEq]
    rw [if_pos (by omega)]
  · intro hr
    rw [hr] at h
    exact h rfl

theorem neg_ok {b : Nat} (hb : b < 2 ^ 64) (h : Format.order double b 0 = some .lt) (h9 : Format.order double (b ^^^ 2 ^ 63) 4741671816366391296 = some .lt) :
    (∀ m e, Format.read double (b ^^^ 2 ^ 63) = .number true m e → m = 0) ∧ Format.read double (b ^^^ 2 ^ 63) ≠ .infinity true := by
  have hn := read_neg hb
  unfold Format.order at h
  rw [read_zero] at h
  constructor
  · intro m e hr
    rw [hn] at hr
    cases hrb : Format.read double b with
    | nan s t => rw [hrb] at hr; cases hr
    | infinity s => rw [hrb] at hr; cases hr
    | number s m' e' =>
      rw [hrb] at hr h
      simp only [Datum.opposite, Datum.number.injEq, Bool.not_eq_true'] at hr
      obtain ⟨rfl, rfl, rfl⟩ := hr
      exfalso
      simp only [Datum.order, signed, Bool.false_eq_true, if_false, Option.some.injEq, Nat.zero_shiftLeft] at h
      generalize m' <<< (e' - min e' (-1074)).toNat = q at h
      simp only [compare, compareOfLessAndEq] at h
      rw [if_neg (by omega)] at h
      split at h <;> cases h
  · intro hr
    rw [hn] at hr
    cases hrb : Format.read double b with
    | nan s t => rw [hrb] at hr; cases hr
    | number s m' e' => rw [hrb] at hr; cases hr
    | infinity s =>
      rw [hrb] at hr h
      cases s
      · cases h
      · cases hr

end Go.AM

/- Lists of lists, that a function makes for itself. -/
namespace Go.AM
open Go.RowKit

variable {α : Type}

/-- A slice from an object's beginning, or nil. -/
def sl (y : Nat) : Nat → Value
  | 0 => .slice none 0 0
  | m + 1 => .slice (some ⟨y, 0, none⟩) (m + 1 : Nat) (m + 1 : Nat)

theorem sl_zero (y : Nat) : sl y 0 = .slice none 0 0 := rfl
theorem sl_pos {y m : Nat} (h : m ≠ 0) : sl y m = .slice (some ⟨y, 0, none⟩) m m := by
  cases m with
  | zero => exact absurd rfl h
  | succ m => rfl

def slp (y : Nat) : Nat → Option Addr
  | 0 => none
  | _ + 1 => some ⟨y, 0, none⟩
theorem sl_eq (y m : Nat) : sl y m = .slice (slp y m) m m := by cases m <;> rfl
theorem slp_pos {y m : Nat} (h : m ≠ 0) : slp y m = some ⟨y, 0, none⟩ := by
  cases m with
  | zero => exact absurd rfl h
  | succ m => rfl

def llcells (ys : Nat → Nat) (ls : List (List α)) : List Value := ls.mapIdx fun v l => sl (ys v) l.length

theorem llcells_length (ys : Nat → Nat) (ls : List (List α)) : (llcells ys ls).length = ls.length := by simp [llcells]
theorem llcells_at (ys : Nat → Nat) {ls : List (List α)} {v : Nat} (h : v < ls.length) : (llcells ys ls)[v]? = some (sl (ys v) ls[v].length) := by
  simp [llcells, h]

def upd (ys : Nat → Nat) (v y : Nat) : Nat → Nat := fun u => if u = v then y else ys u
theorem upd_at (ys : Nat → Nat) (v y : Nat) : upd ys v y v = y := by simp [upd]
theorem upd_ne (ys : Nat → Nat) (v y : Nat) {u : Nat} (h : u ≠ v) : upd ys v y u = ys u := by simp [upd, h]

theorem llcells_set (ys : Nat → Nat) (ls : List (List α)) (v y : Nat) (l : List α) : llcells (upd ys v y) (ls.set v l) = (llcells ys ls).set v (sl y l.length) := by
  apply List.ext_getElem?
  intro i
  simp only [llcells, List.getElem?_mapIdx, List.getElem?_set, List.length_mapIdx]
  by_cases hv : v = i
  · subst hv
    by_cases hl : v < ls.length <;> simp [hl, upd_at]
  · simp only [if_neg hv]
    cases ls[i]? with
    | none => rfl
    | some l' => simp [upd_ne ys v y (Ne.symm hv)]

theorem llcells_push (ys : Nat → Nat) (ls : List (List α)) (y : Nat) (l : List α) : llcells (upd ys ls.length y) (ls ++ [l]) = llcells ys ls ++ [sl y l.length] := by
  apply List.ext_getElem?
  intro i
  simp only [llcells, List.getElem?_mapIdx, List.getElem?_append, List.length_mapIdx]
  by_cases hi : i < ls.length
  · simp [hi, upd_ne ys ls.length y (show i ≠ ls.length by omega)]
  · simp only [if_neg hi]
    by_cases h0 : i - ls.length = 0
    · have : i = ls.length := by omega
      subst this; simp [upd_at]
    · obtain ⟨q, hq⟩ : ∃ q, i - ls.length = q + 1 := ⟨i - ls.length - 1, by omega⟩
      simp [hq]

/-- A list of lists, each in an object of its own. -/
structure LL (m : Nat) (H : Heap) (x ty ety : Nat) (enc : α → List Value) (ls : List (List α)) (ys : Nat → Nat) : Prop where
  hx : H x = .cells (llcells ys ls) ty true
  hy : ∀ v (h : v < ls.length), ls[v] ≠ [] → H (ys v) = .cells (ls[v].flatMap enc) ety true
  inj : ∀ u v (hu : u < ls.length) (hv : v < ls.length), ls[u] ≠ [] → ls[v] ≠ [] → ys u = ys v → u = v
  fy : ∀ v (h : v < ls.length), ls[v] ≠ [] → m ≤ ys v
  ne : ∀ v (h : v < ls.length), ls[v] ≠ [] → ys v ≠ x

section
variable {m n n' x ty ety : Nat} {H H' : Heap} {enc : α → List Value} {ls : List (List α)} {ys : Nat → Nat}

theorem LL.keep (h : LL m H x ty ety enc ls ys) (hk : ∀ z, z = x ∨ m ≤ z → H z ≠ .dead → H' z = H z) : LL m H' x ty ety enc ls ys :=
  ⟨by rw [hk x (.inl rfl) (by rw [h.hx]; intro e; cases e), h.hx], fun v hv hn => by rw [hk _ (.inr (h.fy v hv hn)) (by rw [h.hy v hv hn]; intro e; cases e), h.hy v hv hn], h.inj, h.fy, h.ne⟩

theorem live_lt (hw : WF n H) {z : Nat} (h : H z ≠ .dead) : z < n := by
  apply Classical.byContradiction
  intro hc
  exact h (hw z (by omega))

theorem live_of {z : Nat} {cs : List Value} {t : TypeId} {own : Bool} (h : H z = .cells cs t own) : H z ≠ .dead := by rw [h]; intro e; cases e

theorem LL.kp (h : LL m H x ty ety enc ls ys) (hw : WF n H) (hk : Kp n H n' H') : LL m H' x ty ety enc ls ys := h.keep fun z _ hz => hk.keep z (live_lt hw hz)
theorem LL.ltx (h : LL m H x ty ety enc ls ys) (hw : WF n H) : x < n := live_lt hw (live_of h.hx)
theorem LL.lty (h : LL m H x ty ety enc ls ys) (hw : WF n H) {v : Nat} (hv : v < ls.length) (hn : ls[v] ≠ []) : ys v < n := live_lt hw (live_of (h.hy v hv hn))
theorem LL.at (h : LL m H x ty ety enc ls ys) {v : Nat} (hv : v < ls.length) : (llcells ys ls)[v]? = some (sl (ys v) ls[v].length) := llcells_at ys hv

/-- One list is put into another object; the object that it was in may be gone. -/
theorem LL.put (h : LL m H x ty ety enc ls ys) {v y : Nat} {l : List α} (hy : l ≠ [] → H' y = .cells (l.flatMap enc) ety true) (hm : l ≠ [] → m ≤ y) (hyx : y ≠ x)
    (hx : H' x = .cells ((llcells ys ls).set v (sl y l.length)) ty true) (hnew : ∀ u (hu : u < ls.length), u ≠ v → ls[u] ≠ [] → ys u ≠ y)
    (hk : ∀ u (hu : u < ls.length), u ≠ v → ls[u] ≠ [] → H' (ys u) = H (ys u)) : LL m H' x ty ety enc (ls.set v l) (upd ys v y) := by
  have key : ∀ u (hu : u < (ls.set v l).length), u ≠ v → ∃ hu' : u < ls.length, (ls.set v l)[u] = ls[u] := fun u hu hne => ⟨by simpa using hu, by rw [List.getElem_set_ne (Ne.symm hne)]⟩
  refine ⟨by rw [hx, llcells_set], fun u hu hn => ?_, fun u w hu hw hn hn' e => ?_, fun u hu hn => ?_, fun u hu hn => ?_⟩
  · by_cases e : u = v
    · subst e
      simp only [List.getElem_set_self] at hn ⊢
      rw [upd_at]; exact hy hn
    · obtain ⟨hu', e'⟩ := key u hu e
      rw [e'] at hn ⊢
      rw [upd_ne _ _ _ e, hk u hu' e hn]
      exact h.hy u hu' hn
  · by_cases e1 : u = v
    · by_cases e2 : w = v
      · omega
      · exfalso
        obtain ⟨hw', e'⟩ := key w hw e2
        rw [e'] at hn'
        rw [e1, upd_at, upd_ne _ _ _ e2] at e
        exact hnew w hw' e2 hn' e.symm
    · obtain ⟨hu', e'⟩ := key u hu e1
      rw [e'] at hn
      by_cases e2 : w = v
      · exfalso
        rw [e2, upd_at, upd_ne _ _ _ e1] at e
        exact hnew u hu' e1 hn e
      · obtain ⟨hw', e''⟩ := key w hw e2
        rw [e''] at hn'
        rw [upd_ne _ _ _ e1, upd_ne _ _ _ e2] at e
        exact h.inj u w hu' hw' hn hn' e
  · by_cases e : u = v
    · subst e
      simp only [List.getElem_set_self] at hn
      rw [upd_at]; exact hm hn
    · obtain ⟨hu', e'⟩ := key u hu e
      rw [e'] at hn
      rw [upd_ne _ _ _ e]; exact h.fy u hu' hn
  · by_cases e : u = v
    · subst e; rw [upd_at]; exact hyx
    · obtain ⟨hu', e'⟩ := key u hu e
      rw [e'] at hn
      rw [upd_ne _ _ _ e]; exact h.ne u hu' hn

/-- One list more, in a list that is made anew. -/
theorem LL.push (h : ls ≠ [] → LL m H x ty ety enc ls ys) {x' y : Nat} {l : List α} (hy : l ≠ [] → H' y = .cells (l.flatMap enc) ety true) (hm : l ≠ [] → m ≤ y) (hyx : l ≠ [] → y ≠ x')
    (hx : H' x' = .cells (llcells ys ls ++ [sl y l.length]) ty true) (hnew : ∀ u (hu : u < ls.length), ls[u] ≠ [] → ys u ≠ y) (hx' : ∀ u (hu : u < ls.length), ls[u] ≠ [] → ys u ≠ x')
    (hk : ∀ u (hu : u < ls.length), ls[u] ≠ [] → H' (ys u) = H (ys u)) : LL m H' x' ty ety enc (ls ++ [l]) (upd ys ls.length y) := by
  have ne : ∀ u, u < ls.length → ls ≠ [] := fun u hu e => by rw [e] at hu; simp at hu
  have key : ∀ u (hu : u < (ls ++ [l]).length), (∃ h : u < ls.length, (ls ++ [l])[u] = ls[u]) ∨ u = ls.length ∧ (ls ++ [l])[u] = l := by
    intro u hu
    by_cases e : u < ls.length
    · exact .inl ⟨e, List.getElem_append_left e⟩
    · have : u = ls.length := by simp at hu; omega
      subst this
      exact .inr ⟨rfl, by simp⟩
  refine ⟨by rw [hx, llcells_push], fun u hu hn => ?_, fun u w hu hw hn hn' e => ?_, fun u hu hn => ?_, fun u hu hn => ?_⟩
  · rcases key u hu with ⟨h1, e1⟩ | ⟨rfl, e1⟩
    · rw [e1] at hn ⊢
      rw [upd_ne _ _ _ (by omega), hk u h1 hn]
      exact (h (ne u h1)).hy u h1 hn
    · rw [e1] at hn ⊢
      rw [upd_at]; exact hy hn
  · rcases key u hu with ⟨h1, e1⟩ | ⟨rfl, e1⟩ <;> rcases key w hw with ⟨h2, e2⟩ | ⟨rfl, e2⟩
    · rw [e1] at hn; rw [e2] at hn'
      rw [upd_ne _ _ _ (by omega), upd_ne _ _ _ (by omega)] at e
      exact (h (ne u h1)).inj u w h1 h2 hn hn' e
    · rw [e1] at hn
      rw [upd_ne _ _ _ (by omega), upd_at] at e
      exact absurd e (hnew u h1 hn)
    · rw [e2] at hn'
      rw [upd_at, upd_ne _ _ _ (by omega)] at e
      exact absurd e.symm (hnew w h2 hn')
    · rfl
  · rcases key u hu with ⟨h1, e1⟩ | ⟨rfl, e1⟩
    · rw [e1] at hn
      rw [upd_ne _ _ _ (by omega)]; exact (h (ne u h1)).fy u h1 hn
    · rw [e1] at hn
      rw [upd_at]; exact hm hn
  · rcases key u hu with ⟨h1, e1⟩ | ⟨rfl, e1⟩
    · rw [e1] at hn
      rw [upd_ne _ _ _ (by omega)]; exact hx' u h1 hn
    · rw [e1] at hn
      rw [upd_at]; exact hyx hn
end

/-- Nil lists. -/
theorem rep_nil (k : Nat) : rep k [Value.slice none 0 0] = llcells (fun _ => 0) (List.replicate k ([] : List α)) := by
  apply List.ext_getElem?
  intro i
  have e : rep k [Value.slice none 0 0] = List.replicate k (.slice none 0 0) := by
    induction k with
    | zero => rfl
    | succ k ih => rw [List.replicate_succ, ← ih]; rfl
  rw [e, List.getElem?_replicate]
  simp only [llcells, List.getElem?_mapIdx, List.getElem?_replicate]
  split <;> rfl

theorem LL.new {m x ty ety : Nat} {H : Heap} {enc : α → List Value} {k : Nat} (hx : H x = .cells (rep k [Value.slice none 0 0]) ty true) : LL m H x ty ety enc (List.replicate k ([] : List α)) (fun _ => 0) := by
  have key : ∀ v (h : v < (List.replicate k ([] : List α)).length), (List.replicate k ([] : List α))[v] = [] := fun v h => by simp
  exact ⟨by rw [hx, rep_nil], fun v h hn => absurd (key v h) hn, fun u v hu hv hn => absurd (key u hu) hn, fun v h hn => absurd (key v h) hn, fun v h hn => absurd (key v h) hn⟩

end Go.AM

/- What layers 9 and 11 tell, plainly: which variables vanish, which ones may stand first. -/
namespace Go.AM

/-- Variables that vanish. -/
inductive Nul (g : Gram) : Int → Prop
  | mk (i : Nat) (h : i < g.rules.length) (h0 : ∀ s ∈ g.rules[i].right, 0 ≤ s) (h1 : ∀ s ∈ g.rules[i].right, Nul g s) : Nul g g.rules[i].left

/-- Variables that become words. -/
inductive Prd (g : Gram) : Int → Prop
  | mk (i : Nat) (h : i < g.rules.length) (h1 : ∀ s ∈ g.rules[i].right, 0 ≤ s → Prd g s) : Prd g g.rules[i].left

/-- What finding by rounds comes to. -/
inductive Der (rb : GRule → List Bool → Bool) (rules : List GRule) (hs : List Bool) : List Bool → Prop
  | refl : Der rb rules hs hs
  | step {h1 : List Bool} (d : Der rb rules hs h1) (r : GRule) (hr : r ∈ rules) (hb : rb r h1 = true) : Der rb rules hs (h1.set r.left.toNat true)

theorem Der.length {rb : GRule → List Bool → Bool} {rules : List GRule} {hs h1 : List Bool} (d : Der rb rules hs h1) : h1.length = hs.length := by
  induction d with
  | refl => rfl
  | step d r hr hb ih => rw [List.length_set, ih]

/-- Do all symbols vanish? -/
def nulB (right : List Int) (hs : List Bool) : Bool := right.all fun s => decide (0 ≤ s) && hs.getD s.toNat false
def prdB (right : List Int) (hs : List Bool) : Bool := right.all fun s => decide (s < 0) || hs.getD s.toNat false

/-- Variables of rules are variables. -/
structure InG (g : Gram) : Prop where
  left0 : ∀ r ∈ g.rules, 0 ≤ r.left
  left1 : ∀ r ∈ g.rules, r.left < g.vars.length
  right : ∀ r ∈ g.rules, ∀ s ∈ r.right, s < g.vars.length
  rightT : ∀ r ∈ g.rules, ∀ s ∈ r.right, s < 0 → -s - 1 < g.terms.length

def hold (hs : List Bool) (v : Int) : Prop := 0 ≤ v ∧ hs.getD v.toNat false = true

theorem hold_set {hs : List Bool} {w v : Int} (hw : 0 ≤ w) (h : hold (hs.set w.toNat true) v) : hold hs v ∨ v = w := by
  obtain ⟨h0, h⟩ := h
  rw [List.getD_eq_getElem?_getD, List.getElem?_set] at h
  by_cases e : w.toNat = v.toNat
  · exact .inr (by omega)
  · rw [if_neg e] at h
    exact .inl ⟨h0, by rwa [List.getD_eq_getElem?_getD]⟩

theorem nulB_hold {right : List Int} {hs : List Bool} : nulB right hs = true ↔ ∀ s ∈ right, hold hs s := by
  unfold nulB hold
  rw [List.all_eq_true]
  simp
theorem prdB_hold {right : List Int} {hs : List Bool} : prdB right hs = true ↔ ∀ s ∈ right, 0 ≤ s → hold hs s := by
  unfold prdB hold
  rw [List.all_eq_true]
  constructor
  · intro h s hs h0
    have := h s hs
    simp at this
    exact ⟨h0, by rcases this with h | h; omega; simpa using h⟩
  · intro h s hs
    rcases Int.lt_or_le s 0 with h0 | h0
    · simp [h0]
    · have := (h s hs h0).2
      simp at this
      simp [this]

theorem der_nul {g : Gram} (hg : InG g) {n : Nat} {hs : List Bool} (d : Der (fun r => nulB r.right) g.rules (List.replicate n false) hs) : ∀ v, hold hs v → Nul g v := by
  induction d with
  | refl =>
    intro v h
    exfalso
    have := h.2
    rw [List.getD_eq_getElem?_getD, List.getElem?_replicate] at this
    split at this <;> simp at this
  | step d r hr hb ih =>
    intro v h
    rcases hold_set (hg.left0 r hr) h with h | rfl
    · exact ih v h
    · obtain ⟨i, hi, rfl⟩ := List.getElem_of_mem hr
      exact .mk i hi (fun s hs => ((nulB_hold.1 hb) s hs).1) (fun s hs => ih s ((nulB_hold.1 hb) s hs))

theorem closed_nul {g : Gram} (hg : InG g) {hs : List Bool} (hc : ∀ r ∈ g.rules, hs.getD r.left.toNat false = true ∨ nulB r.right hs = false) : ∀ v, Nul g v → hold hs v := by
  intro v h
  induction h with
  | mk i h h0 h1 ih =>
    have hm := List.getElem_mem h
    rcases hc _ hm with e | e
    · exact ⟨hg.left0 _ hm, e⟩
    · rw [nulB_hold.2 fun s hs => ih s hs] at e; cases e

theorem der_prd {g : Gram} (hg : InG g) {n : Nat} {hs : List Bool} (d : Der (fun r => prdB r.right) g.rules (List.replicate n false) hs) : ∀ v, hold hs v → Prd g v := by
  induction d with
  | refl =>
    intro v h
    exfalso
    have := h.2
    rw [List.getD_eq_getElem?_getD, List.getElem?_replicate] at this
    split at this <;> simp at this
  | step d r hr hb ih =>
    intro v h
    rcases hold_set (hg.left0 r hr) h with h | rfl
    · exact ih v h
    · obtain ⟨i, hi, rfl⟩ := List.getElem_of_mem hr
      exact .mk i hi (fun s hs h0 => ih s ((prdB_hold.1 hb) s hs h0))

theorem closed_prd {g : Gram} (hg : InG g) {hs : List Bool} (hc : ∀ r ∈ g.rules, hs.getD r.left.toNat false = true ∨ prdB r.right hs = false) : ∀ v, Prd g v → hold hs v := by
  intro v h
  induction h with
  | mk i h h1 ih =>
    have hm := List.getElem_mem h
    rcases hc _ hm with e | e
    · exact ⟨hg.left0 _ hm, e⟩
    · rw [prdB_hold.2 fun s hs h0 => ih s hs h0] at e; cases e

/-- A step from a variable to one that may stand first then. -/
structure Edg (g : Gram) (v : Int) (i at_ : Nat) (u : Int) : Prop where
  hi : i < g.rules.length
  left : g.rules[i].left = v
  hat : g.rules[i].right[at_]? = some u
  u0 : 0 ≤ u
  nul : ∀ q, q < at_ → ∀ s, g.rules[i].right[q]? = some s → Nul g s

def Beg (g : Gram) (v u : Int) : Prop := ∃ i at_, Edg g v i at_ u

/-- One step or more. -/
inductive Rch (g : Gram) (v : Int) : Int → Prop
  | one {u : Int} (h : Beg g v u) : Rch g v u
  | more {u w : Int} (h : Rch g v u) (k : Beg g u w) : Rch g v w

theorem Rch.trans {g : Gram} {u v w : Int} (a : Rch g u v) (b : Rch g v w) : Rch g u w := by
  induction b with
  | one h => exact a.more h
  | more h k ih => exact ih.more k

theorem Edg.right {g : Gram} {v u : Int} {i at_ : Nat} (h : Edg g v i at_ u) (hg : InG g) : u < g.vars.length :=
  hg.right _ (List.getElem_mem h.hi) _ (List.mem_of_getElem? h.hat)

end Go.AM

/- Finding what can be reached, by a list of what is to be done: plainly. -/
namespace Go.AM

/-- A row tells what can be reached. -/
structure GoodRow (g : Gram) (v : Nat) (r : List Bool) : Prop where
  len : r.length = g.vars.length
  mem : ∀ u : Nat, r[u]? = some true ↔ Rch g v u

/-- What holds midway: `busy` is what is being done. -/
structure Work (g : Gram) (v : Nat) (r : List Bool) (todo : List Nat) (busy : Nat → Prop) : Prop where
  sound : ∀ u : Nat, r[u]? = some true → Rch g v u
  known : ∀ u, u ∈ todo → u = v ∨ r[u]? = some true
  closed : ∀ u : Nat, u = v ∨ r[u]? = some true → u ∈ todo ∨ busy u ∨ ∀ w : Nat, Beg g u w → r[w]? = some true

theorem Work.start (g : Gram) (v k : Nat) : Work g v (List.replicate k false) [v] (fun _ => False) := by
  have h0 : ∀ u : Nat, (List.replicate k false)[u]? ≠ some true := by
    intro u h
    rw [List.getElem?_replicate] at h
    split at h <;> simp at h
  refine ⟨fun u h => absurd h (h0 u), fun u h => .inl (by simpa using h), fun u h => ?_⟩
  rcases h with h | h
  · exact .inl (by simp [h])
  · exact absurd h (h0 u)

theorem Work.pop {g : Gram} {v : Nat} {r : List Bool} {todo : List Nat} {u : Nat} (h : Work g v r (todo ++ [u]) (fun _ => False)) : Work g v r todo (fun w => w = u) := by
  refine ⟨h.sound, fun w hw => h.known w (by simp [hw]), fun w hw => ?_⟩
  rcases h.closed w hw with h1 | h1 | h1
  · simp at h1
    rcases h1 with h1 | h1
    · exact .inl h1
    · exact .inr (.inl h1)
  · exact h1.elim
  · exact .inr (.inr h1)

theorem Work.push {g : Gram} {v : Nat} {r : List Bool} {todo : List Nat} {u w : Nat} (h : Work g v r todo (fun w => w = u)) (hu : u = v ∨ r[u]? = some true) (hb : Beg g u w) (hw : w < r.length) : Work g v (r.set w true) (todo ++ [w]) (fun w => w = u) := by
  have up : ∀ x : Nat, r[x]? = some true → (r.set w true)[x]? = some true := by
    intro x hx
    rw [List.getElem?_set]
    split
    · rename_i e; subst e; simp [hw]
    · exact hx
  have dn : ∀ x : Nat, (r.set w true)[x]? = some true → x = w ∨ r[x]? = some true := by
    intro x hx
    rw [List.getElem?_set] at hx
    split at hx
    · rename_i e; exact .inl e.symm
    · exact .inr hx
  have hrw : Rch g v w := by
    rcases hu with e | e
    · subst e; exact .one hb
    · exact (h.sound u e).more hb
  refine ⟨fun x hx => ?_, fun x hx => ?_, fun x hx => ?_⟩
  · rcases dn x hx with e | e
    · subst e; exact hrw
    · exact h.sound x e
  · simp at hx
    rcases hx with hx | hx
    · rcases h.known x hx with e | e
      · exact .inl e
      · exact .inr (up x e)
    · subst hx
      exact .inr (by rw [List.getElem?_set]; simp [hw])
  · by_cases e : x = w
    · exact .inl (by simp [e])
    · have hx' : x = v ∨ r[x]? = some true := by
        rcases hx with hx | hx
        · exact .inl hx
        · rcases dn x hx with h1 | h1
          · exact absurd h1 e
          · exact .inr h1
      rcases h.closed x hx' with h1 | h1 | h1
      · exact .inl (by simp [h1])
      · exact .inr (.inl h1)
      · exact .inr (.inr fun y hy => up y (h1 y hy))

theorem Work.done {g : Gram} {v : Nat} {r : List Bool} {todo : List Nat} {u : Nat} (h : Work g v r todo (fun w => w = u)) (ha : ∀ w : Nat, Beg g u w → r[w]? = some true) : Work g v r todo (fun _ => False) := by
  refine ⟨h.sound, h.known, fun w hw => ?_⟩
  rcases h.closed w hw with h1 | h1 | h1
  · exact .inl h1
  · subst h1; exact .inr (.inr ha)
  · exact .inr (.inr h1)

theorem Beg.nat {g : Gram} {v u : Int} (h : Beg g v u) : 0 ≤ u := by
  obtain ⟨i, a, h⟩ := h
  exact h.u0

theorem Beg.lt {g : Gram} (hg : InG g) {v u : Int} (h : Beg g v u) : u < g.vars.length := by
  obtain ⟨i, a, h⟩ := h
  exact h.right hg

theorem Work.good {g : Gram} {v : Nat} {r : List Bool} (h : Work g v r [] (fun _ => False)) (hl : r.length = g.vars.length) : GoodRow g v r := by
  refine ⟨hl, fun u => ⟨h.sound u, fun hr => ?_⟩⟩
  have cl : ∀ u : Nat, u = v ∨ r[u]? = some true → ∀ w : Nat, Beg g u w → r[w]? = some true := by
    intro u hu
    rcases h.closed u hu with h1 | h1 | h1
    · simp at h1
    · exact h1.elim
    · exact h1
  have key : ∀ x : Int, Rch g v x → ∀ u : Nat, x = u → r[u]? = some true := by
    intro x hx
    induction hx with
    | one hb => intro u e; subst e; exact cl v (.inl rfl) u hb
    | @more y z hy hb ih =>
      intro u e; subst e
      have hy0 : 0 ≤ y := by
        cases hy with
        | one h => exact h.nat
        | more _ h => exact h.nat
      obtain ⟨q, rfl⟩ : ∃ q : Nat, y = q := ⟨y.toNat, by omega⟩
      exact cl q (.inr (ih q rfl)) u hb
  exact key u hr u rfl

theorem count_false_le (r : List Bool) : r.count false ≤ r.length := List.count_le_length

end Go.AM

/- Groups of variables, plainly. -/
namespace Go.AM

def rowsB (rows : List (List Bool)) (v u : Nat) : Bool := (rows.getD v []).getD u false

theorem Rch.left_lt {g : Gram} (hg : InG g) {v u : Int} (h : Rch g v u) : 0 ≤ v ∧ v < g.vars.length := by
  induction h with
  | one h =>
    obtain ⟨i, a, h⟩ := h
    have e := h.left
    have := hg.left0 _ (List.getElem_mem h.hi)
    have := hg.left1 _ (List.getElem_mem h.hi)
    omega
  | more _ _ ih => exact ih

theorem rowsB_iff {g : Gram} (hg : InG g) {rows : List (List Bool)} (hl : rows.length = g.vars.length) (h : ∀ v r, rows[v]? = some r → GoodRow g v r) (v u : Nat) : rowsB rows v u = true ↔ Rch g v u := by
  unfold rowsB
  rw [List.getD_eq_getElem?_getD, List.getD_eq_getElem?_getD]
  cases e : rows[v]? with
  | none =>
    simp
    intro hr
    have := (hr.left_lt hg).2
    rw [List.getElem?_eq_none_iff] at e
    omega
  | some r =>
    rw [← (h v r e).mem u]
    simp
    cases r[u]? <;> simp

theorem RchB_ext {g : Gram} {R S : Nat → Nat → Bool} (hr : ∀ v u : Nat, R v u = true ↔ Rch g v u) (hs : ∀ v u : Nat, S v u = true ↔ Rch g v u) : R = S := by
  funext v u
  rw [Bool.eq_iff_iff, hr, hs]

/-- Who may begin with one another. -/
def mut2 (R : Nat → Nat → Bool) (v u : Nat) : Bool := R v u && R u v
def grp (R : Nat → Nat → Bool) (n v : Nat) : List Nat := (List.range n).filter (mut2 R v)
def leader (R : Nat → Nat → Bool) (v : Nat) : Bool := R v v && (List.range v).all fun u => !mut2 R v u
def groupsS (R : Nat → Nat → Bool) (n k : Nat) : List (List Nat) := ((List.range k).filter (leader R)).map (grp R n)

theorem groupsS_succ (R : Nat → Nat → Bool) (n k : Nat) : groupsS R n (k + 1) = groupsS R n k ++ if leader R k then [grp R n k] else [] := by
  unfold groupsS
  rw [List.range_succ, List.filter_append, List.map_append]
  congr 1
  simp only [List.filter_cons, List.filter_nil]
  split <;> rfl

theorem mut2_comm {R : Nat → Nat → Bool} {v u : Nat} : mut2 R v u = mut2 R u v := by unfold mut2; rw [Bool.and_comm]

theorem least {p : Nat → Prop} {u : Nat} (h : p u) : ∃ w, w ≤ u ∧ p w ∧ ∀ x, x < w → ¬ p x := by
  induction u using Nat.strongRecOn with
  | ind u ih =>
    by_cases hx : ∃ x, x < u ∧ p x
    · obtain ⟨x, h1, h2⟩ := hx
      obtain ⟨w, a, b, c⟩ := ih x h1 h2
      exact ⟨w, by omega, b, c⟩
    · exact ⟨u, Nat.le_refl u, h, fun x h1 h2 => hx ⟨x, h1, h2⟩⟩

/-- A variable is in a group that is there, just if one ahead of it may begin with it, and it with that. -/
theorem in_groups {R : Nat → Nat → Bool} (ht : ∀ a b c, R a b = true → R b c = true → R a c = true) {n k : Nat} (hk : k < n) : (∃ l ∈ groupsS R n k, k ∈ l) ↔ ∃ u, u < k ∧ mut2 R k u = true := by
  constructor
  · rintro ⟨l, hl, hkl⟩
    unfold groupsS at hl
    rw [List.mem_map] at hl
    obtain ⟨u, hu, rfl⟩ := hl
    rw [List.mem_filter, List.mem_range] at hu
    unfold grp at hkl
    rw [List.mem_filter] at hkl
    exact ⟨u, hu.1, by rw [mut2_comm]; exact hkl.2⟩
  · rintro ⟨u, hu, hm⟩
    obtain ⟨w, h1, h2, h3⟩ := least (p := fun u => mut2 R k u = true) hm
    have hw : w < k := by omega
    refine ⟨grp R n w, ?_, ?_⟩
    · unfold groupsS
      refine List.mem_map.2 ⟨w, List.mem_filter.2 ⟨List.mem_range.2 hw, ?_⟩, rfl⟩
      unfold leader
      rw [Bool.and_eq_true, List.all_eq_true]
      unfold mut2 at h2
      rw [Bool.and_eq_true] at h2
      refine ⟨ht w k w h2.2 h2.1, fun x hx => ?_⟩
      rw [Bool.not_eq_true']
      by_cases e : mut2 R w x = true
      · exfalso
        refine h3 x (List.mem_range.1 hx) ?_
        unfold mut2 at e ⊢
        rw [Bool.and_eq_true] at e ⊢
        exact ⟨ht k w x h2.1 e.1, ht x w k e.2 h2.2⟩
      · simpa using e
    · unfold grp
      exact List.mem_filter.2 ⟨List.mem_range.2 hk, by rw [mut2_comm]; exact h2⟩

theorem grp_lt {R : Nat → Nat → Bool} {n v x : Nat} (h : x ∈ grp R n v) : x < n := by
  unfold grp at h
  exact List.mem_range.1 (List.mem_filter.1 h).1

theorem grp_len (R : Nat → Nat → Bool) (n v : Nat) : (grp R n v).length ≤ n := by
  unfold grp
  have := List.length_filter_le (mut2 R v) (List.range n)
  rw [List.length_range] at this
  exact this

theorem groupsS_len {R : Nat → Nat → Bool} {n k : Nat} {l : List Nat} (h : l ∈ groupsS R n k) : l.length ≤ n := by
  unfold groupsS at h
  rw [List.mem_map] at h
  obtain ⟨w, _, rfl⟩ := h
  exact grp_len R n w

/-- A group as far as a variable. -/
def grpTo (R : Nat → Nat → Bool) (v k : Nat) : List Nat := (List.range k).filter (mut2 R v)
theorem grpTo_succ (R : Nat → Nat → Bool) (v k : Nat) : grpTo R v (k + 1) = if mut2 R v k then grpTo R v k ++ [k] else grpTo R v k := by
  unfold grpTo
  rw [List.range_succ, List.filter_append]
  simp only [List.filter_cons, List.filter_nil]
  split
  · rfl
  · simp
theorem grpTo_all (R : Nat → Nat → Bool) (n v : Nat) : grpTo R v n = grp R n v := rfl
theorem grpTo_len (R : Nat → Nat → Bool) (v k : Nat) : (grpTo R v k).length ≤ k := grp_len R k v

theorem leader_of {R : Nat → Nat → Bool} (ht : ∀ a b c, R a b = true → R b c = true → R a c = true) {v : Nat} (h : R v v = true) : ∃ w, w ≤ v ∧ leader R w = true ∧ mut2 R w v = true := by
  have h0 : mut2 R v v = true := by unfold mut2; rw [h]; rfl
  obtain ⟨w, h1, h2, h3⟩ := least (p := fun u => mut2 R v u = true) h0
  refine ⟨w, h1, ?_, by rw [mut2_comm]; exact h2⟩
  unfold leader
  rw [Bool.and_eq_true, List.all_eq_true]
  unfold mut2 at h2
  rw [Bool.and_eq_true] at h2
  refine ⟨ht w v w h2.2 h2.1, fun x hx => ?_⟩
  rw [Bool.not_eq_true']
  by_cases e : mut2 R w x = true
  · exfalso
    refine h3 x (List.mem_range.1 hx) ?_
    unfold mut2 at e ⊢
    rw [Bool.and_eq_true] at e ⊢
    exact ⟨ht v w x h2.1 e.1, ht x w v e.2 h2.2⟩
  · simpa using e

theorem mem_groups {R : Nat → Nat → Bool} {n k : Nat} {l : List Nat} : l ∈ groupsS R n k ↔ ∃ u, u < k ∧ leader R u = true ∧ grp R n u = l := by
  unfold groupsS
  rw [List.mem_map]
  constructor
  · rintro ⟨u, hu, e⟩
    rw [List.mem_filter, List.mem_range] at hu
    exact ⟨u, hu.1, hu.2, e⟩
  · rintro ⟨u, h1, h2, e⟩
    exact ⟨u, List.mem_filter.2 ⟨List.mem_range.2 h1, h2⟩, e⟩

theorem mem_grp {R : Nat → Nat → Bool} {n v x : Nat} : x ∈ grp R n v ↔ x < n ∧ mut2 R v x = true := by
  unfold grp
  rw [List.mem_filter, List.mem_range]

/-- All recursive variables are in groups, and no others. -/
theorem in_all {R : Nat → Nat → Bool} (ht : ∀ a b c, R a b = true → R b c = true → R a c = true) {n v : Nat} (hv : v < n) : (∃ l ∈ groupsS R n n, v ∈ l) ↔ R v v = true := by
  constructor
  · rintro ⟨l, hl, hvl⟩
    obtain ⟨u, _, _, rfl⟩ := mem_groups.1 hl
    have h := (mem_grp.1 hvl).2
    unfold mut2 at h
    rw [Bool.and_eq_true] at h
    exact ht v u v h.2 h.1
  · intro h
    obtain ⟨w, h1, h2, h3⟩ := leader_of ht h
    exact ⟨_, mem_groups.2 ⟨w, by omega, h2, rfl⟩, mem_grp.2 ⟨hv, h3⟩⟩

/-- Groups have nothing in common. -/
theorem groups_apart {R : Nat → Nat → Bool} (ht : ∀ a b c, R a b = true → R b c = true → R a c = true) {n p q v : Nat} (hpq : p < q) (hq : q < (groupsS R n n).length) (h1 : v ∈ (groupsS R n n)[p]) (h2 : v ∈ (groupsS R n n)[q]) : False := by
  have hs : ((List.range n).filter (leader R)).Pairwise (· < ·) := List.Pairwise.filter _ List.pairwise_lt_range
  have hl : (groupsS R n n).length = ((List.range n).filter (leader R)).length := by unfold groupsS; rw [List.length_map]
  have e : ∀ r (h : r < (groupsS R n n).length), (groupsS R n n)[r] = grp R n (((List.range n).filter (leader R))[r]'(by omega)) := fun r h => List.getElem_map (grp R n) (l := (List.range n).filter (leader R)) (h := h)
  rw [e p (by omega)] at h1
  rw [e q hq] at h2
  have hlt := List.pairwise_iff_getElem.1 hs p q (by omega) (by omega) hpq
  have hq2 := (List.mem_filter.1 (List.getElem_mem (l := (List.range n).filter (leader R)) (n := q) (by omega))).2
  generalize ((List.range n).filter (leader R))[p]'(by omega) = a at *
  generalize ((List.range n).filter (leader R))[q]'(by omega) = b at *
  have m1 := (mem_grp.1 h1).2
  have m2 := (mem_grp.1 h2).2
  unfold leader at hq2
  rw [Bool.and_eq_true, List.all_eq_true] at hq2
  have := hq2.2 a (List.mem_range.2 hlt)
  rw [Bool.not_eq_true'] at this
  unfold mut2 at m1 m2 this
  rw [Bool.and_eq_true] at m1 m2
  rw [ht b v a m2.1 m1.2, ht a v b m1.1 m2.2] at this
  cases this

theorem grp_up {R : Nat → Nat → Bool} {n v p q : Nat} (hpq : p < q) (hq : q < (grp R n v).length) : (grp R n v)[p] < (grp R n v)[q] := by
  have hs : (grp R n v).Pairwise (· < ·) := List.Pairwise.filter _ List.pairwise_lt_range
  exact List.pairwise_iff_getElem.1 hs p q (by omega) hq hpq

end Go.AM

/- Finding by rounds that all go through the same state: plainly. -/
namespace Go.AM

/-- What a round makes of a row. -/
structure RoundTo (rb : GRule → List Bool → Bool) (rules : List GRule) (k : Nat) (hs nx : List Bool) : Prop where
  len : nx.length = hs.length
  mem : ∀ v : Nat, v < hs.length → (nx.getD v false = true ↔ hs.getD v false = true ∨ ∃ i, ∃ h : i < rules.length, i < k ∧ rules[i].left = v ∧ rb rules[i] hs = true)

def ClosedR (rb : GRule → List Bool → Bool) (rules : List GRule) (hs : List Bool) : Prop := ∀ r ∈ rules, hs.getD r.left.toNat false = true ∨ rb r hs = false

theorem RoundTo.start (rb : GRule → List Bool → Bool) (rules : List GRule) (hs : List Bool) : RoundTo rb rules 0 hs hs := by
  refine ⟨rfl, fun v hv => ⟨.inl, ?_⟩⟩
  rintro (h | ⟨i, _, h, _⟩)
  · exact h
  · omega

theorem RoundTo.skip {rb : GRule → List Bool → Bool} {rules : List GRule} {k : Nat} {hs nx : List Bool} (h : RoundTo rb rules k hs nx) (hk : k < rules.length) (hb : rb rules[k] hs = false) : RoundTo rb rules (k + 1) hs nx := by
  refine ⟨h.len, fun v hv => (h.mem v hv).trans ?_⟩
  constructor
  · rintro (e | ⟨i, h1, h2, h3⟩)
    · exact .inl e
    · exact .inr ⟨i, h1, by omega, h3⟩
  · rintro (e | ⟨i, h1, h2, h3, h4⟩)
    · exact .inl e
    · by_cases e : i = k
      · subst e; rw [hb] at h4; cases h4
      · exact .inr ⟨i, h1, by omega, h3, h4⟩

theorem RoundTo.take {rb : GRule → List Bool → Bool} {rules : List GRule} {k l : Nat} {hs nx : List Bool} (h : RoundTo rb rules k hs nx) (hk : k < rules.length) (hl : rules[k].left = l) (hll : l < hs.length) (hb : rb rules[k] hs = true) : RoundTo rb rules (k + 1) hs (nx.set l true) := by
  refine ⟨by rw [List.length_set, h.len], fun v hv => ?_⟩
  have hvn : v < nx.length := by rw [h.len]; exact hv
  rw [List.getD_eq_getElem?_getD, List.getElem?_set]
  by_cases e : l = v
  · subst e
    simp [hvn]
    exact .inr ⟨k, by omega, hk, hl, hb⟩
  · rw [if_neg e, ← List.getD_eq_getElem?_getD, h.mem v hv]
    constructor
    · rintro (e | ⟨i, h1, h2, h3⟩)
      · exact .inl e
      · exact .inr ⟨i, h1, by omega, h3⟩
    · rintro (e' | ⟨i, h1, h2, h3, h4⟩)
      · exact .inl e'
      · by_cases e2 : i = k
        · subst e2
          rw [hl] at h3
          exact absurd (by omega) e
        · exact .inr ⟨i, h1, by omega, h3, h4⟩

theorem count_le_of {hs nx : List Bool} (hl : nx.length = hs.length) (h : ∀ v, v < hs.length → hs.getD v false = true → nx.getD v false = true) : hs.count true ≤ nx.count true := by
  induction hs generalizing nx with
  | nil => simp
  | cons a hs ih =>
    match nx, hl with
    | b :: nx, hl =>
      have h0 := h 0 (by simp)
      have h1 := ih (nx := nx) (by simpa using hl) (fun v hv e => by
        have := h (v + 1) (by simpa using hv) (by simpa using e)
        simpa using this)
      simp at h0
      cases a <;> cases b <;> simp_all <;> omega

theorem count_lt_of {hs nx : List Bool} (hl : nx.length = hs.length) (h : ∀ v, v < hs.length → hs.getD v false = true → nx.getD v false = true) {w : Nat} (hw : w < hs.length) (h1 : hs.getD w false = false) (h2 : nx.getD w false = true) : hs.count true < nx.count true := by
  induction hs generalizing nx w with
  | nil => simp at hw
  | cons a hs ih =>
    match nx, hl with
    | b :: nx, hl =>
      have h0 := h 0 (by simp)
      have hr : ∀ v, v < hs.length → hs.getD v false = true → nx.getD v false = true := fun v hv e => by
        have := h (v + 1) (by simpa using hv) (by simpa using e)
        simpa using this
      cases w with
      | zero =>
        simp at h1 h2
        subst h1 h2
        have := count_le_of (by simpa using hl) hr
        simp; omega
      | succ w =>
        have := ih (nx := nx) (w := w) (by simpa using hl) hr (by simpa using hw) (by simpa using h1) (by simpa using h2)
        simp at h0
        cases a <;> cases b <;> simp_all <;> omega

/-- A whole round: either all is found, or one more is. -/
theorem RoundTo.next {rb : GRule → List Bool → Bool} {rules : List GRule} {hs nx : List Bool} {n : Nat} (h : RoundTo rb rules rules.length hs nx) (hleft : ∀ r ∈ rules, 0 ≤ r.left ∧ r.left < hs.length) (hp : ClosedR rb rules hs ∨ n ≤ hs.count true) :
    ClosedR rb rules nx ∨ n + 1 ≤ nx.count true := by
  have up : ∀ v, v < hs.length → hs.getD v false = true → nx.getD v false = true := fun v hv e => (h.mem v hv).2 (.inl e)
  by_cases hc : ClosedR rb rules hs
  · left
    have e : nx = hs := by
      apply List.ext_getElem?
      intro i
      by_cases hi : i < hs.length
      · have hin : i < nx.length := by rw [h.len]; exact hi
        have := h.mem i hi
        rw [List.getElem?_eq_getElem hi, List.getElem?_eq_getElem hin]
        simp only [List.getD_eq_getElem?_getD, List.getElem?_eq_getElem hi, List.getElem?_eq_getElem hin, Option.getD_some] at this
        congr 1
        rw [Bool.eq_iff_iff, this]
        refine ⟨?_, .inl⟩
        rintro (e | ⟨q, h1, _, h3, h4⟩)
        · exact e
        · rcases hc _ (List.getElem_mem h1) with e | e
          · rw [h3] at e
            simpa [hi] using e
          · rw [e] at h4; cases h4
      · rw [List.getElem?_eq_none (l := nx) (by rw [h.len]; omega), List.getElem?_eq_none (l := hs) (by omega)]
    rw [e]; exact hc
  · right
    rcases hp with hp | hp
    · exact absurd hp hc
    · have : ∃ r ∈ rules, hs.getD r.left.toNat false = false ∧ rb r hs = true := by
        apply Classical.byContradiction
        intro hn
        refine hc fun r hr => ?_
        by_cases e1 : hs.getD r.left.toNat false = true
        · exact .inl e1
        · by_cases e2 : rb r hs = true
          · exact absurd ⟨r, hr, by simpa using e1, e2⟩ hn
          · exact .inr (by simpa using e2)
      obtain ⟨r, hr, e1, e2⟩ := this
      obtain ⟨i, hi, rfl⟩ := List.getElem_of_mem hr
      have hl := hleft _ hr
      have hw : rules[i].left.toNat < hs.length := by omega
      have := count_lt_of h.len up hw e1 ((h.mem _ hw).2 (.inr ⟨i, hi, hi, by omega, e2⟩))
      omega

theorem closed_full {rb : GRule → List Bool → Bool} {rules : List GRule} {hs : List Bool} (hleft : ∀ r ∈ rules, 0 ≤ r.left ∧ r.left < hs.length) (hp : ClosedR rb rules hs ∨ hs.length ≤ hs.count true) : ClosedR rb rules hs := by
  rcases hp with h | h
  · exact h
  · intro r hr
    left
    have hl := hleft r hr
    have hall : ∀ b ∈ hs, true = b := List.count_eq_length.1 (Nat.le_antisymm List.count_le_length h)
    have hw : r.left.toNat < hs.length := by omega
    rw [List.getD_eq_getElem?_getD, List.getElem?_eq_getElem hw]
    exact (hall _ (List.getElem_mem hw)).symm

end Go.AM

/- Warshall's rounds, plainly. -/
namespace Go.AM

def Pth (E : Nat → Nat → Prop) : Nat → Nat → Nat → Prop
  | 0, v, u => E v u
  | k + 1, v, u => Pth E k v u ∨ Pth E k v k ∧ Pth E k k u

theorem Pth.up {E : Nat → Nat → Prop} {k v u : Nat} (h : Pth E k v u) : Pth E (k + 1) v u := .inl h
theorem Pth.le {E : Nat → Nat → Prop} {k l v u : Nat} (hkl : k ≤ l) (h : Pth E k v u) : Pth E l v u := by
  induction l with
  | zero => have : k = 0 := by omega
            subst this; exact h
  | succ l ih =>
    by_cases e : k = l + 1
    · subst e; exact h
    · exact (ih (by omega)).up

theorem Pth.trans {E : Nat → Nat → Prop} : ∀ {k w v u : Nat}, w < k → Pth E k v w → Pth E k w u → Pth E k v u := by
  intro k
  induction k with
  | zero => intro w v u h; omega
  | succ k ih =>
    intro w v u hw h1 h2
    by_cases e : w = k
    · subst e
      have a : Pth E w v w := by rcases h1 with h | ⟨h, _⟩ <;> exact h
      have b : Pth E w w u := by rcases h2 with h | ⟨_, h⟩ <;> exact h
      exact .inr ⟨a, b⟩
    · have hwk : w < k := by omega
      rcases h1 with h1 | ⟨h1, h1'⟩ <;> rcases h2 with h2 | ⟨h2, h2'⟩
      · exact .inl (ih hwk h1 h2)
      · exact .inr ⟨ih hwk h1 h2, h2'⟩
      · exact .inr ⟨h1, ih hwk h1' h2⟩
      · exact .inr ⟨h1, h2'⟩

theorem rch_pth {g : Gram} (hg : InG g) {v : Nat} {x : Int} (h : Rch g v x) : ∀ u : Nat, x = u → Pth (fun v u => Beg g v u) g.vars.length v u := by
  induction h with
  | one h => intro u e; subst e; exact Pth.le (Nat.zero_le _) (show Pth (fun v u : Nat => Beg g v u) 0 v u from h)
  | @more y z hy hb ih =>
    intro u e; subst e
    have hy0 : 0 ≤ y ∧ y < g.vars.length := by
      cases hy with
      | one h => exact ⟨h.nat, h.lt hg⟩
      | more _ h => exact ⟨h.nat, h.lt hg⟩
    obtain ⟨q, rfl⟩ : ∃ q : Nat, y = q := ⟨y.toNat, by omega⟩
    exact Pth.trans (w := q) (by omega) (ih q rfl) (Pth.le (Nat.zero_le _) (show Pth (fun v u : Nat => Beg g v u) 0 q u from hb))

theorem rowsB_set {rows : List (List Bool)} {v u : Nat} {b : Bool} (hv : v < rows.length) (hu : u < rows[v].length) (x y : Nat) : rowsB (rows.set v (rows[v].set u b)) x y = if x = v ∧ y = u then b else rowsB rows x y := by
  unfold rowsB
  by_cases hx : x = v
  · subst hx
    have e : (rows.set x (rows[x].set u b)).getD x [] = rows[x].set u b := by
      rw [List.getD_eq_getElem?_getD, List.getElem?_set]; simp [hv]
    have e2 : rows.getD x [] = rows[x] := by rw [List.getD_eq_getElem?_getD, List.getElem?_eq_getElem hv]; rfl
    rw [e, e2]
    by_cases hy : y = u
    · subst hy
      rw [List.getD_eq_getElem?_getD, List.getElem?_set]; simp [hu]
    · rw [List.getD_eq_getElem?_getD, List.getElem?_set, if_neg (fun e => hy e.symm), if_neg (fun e => hy e.2), List.getD_eq_getElem?_getD]
  · have e : (rows.set v (rows[v].set u b)).getD x [] = rows.getD x [] := by
      rw [List.getD_eq_getElem?_getD, List.getElem?_set, if_neg (fun e => hx e.symm), List.getD_eq_getElem?_getD]
    rw [e, if_neg (fun e => hx e.1)]

theorem rowsB_at {rows : List (List Bool)} {x y : Nat} (hx : x < rows.length) (hy : y < rows[x].length) : rowsB rows x y = rows[x][y] := by
  simp [rowsB, hx, hy]
theorem rowsB_lt {rows : List (List Bool)} {x y : Nat} (h : rowsB rows x y = true) : ∃ hx : x < rows.length, y < rows[x].length := by
  unfold rowsB at h
  by_cases hx : x < rows.length
  · refine ⟨hx, ?_⟩
    apply Classical.byContradiction
    intro hc
    have e : rows.getD x [] = rows[x] := by simp [hx]
    rw [e, List.getD_eq_getElem?_getD, List.getElem?_eq_none (by omega)] at h
    simp at h
  · have e : rows.getD x [] = [] := by simp [hx]
    rw [e] at h
    simp at h

/-- What holds midway: at round `k`, at the place `v`, `u`. -/
structure Warsh (g : Gram) (M : Nat → Nat → Bool) (k v u : Nat) : Prop where
  sound : ∀ x y : Nat, M x y = true → Rch g x y
  old : ∀ x y, x < g.vars.length → y < g.vars.length → Pth (fun v u => Beg g v u) k x y → M x y = true
  new : ∀ x y, x < g.vars.length → y < g.vars.length → (x < v ∨ x = v ∧ y < u) → Pth (fun v u => Beg g v u) (k + 1) x y → M x y = true

theorem Warsh.step {g : Gram} {M M' : Nat → Nat → Bool} {k v u : Nat} (h : Warsh g M k v u) (hv : v < g.vars.length) (hu : u < g.vars.length) (hk : k < g.vars.length) (hM : ∀ x y, M' x y = if x = v ∧ y = u then (M v u || M v k && M k u) else M x y) : Warsh g M' k v (u + 1) := by
  have up : ∀ x y, M x y = true → M' x y = true := by
    intro x y e
    rw [hM]
    split
    · rename_i h1; rw [h1.1, h1.2] at e; rw [e]; rfl
    · exact e
  refine ⟨fun x y e => ?_, fun x y hx hy hp => up x y (h.old x y hx hy hp), fun x y hx hy hb hp => ?_⟩
  · rw [hM] at e
    split at e
    · rename_i h1
      rw [h1.1, h1.2]
      rw [Bool.or_eq_true, Bool.and_eq_true] at e
      rcases e with e | ⟨e1, e2⟩
      · exact h.sound v u e
      · exact (h.sound v k e1).trans (h.sound k u e2)
    · exact h.sound x y e
  · by_cases h1 : x = v ∧ y = u
    · rw [hM, if_pos h1]
      rw [h1.1, h1.2] at hp
      rw [Bool.or_eq_true, Bool.and_eq_true]
      rcases hp with hp | ⟨hp, hq⟩
      · exact .inl (h.old v u hv hu hp)
      · exact .inr ⟨h.old v k hv hk hp, h.old k u hk hu hq⟩
    · exact up x y (h.new x y hx hy (by omega) hp)

theorem Warsh.row {g : Gram} {M : Nat → Nat → Bool} {k v : Nat} (h : Warsh g M k v g.vars.length) : Warsh g M k (v + 1) 0 :=
  ⟨h.sound, h.old, fun x y hx hy hb hp => h.new x y hx hy (by omega) hp⟩
theorem Warsh.round {g : Gram} {M : Nat → Nat → Bool} {k : Nat} (h : Warsh g M k g.vars.length 0) : Warsh g M (k + 1) 0 0 :=
  ⟨h.sound, fun x y hx hy hp => h.new x y hx hy (.inl hx) hp, fun x y hx hy hb => by omega⟩
theorem Warsh.start {g : Gram} {M : Nat → Nat → Bool} (h : ∀ x y : Nat, x < g.vars.length → y < g.vars.length → (M x y = true ↔ Beg g x y)) (h0 : ∀ x y, M x y = true → x < g.vars.length ∧ y < g.vars.length) : Warsh g M 0 0 0 :=
  ⟨fun x y e => .one ((h x y (h0 x y e).1 (h0 x y e).2).1 e), fun x y hx hy hp => (h x y hx hy).2 hp, fun x y hx hy hb => by omega⟩
theorem Warsh.done {g : Gram} (hg : InG g) {M : Nat → Nat → Bool} (h : Warsh g M g.vars.length 0 0) (v u : Nat) : M v u = true ↔ Rch g v u := by
  refine ⟨h.sound v u, fun hr => ?_⟩
  have h1 := hr.left_lt hg
  have h2 : (u : Int) < g.vars.length := by
    cases hr with
    | one h => exact h.lt hg
    | more _ h => exact h.lt hg
  exact h.old v u (by omega) (by omega) (rch_pth hg hr u rfl)

end Go.AM

/- Leftmost derivations, plainly. -/
namespace Go.AM

def neg (s : Int) : Bool := decide (s < 0)

theorem takeWhile_neg {l : List Int} {s : Int} (h : s ∈ l.takeWhile neg) : s < 0 := by
  induction l with
  | nil => simp at h
  | cons a l ih =>
    rw [List.takeWhile_cons] at h
    split at h
    · rename_i ha
      rcases List.mem_cons.1 h with rfl | h
      · simpa [neg] using ha
      · exact ih h
    · simp at h

/-- A form behind a step, and the error's number. -/
def stepS (g : Gram) (form : List Int) (r : Int) : List Int × Nat :=
  if r < 0 ∨ (g.rules.length : Int) ≤ r then ([], 12) else
  match form.dropWhile neg with
  | [] => ([], 13)
  | u :: rest => match g.rules[r.toNat]? with
    | some rule => if rule.left = u then (form.takeWhile neg ++ rule.right ++ rest, 0) else ([], 14)
    | none => ([], 12)

/-- A form behind steps, which one can't be done, and the error's number. -/
def replayS (g : Gram) : List Int → List Int → Nat → List Int × Nat × Nat
  | form, [], _ => (form, 0, 0)
  | form, r :: rest, k => if (stepS g form r).2 = 0 then replayS g (stepS g form r).1 rest (k + 1) else ([], k, (stepS g form r).2)
def replayL (g : Gram) (form rules : List Int) : List Int × Nat × Nat := if 4096 < rules.length then ([], 0, 7) else replayS g form rules 0

theorem stepS_ok {g : Gram} {form form' : List Int} {r : Int} (h : stepS g form r = (form', 0)) : ∃ (i : Nat) (hi : i < g.rules.length) (t rest : List Int), r = i ∧ form = t ++ g.rules[i].left :: rest ∧ form' = t ++ g.rules[i].right ++ rest ∧ (∀ s ∈ t, s < 0) := by
  unfold stepS at h
  split at h
  · simp at h
  · rename_i hr
    split at h
    · simp at h
    · rename_i u rest hd
      split at h
      · rename_i rule hrule
        split at h
        · rename_i hl
          simp at h
          obtain ⟨hi, e⟩ := List.getElem?_eq_some_iff.1 hrule
          refine ⟨r.toNat, hi, form.takeWhile neg, rest, by omega, ?_, ?_, fun s hs => ?_⟩
          · rw [e, hl, ← hd, List.takeWhile_append_dropWhile]
          · rw [← h, e, List.append_assoc]
          · exact takeWhile_neg hs
        · simp at h
      · simp at h

/-- Of all variables that may stand first. -/
def FirstOK (g : Gram) (P : Int → Prop) (form : List Int) : Prop := ∀ (i : Nat) (s : Int), form[i]? = some s → 0 ≤ s → (∀ (q : Nat) (t : Int), q < i → form[q]? = some t → Nul g t) → P s

theorem FirstOK.step {g : Gram} (hg : InG g) {P Q : Int → Prop} {form form' : List Int} {r : Int} (h : FirstOK g P form) (hs : stepS g form r = (form', 0)) (h1 : ∀ u s, P u → Beg g u s → Q s) (h2 : (∀ s, P s → Q s) ∨ form.length ≤ 1) : FirstOK g Q form' := by
  obtain ⟨i, hi, t, rest, rfl, rfl, rfl, ht⟩ := stepS_ok hs
  intro q s hq h0 hnul
  have hnn : ∀ x, Nul g x → 0 ≤ x := fun x hx => by
    cases hx with
    | mk j hj a b => exact hg.left0 _ (List.getElem_mem hj)
  cases t with
  | cons x t =>
    exfalso
    have hx := ht x (by simp)
    by_cases hq0 : q = 0
    · subst hq0
      simp at hq
      omega
    · have := hnn x (hnul 0 x (by omega) (by simp))
      omega
  | nil =>
    simp only [List.nil_append] at h hq hnul h2
    have hu : P g.rules[i].left := h 0 _ (by simp) (hg.left0 _ (List.getElem_mem hi)) (fun q t hq => by omega)
    by_cases hqr : q < g.rules[i].right.length
    · refine h1 _ s hu ⟨i, q, hi, rfl, ?_, h0, fun p hp x hx => hnul p x hp ?_⟩
      · rw [List.getElem?_append_left hqr] at hq; exact hq
      · rw [List.getElem?_append_left (by omega)]; exact hx
    · have hq' := hq
      rw [List.getElem?_append_right (by omega)] at hq'
      have hnl : Nul g g.rules[i].left := by
        have hall : ∀ x ∈ g.rules[i].right, Nul g x := fun x hx => by
          obtain ⟨p, hp, rfl⟩ := List.getElem_of_mem hx
          exact hnul p _ (by omega) (by rw [List.getElem?_append_left hp, List.getElem?_eq_getElem hp])
        exact .mk i hi (fun x hx => hnn x (hall x hx)) hall
      have hps : P s := by
        refine h (q - g.rules[i].right.length + 1) s (by simpa using hq') h0 (fun p x hp hx => ?_)
        cases p with
        | zero => simp at hx; rw [← hx]; exact hnl
        | succ p =>
          simp at hx
          refine hnul (g.rules[i].right.length + p) x (by omega) ?_
          rw [List.getElem?_append_right (by omega), show g.rules[i].right.length + p - g.rules[i].right.length = p by omega]
          exact hx
      rcases h2 with h2 | h2
      · exact h2 s hps
      · exfalso
        simp at h2
        subst h2
        simp at hq'

/-- A variable with a derivation to a form that begins with it may begin with itself. -/
theorem replay_rch {g : Gram} (hg : InG g) {v : Int} : ∀ (rules form : List Int) (k : Nat) (out : List Int) (w : Nat), FirstOK g (Rch g v) form → replayS g form rules k = (out, w, 0) → FirstOK g (Rch g v) out := by
  intro rules
  induction rules with
  | nil => intro form k out w h e; simp [replayS] at e; rw [← e.1]; exact h
  | cons r rest ih =>
    intro form k out w h e
    simp only [replayS] at e
    split at e
    · rename_i h0
      exact ih _ _ _ _ (h.step hg (form' := (stepS g form r).1) (by rw [← h0]) (fun u s hu hb => hu.more hb) (.inl fun s h => h)) e
    · rename_i h0
      simp at e
      exact absurd e.2.2 h0

theorem derives_rch {g : Gram} (hg : InG g) {v : Int} {rules out : List Int} {w : Nat} (h0 : 0 ≤ v) (hr : rules ≠ []) (h : replayS g [v] rules 0 = (out, w, 0)) (hv : out[0]? = some v) : Rch g v v := by
  cases rules with
  | nil => exact absurd rfl hr
  | cons r rest =>
    simp only [replayS] at h
    split at h
    · rename_i e0
      have base : FirstOK g (fun s => s = v) [v] := by
        intro i s hs _ _
        cases i with
        | zero => simp at hs; exact hs.symm
        | succ i => simp at hs
      have h1 : FirstOK g (Rch g v) (stepS g [v] r).1 := base.step hg (form' := (stepS g [v] r).1) (by rw [← e0]) (fun u s hu hb => by rw [hu] at hb; exact .one hb) (.inr (by simp))
      exact replay_rch hg rest _ _ _ _ h1 h 0 v hv h0 (fun q t hq => by omega)
    · rename_i e0
      simp at h
      exact absurd h.2.2 e0

/-! ### Forms as they lie in a run: what is done, what is left -/

def layS (done pend : List Int) : List Int × List Int := (done ++ pend.takeWhile neg, pend.dropWhile neg)

theorem layS_form (done pend : List Int) : (layS done pend).1 ++ (layS done pend).2 = done ++ pend := by
  unfold layS
  rw [List.append_assoc, List.takeWhile_append_dropWhile]

/-- What is done is terminals; what is left begins with a variable. -/
structure Laid (done pend : List Int) : Prop where
  done : ∀ s ∈ done, s < 0
  pend : ∀ s, pend[0]? = some s → 0 ≤ s

theorem layS_laid {done pend : List Int} (h : ∀ s ∈ done, s < 0) : Laid (layS done pend).1 (layS done pend).2 := by
  refine ⟨fun s hs => ?_, fun s hs => ?_⟩
  · unfold layS at hs
    rcases List.mem_append.1 hs with hs | hs
    · exact h s hs
    · exact takeWhile_neg hs
  · unfold layS at hs
    simp only at hs
    have := List.head?_dropWhile_not neg pend
    rw [List.head?_eq_getElem?, hs] at this
    simpa [neg] using this

theorem Laid.takeWhile {done pend : List Int} (h : Laid done pend) : (done ++ pend).takeWhile neg = done ∧ (done ++ pend).dropWhile neg = pend := by
  obtain ⟨h1, h2⟩ := h
  induction done with
  | nil =>
    cases pend with
    | nil => exact ⟨rfl, rfl⟩
    | cons s pend =>
      have := h2 s (by simp)
      have e : neg s = false := by simp [neg]; exact this
      simp [List.takeWhile_cons, List.dropWhile_cons, e]
  | cons d done ih =>
    have hd := h1 d (by simp)
    have e : neg d = true := by simp [neg]; exact hd
    obtain ⟨a, b⟩ := ih (fun s hs => h1 s (by simp [hs]))
    simp only [List.cons_append, List.takeWhile_cons, List.dropWhile_cons, e, if_true]
    exact ⟨by rw [a], b⟩

end Go.AM
