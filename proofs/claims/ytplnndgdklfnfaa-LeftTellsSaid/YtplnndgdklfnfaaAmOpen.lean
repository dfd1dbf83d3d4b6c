/- From a reading of the arguments as data to objects of the abstract machine. -/
import Derived.Test.YtplnndgdklfnfaaAmMain
import Derived.ProofKit
import Derived.Deep.Slices
set_option linter.all false
namespace Go.AM
open Go.RowKit

/-- CELLS READ AS A TYPE in a heap of the machine: integers, bools, floats, strings, slices and structs of these. -/
inductive AR (P : Program) (H : Heap) : TypeId → List Value → Prop where
  | bool (t : TypeId) (b : Bool) (ht : P.underlying t = some .bool) : AR P H t [.bool b]
  | int (t : TypeId) (k : IntKind) (n : Int) (ht : P.underlying t = some (.int k)) (hw : (Lit.int k n).wf = true) : AR P H t [.int k n]
  | float (t : TypeId) (k : FloatKind) (b : Nat) (ht : P.underlying t = some (.float k)) (hw : (Lit.float k b).wf = true) : AR P H t [.float k b]
  | string (t : TypeId) (s : ByteArray) (ht : P.underlying t = some .string) (hs : s.size ≤ maxLen) : AR P H t [.string s]
  | nil (t e : TypeId) (ht : P.underlying t = some (.slice e)) : AR P H t [.slice none 0 0]
  | slice (t e : TypeId) (x m : Nat) (cs : List Value) (ht : P.underlying t = some (.slice e)) (hx : H x = .cells cs e false) (hl : cs.length = m * P.cellsOf e) (hm : m ≤ maxLen)
      (he : ∀ i, i < m → AR P H e ((cs.drop (i * P.cellsOf e)).take (P.cellsOf e))) : AR P H t [.slice (some ⟨x, 0, none⟩) m m]
  | struct (t : TypeId) (fs : Array Field) (cs : List Value) (ht : P.underlying t = some (.struct fs)) (hl : cs.length = P.cellsOf t)
      (hf : ∀ (i : Nat) (f : Field), fs[i]? = some f → AR P H f.type ((cs.drop f.offset).take (P.cellsOf f.type))) : AR P H t cs

theorem AR.mono {P : Program} {H H' : Heap} {t : TypeId} {cs : List Value} (h : AR P H t cs) (hle : ∀ x, H x ≠ .dead → H' x = H x) : AR P H' t cs := by
  induction h with
  | bool t b ht => exact .bool t b ht
  | int t k n ht hw => exact .int t k n ht hw
  | float t k b ht hw => exact .float t k b ht hw
  | string t s ht hs => exact .string t s ht hs
  | nil t e ht => exact .nil t e ht
  | slice t e x m cs ht hx hl hm _ ih => exact .slice t e x m cs ht (by rw [hle x (by rw [hx]; intro e; cases e), hx]) hl hm ih
  | struct t fs cs ht hl _ ih => exact .struct t fs cs ht hl ih

/-- Fields one behind the other, from a place on: where they end. -/
def lined (P : Program) : Nat → List Field → Nat → Bool
  | at_, [], stop => at_ == stop
  | at_, f :: fs, stop => f.offset == at_ && lined P (at_ + P.cellsOf f.type) fs stop

/-- Types that the machine reads. -/
def plainT (P : Program) : Nat → TypeId → Bool
  | 0, _ => false
  | d + 1, t => match P.underlying t with
    | some .bool | some (.int _) | some (.float _) | some .string => P.cellsOf t == 1
    | some (.slice e) => P.cellsOf t == 1 && decide (P.cellsOf e ≠ 0) && plainT P d e
    | some (.struct fs) => lined P 0 fs.toList (P.cellsOf t) && fs.toList.all fun f => plainT P d f.type
    | _ => false

/-- What is there of the arguments so far. -/
structure Sofar (P : Program) (w : World) (ι : Inj) (C : Heap) (n : Nat) : Prop where
  hr : HR P w.heap.size ι C w
  free : ∀ x, n ≤ x → ι x = none
  wf : WF n C
  ro : ∀ x t, ι x = some t → t.own = false

/-- .. and more of it. -/
structure More (ι : Inj) (C : Heap) (n : Nat) (κ : Inj) (C' : Heap) (n' : Nat) : Prop where
  le : Inj.le ι κ
  heap : ∀ x, C x ≠ .dead → C' x = C x
  n : n ≤ n'

theorem More.refl (ι : Inj) (C : Heap) (n : Nat) : More ι C n ι C n := ⟨Inj.le_refl ι, fun _ _ => rfl, Nat.le_refl _⟩
theorem More.trans {ι κ μ : Inj} {C C1 C2 : Heap} {n n1 n2 : Nat} (a : More ι C n κ C1 n1) (b : More κ C1 n1 μ C2 n2) : More ι C n μ C2 n2 :=
  ⟨Inj.le_trans a.le b.le, fun x h => by rw [b.heap x (by rw [a.heap x h]; exact h), a.heap x h], Nat.le_trans a.n b.n⟩

section
variable {P : Program} {w : World}

theorem Sofar.addRO {ι : Inj} {C : Heap} {n : Nat} (h : Sofar P w ι C n) {cs : List Value} {e : TypeId} {b o : Nat} (hb : b < w.heap.size)
    (hc : ∀ (i : Nat) (v : Value), cs[i]? = some v → ∃ v', w.cell? ⟨b, o + i, none⟩ = some v' ∧ VR ι v v' ∧ one v = true) :
    Sofar P w (iset ι n ⟨b, o, false, 0, 0⟩) (hset C n (.cells cs e false)) (n + 1) ∧ More ι C n (iset ι n ⟨b, o, false, 0, 0⟩) (hset C n (.cells cs e false)) (n + 1) := by
  have hn := h.free n (Nat.le_refl _)
  have hle := iset_le (ι := ι) ⟨b, o, false, 0, 0⟩ hn
  refine ⟨⟨⟨fun x => ?_, fun x y t u hx hy ex ey ho hbl => ?_, fun x t e => ?_, Nat.le_refl _⟩, fun x hx => ?_, fun x hx => ?_, fun x t e => ?_⟩, ⟨hle, fun x hx => ?_, Nat.le_succ n⟩⟩
  · rw [hset_apply]; split
    · rename_i e; subst e
      refine ⟨_, iset_same _ _ _, rfl, fun i v e => ?_, fun e => by cases e⟩
      obtain ⟨v', h1, h2, h3⟩ := hc i v e
      exact ⟨v', h1, h2.mono hle, h3⟩
    · exact (h.hr.obj x).carry hle fun _ _ => rfl
  · exfalso
    by_cases e : x = n
    · subst e; rw [iset_same] at ex; cases ex; cases ho
    · rw [iset_other _ _ e] at ex
      rw [h.ro x t ex] at ho; cases ho
  · by_cases e1 : x = n
    · subst e1; rw [iset_same] at e; cases e; exact ⟨hb, (fun k => by cases k), fun _ => hb⟩
    · rw [iset_other _ _ e1] at e; exact h.hr.rng x t e
  · rw [iset_other _ _ (by omega)]; exact h.free x (by omega)
  · rw [hset_other _ _ (by omega)]; exact h.wf x (by omega)
  · by_cases e1 : x = n
    · subst e1; rw [iset_same] at e; cases e; rfl
    · rw [iset_other _ _ e1] at e; exact h.ro x t e
  · by_cases e : x = n
    · subst e; exact absurd (h.wf x (Nat.le_refl _)) hx
    · exact hset_other _ _ e

theorem cells?_spec {base : Nat} {a : Addr} {m : Nat} {cs : List Value} (h : w.cells? base a m = some cs) : cs.length = m ∧ ∀ i, i < m → w.cell? (a.add i) = cs[i]? := by
  obtain ⟨_, h1, h2⟩ := World.cells?_some h
  exact ⟨h1, h2⟩

theorem VRs.one_of {κ : Inj} {l l' : List Value} (h : VRs κ l l') (h1 : ∀ v ∈ l', v.oneCell' = true) : l.all one = true := by
  rw [List.all_eq_true]
  intro v hv
  obtain ⟨i, hi, rfl⟩ := List.getElem_of_mem hv
  obtain ⟨v', e1, e2⟩ := h.get (List.getElem?_eq_getElem hi)
  rw [← e2.one]; exact h1 v' (List.mem_of_getElem? e1)

variable {H : Type} {enc : TypeId × Value → H}

/-- What opening some cells leaves. -/
def Opened (P : Program) (w : World) (ι : Inj) (C : Heap) (n : Nat) (t : TypeId) (cs : List Value) : Prop :=
  ∃ acs κ C' n', Sofar P w κ C' n' ∧ More ι C n κ C' n' ∧ VRs κ acs cs ∧ AR P C' t acs ∧ acs.length = P.cellsOf t ∧ acs.all one = true

theorem opened_flat {ι : Inj} {C : Heap} {n : Nat} {t : TypeId} {v : Value} (h : Sofar P w ι C n) (hf : still1 v = true) (hr : VR ι v v) (ha : AR P C t [v]) (hc : (P.cellsOf t == 1) = true) : Opened P w ι C n t [v] := by
  refine ⟨[v], ι, C, n, h, More.refl _ _ _, .cons hr (.nil ι), ha, ?_, by simp [still1_one hf]⟩
  have : P.cellsOf t = 1 := by simpa using hc
  simp [this]

theorem open_elems {e : TypeId} {a : Addr} {f : TypeId → List Value → Prop} {len : Nat} (hop : ∀ cs, f e cs → ∀ ι C n, Sofar P w ι C n → Opened P w ι C n e cs)
    (he : ∀ i, i < len → ∃ cs, w.cells? 0 (a.add (i * P.cellsOf e)) (P.cellsOf e) = some cs ∧ f e cs) : ∀ m, m ≤ len → ∀ ι C n, Sofar P w ι C n →
    ∃ (acs : List Value) (κ : Inj) (C' : Heap) (n' : Nat), Sofar P w κ C' n' ∧ More ι C n κ C' n' ∧ acs.length = m * P.cellsOf e ∧ (∀ i, i < m → AR P C' e ((acs.drop (i * P.cellsOf e)).take (P.cellsOf e))) ∧
      ∀ (i : Nat) (v : Value), acs[i]? = some v → ∃ v', w.cell? (a.add i) = some v' ∧ VR κ v v' ∧ one v = true := by
  intro m
  induction m with
  | zero => intro _ ι C n h; exact ⟨[], ι, C, n, h, More.refl _ _ _, by simp, fun i hi => by omega, fun i v e => by simp at e⟩
  | succ m ih =>
    intro hm ι C n h
    obtain ⟨acs, κ, C', n', h1, h2, h3, h4, h5⟩ := ih (by omega) ι C n h
    obtain ⟨cs, hcs, hf⟩ := he m (by omega)
    obtain ⟨bcs, μ, C'', n'', g1, g2, g3, g4, g5, g6⟩ := hop cs hf κ C' n' h1
    obtain ⟨hlen, hcell⟩ := cells?_spec hcs
    refine ⟨acs ++ bcs, μ, C'', n'', g1, h2.trans g2, by rw [List.length_append, h3, g5, Nat.succ_mul], fun i hi => ?_, fun i v hq => ?_⟩
    · by_cases him : i < m
      · have hle : i * P.cellsOf e + P.cellsOf e ≤ m * P.cellsOf e := by rw [← Nat.succ_mul]; exact Nat.mul_le_mul_right _ him
        rw [List.drop_append_of_le_length (by omega), List.take_append_of_le_length (by simp; omega)]
        exact (h4 i him).mono g2.heap
      · have : i = m := by omega
        subst this
        rw [← h3, List.drop_left, List.take_of_length_le (by omega)]
        exact g4
    · by_cases hia : i < acs.length
      · rw [List.getElem?_append_left hia] at hq
        obtain ⟨v', e1, e2, e3⟩ := h5 i v hq
        exact ⟨v', e1, e2.mono g2.le, e3⟩
      · rw [List.getElem?_append_right (by omega)] at hq
        obtain ⟨v', e1, e2⟩ := g3.get hq
        refine ⟨v', ?_, e2, List.all_eq_true.1 g6 v (List.mem_of_getElem? hq)⟩
        have hi' : i - acs.length < bcs.length := by
          rcases Nat.lt_or_ge (i - acs.length) bcs.length with g | g
          · exact g
          · rw [List.getElem?_eq_none g] at hq; cases hq
        have := hcell (i - acs.length) (by omega)
        rw [Go.Deep.add_add, ← h3, show acs.length + (i - acs.length) = i by omega] at this
        rw [this]; exact e1

theorem open_fields {f : TypeId → List Value → Prop} {cs : List Value} : ∀ (fs : List Field) (at_ stop : Nat), lined P at_ fs stop = true → stop ≤ cs.length →
    (∀ g ∈ fs, ∀ cs', f g.type cs' → ∀ ι C n, Sofar P w ι C n → Opened P w ι C n g.type cs') → (∀ g ∈ fs, f g.type ((cs.drop g.offset).take (P.cellsOf g.type))) → ∀ ι C n, Sofar P w ι C n →
    ∃ acs κ C' n', Sofar P w κ C' n' ∧ More ι C n κ C' n' ∧ VRs κ acs ((cs.drop at_).take (stop - at_)) ∧ acs.all one = true ∧ acs.length = stop - at_ ∧ at_ ≤ stop ∧
      ∀ g ∈ fs, at_ ≤ g.offset ∧ AR P C' g.type ((acs.drop (g.offset - at_)).take (P.cellsOf g.type)) := by
  intro fs
  induction fs with
  | nil =>
    intro at_ stop hl _ _ _ ι C n h
    have : at_ = stop := by simpa [lined] using hl
    subst this
    exact ⟨[], ι, C, n, h, More.refl _ _ _, by simpa using VRs.nil ι, rfl, by simp, Nat.le_refl _, fun g hg => by cases hg⟩
  | cons g fs ih =>
    intro at_ stop hl hst hop hf ι C n h
    simp only [lined, Bool.and_eq_true, beq_iff_eq] at hl
    obtain ⟨hoff, hl⟩ := hl
    obtain ⟨bcs, κ, C', n', g1, g2, g3, g4, g5, g6⟩ := hop g (by simp) _ (hf g (by simp)) ι C n h
    obtain ⟨acs, μ, C'', n'', h1, h2, h3, h4, h5, h6, h7⟩ := ih _ stop hl hst (fun g' hg' => hop g' (by simp [hg'])) (fun g' hg' => hf g' (by simp [hg'])) κ C' n' g1
    rw [hoff] at g3
    refine ⟨bcs ++ acs, μ, C'', n'', h1, g2.trans h2, ?_, by simp [g6, h4], by rw [List.length_append, g5, h5]; omega, by omega, fun g' hg' => ?_⟩
    · have e1 : (cs.drop at_).take (stop - at_) = (cs.drop at_).take (P.cellsOf g.type) ++ (cs.drop (at_ + P.cellsOf g.type)).take (stop - (at_ + P.cellsOf g.type)) := by
        have : stop - at_ = P.cellsOf g.type + (stop - (at_ + P.cellsOf g.type)) := by omega
        rw [this, List.take_add, List.drop_drop]
      rw [e1]
      exact (g3.mono h2.le).append h3
    · rcases List.mem_cons.1 hg' with e | e
      · subst e
        refine ⟨by omega, ?_⟩
        rw [hoff, Nat.sub_self, List.drop_zero, List.take_append_of_le_length (by omega), List.take_of_length_le (by omega)]
        exact g4.mono h2.heap
      · obtain ⟨k1, k2⟩ := h7 g' e
        refine ⟨by omega, ?_⟩
        rw [List.drop_append, List.drop_of_length_le (by omega), List.nil_append, g5, show g'.offset - at_ - P.cellsOf g.type = g'.offset - (at_ + P.cellsOf g.type) by omega]
        exact k2

theorem open_cells : ∀ (fuel d : Nat) (t : TypeId) (cs : List Value) (x : DataW H × List MemPlace), plainT P d t = true → DataW.trod enc P w 0 (fun _ => true) true fuel t cs = some x →
    ∀ ι C n, Sofar P w ι C n → Opened P w ι C n t cs := by
  intro fuel
  induction fuel with
  | zero => intro d t cs x _ h; simp [DataW.trod] at h
  | succ fuel ih =>
    intro d t cs x hp h ι C n hs
    cases d with
    | zero => simp [plainT] at hp
    | succ d =>
      simp only [plainT] at hp
      split at hp
      · rename_i ht
        obtain ⟨b, rfl, _⟩ := DataW.trod_bool ht h
        exact opened_flat hs rfl (.bool b) (.bool t b ht) hp
      · rename_i k ht
        obtain ⟨m, rfl, _, hw⟩ := DataW.trod_int ht h
        exact opened_flat hs rfl (.int k m) (.int t k m ht hw) hp
      · rename_i k ht
        have : ∃ b, cs = [.float k b] ∧ (Lit.float k b).wf = true := by
          unfold DataW.trod at h
          rw [ht] at h
          split at h <;> simp_all
        obtain ⟨b, rfl, hw⟩ := this
        exact opened_flat hs rfl (.float k b) (.float t k b ht hw) hp
      · rename_i ht
        obtain ⟨s, rfl, _, hw⟩ := DataW.trod_string ht h
        exact opened_flat hs rfl (.string s) (.string t s ht hw) hp
      · rename_i e ht
        simp only [Bool.and_eq_true, decide_eq_true_eq] at hp
        obtain ⟨⟨hc, he0⟩, hpe⟩ := hp
        have hc' : P.cellsOf t = 1 := by simpa using hc
        rcases DataW.trod_slice ht h with ⟨rfl, _⟩ | ⟨a, len, cap, elems, rest, m, hm, rfl, _, _, hlc, hmx, hel, h1, h2, _⟩
        · exact opened_flat hs rfl (.sliceNil none) (.nil t e ht) hc
        · have hmf : m = fuel := by omega
          subst hmf
          by_cases hcap : cap = 0
          · have hl0 : len = 0 := by omega
            subst hcap hl0
            refine ⟨[.slice none 0 0], ι, C, n, hs, More.refl _ _ _, .cons (.sliceNil (some a)) (.nil ι), .nil t e ht, by simp [hc'], rfl⟩
          · obtain ⟨hr1, hr2⟩ := h2 rfl
            have hsome : ∀ i, i < len → ∃ cs, w.cells? 0 (a.add (i * P.cellsOf e)) (P.cellsOf e) = some cs ∧ (∃ x, DataW.trod enc P w 0 (fun _ => true) true m e cs = some x) := by
              intro i hi
              have := h1 i hi
              rw [List.getElem?_eq_getElem (by omega)] at this
              obtain ⟨cs', e1, e2⟩ := Option.bind_eq_some_iff.1 this
              exact ⟨cs', e1, _, e2⟩
            have hfirst : ∃ cs, w.cells? 0 (a.add 0) (P.cellsOf e) = some cs := by
              by_cases hl : 0 < len
              · obtain ⟨cs', e1, _⟩ := hsome 0 hl
                exact ⟨cs', by simpa using e1⟩
              · have hl0 : len = 0 := by omega
                have := hr2 0 (by omega)
                rw [List.getElem?_eq_getElem (by omega)] at this
                obtain ⟨cs', e1, _⟩ := Option.bind_eq_some_iff.1 this
                exact ⟨cs', by simpa [hl0] using e1⟩
            obtain ⟨cs0, hcs0⟩ := hfirst
            obtain ⟨hl0, hcell0⟩ := cells?_spec hcs0
            have hc0 := hcell0 0 (by omega)
            rw [List.getElem?_eq_getElem (by omega)] at hc0
            have ha : a.add 0 = a := by simp [Addr.add]
            rw [ha, ha] at hc0
            have hblk : a.block < w.heap.size := World.block_lt_of_cell? w a hc0
            have hspot : a.spot = none := by
              unfold World.cell? at hc0
              cases hsp : a.spot with
              | none => rfl
              | some s => simp [hsp] at hc0; split at hc0 <;> simp at hc0
            obtain ⟨b, o, sp⟩ := a
            simp only at hspot hblk
            subst hspot
            obtain ⟨acs, κ, C', n', g1, g2, g3, g4, g5⟩ := open_elems (f := fun e cs => ∃ x, DataW.trod enc P w 0 (fun _ => true) true m e cs = some x)
              (fun cs' hx ι C n h => by obtain ⟨x, hx⟩ := hx; exact ih d e cs' x hpe hx ι C n h) hsome len (Nat.le_refl _) ι C n hs
            obtain ⟨k1, k2⟩ := g1.addRO (e := e) hblk (fun i v e => by
              obtain ⟨v', e1, e2⟩ := g5 i v e
              rw [add_lit] at e1
              exact ⟨v', e1, e2⟩)
            refine ⟨[.slice (some ⟨n', 0, none⟩) len len], _, _, n' + 1, k1, g2.trans k2, .cons ?_ (.nil _), ?_, by simp [hc'], rfl⟩
            · exact .slice n' 0 len o cap _ (iset_same _ _ _) (fun _ => rfl) hlc hmx (fun e => by cases e)
            · refine .slice t e n' len acs ht (hset_same _ _ _) g3 (by omega) fun i hi => (g4 i hi).mono k2.heap
      · rename_i fs ht
        simp only [Bool.and_eq_true, List.all_eq_true] at hp
        obtain ⟨xs, m, hm, _, hlen, hxs, hf⟩ := DataW.trod_struct ht h
        have hmf : m = fuel := by omega
        subst hmf
        obtain ⟨acs, κ, C', n', g1, g2, g3, g4, g5, _, g7⟩ := open_fields (w := w) (f := fun t cs => ∃ x, DataW.trod enc P w 0 (fun _ => true) true m t cs = some x) (cs := cs) fs.toList 0 (P.cellsOf t) hp.1 (by omega)
          (fun g hg cs' hx ι C n h => by obtain ⟨x, hx⟩ := hx; exact ih d g.type cs' x (hp.2 g hg) hx ι C n h)
          (fun g hg => by
            obtain ⟨i, hi, rfl⟩ := List.getElem_of_mem hg
            have hi' : i < fs.size := by simpa using hi
            have := hf i fs[i] (Array.getElem?_eq_getElem hi')
            rw [List.getElem?_eq_getElem (by omega)] at this
            exact ⟨_, by simpa using this⟩) ι C n hs
        refine ⟨acs, κ, C', n', g1, g2, ?_, ?_, by omega, g4⟩
        · simpa [List.take_of_length_le (Nat.le_of_eq hlen)] using g3
        · refine .struct t fs acs ht (by omega) fun i f hi => ?_
          have hmem : f ∈ fs.toList := by have := Array.mem_of_getElem? hi; simpa using this
          have := (g7 f hmem).2
          simpa using this
      · cases hp

end
end Go.AM
