/- A part of a proof. Its conditions: none. -/
import Derived.Test.YtemkglelfeidhaaAmE
import Derived.ProofKit
import Derived.Deep.Slices
import Derived.Carry
import Derived.Test.YtemkglelfeidhaaAmD
import Derived.Lib.LaidTab
import Derived.ChangeSame
import Derived.LaidOnce
import Derived.Lay
import Derived.Deep.DeepHandedRow
import Derived.Test.YtemkglelfeidhaaAmB
import Derived.Test.YtemkglelfeidhaaAmA
set_option linter.all false
namespace Go.AM
open Go.RowKit
inductive AR (P : Program) (H : Heap) : TypeId → List Value → Prop where
  | bool (t : TypeId) (b : Bool) (ht : P.underlying t = some .bool) : AR P H t [.bool b]
  | int (t : TypeId) (k : IntKind) (n : Int) (ht : P.underlying t = some (.int k)) (hw : (Lit.int k n).wf = true) : AR P H t [.int k n]
  | float (t : TypeId) (k : FloatKind) (b : Nat) (ht : P.underlying t = some (.float k)) (hw : (Lit.float k b).wf = true) : AR P H t [.float k b]
  | string (t : TypeId) (s : ByteArray) (ht : P.underlying t = some .string) (hs : s.size ≤ maxLen) : AR P H t [.string s]
  | nil (t e : TypeId) (ht : P.underlying t = some (.slice e)) : AR P H t [.slice none 0 0]
  | slice (t e : TypeId) (x m : Nat) (cs : List Value) (ht : P.underlying t = some (.slice e)) (hx : H x = .cells cs e false) (hl : cs.length = m * P.cellsOf e) (hm : m ≤ maxLen)
      (he : ∀ i, i < m → AR P H e ((cs.drop (i * P.cellsOf e)).take (P.cellsOf e))) : AR P H t [.slice (some ⟨x, 0, none⟩) m m]
  | struct (t : TypeId) (fs : Array Field) (cs : List Value) (ht : P.underlying t = some (.struct fs)) (hl : cs.length = P.cellsOf t)
      (hf : ∀ (i : Nat) (f : Field), fs[i]? = some f → AR P H f.type ((cs.drop f.offset).take (P.cellsOf f.type))) : AR P H t cs
theorem AR.mono {P : Program} {H H' : Heap} {t : TypeId} {cs : List Value} (h : AR P H t cs) (hle : ∀ x, H x ≠ .dead → H' x = H x) : AR P H' t cs := by
 induction h with
 | bool t b ht => exact .bool t b ht
 | int t k n ht hw => exact .int t k n ht hw
 | float t k b ht hw => exact .float t k b ht hw
 | string t s ht hs => exact .string t s ht hs
 | nil t e ht => exact .nil t e ht
 | slice t e x m cs ht hx hl hm _ ih => exact .slice t e x m cs ht (by rw [hle x (by rw [hx]; intro e; cases e), hx]) hl hm ih
 | struct t fs cs ht hl _ ih => exact .struct t fs cs ht hl ih
def lined (P : Program) : Nat → List Field → Nat → Bool
 | at_, [], stop => at_ == stop
 | at_, f :: fs, stop => f.offset == at_ && lined P (at_ + P.cellsOf f.type) fs stop
def plainT (P : Program) : Nat → TypeId → Bool
 | 0, _ => false
 | d + 1, t => match P.underlying t with
  | some .bool | some (.int _) | some (.float _) | some .string => P.cellsOf t == 1
  | some (.slice e) => P.cellsOf t == 1 && decide (P.cellsOf e ≠ 0) && plainT P d e
  | some (.struct fs) => lined P 0 fs.toList (P.cellsOf t) && fs.toList.all fun f => plainT P d f.type
  | _ => false
structure Sofar (P : Program) (w : World) (ι : Inj) (C : Heap) (n : Nat) : Prop where
 hr : HR P w.heap.size ι C w
 free : ∀ x, n ≤ x → ι x = none
 wf : WF n C
 ro : ∀ x t, ι x = some t → t.own = false
 pos : 0 < w.heap.size
structure More (ι : Inj) (C : Heap) (n : Nat) (κ : Inj) (C' : Heap) (n' : Nat) : Prop where
 le : Inj.le ι κ
 heap : ∀ x, C x ≠ .dead → C' x = C x
 n : n ≤ n'
theorem More.refl (ι : Inj) (C : Heap) (n : Nat) : More ι C n ι C n := ⟨Inj.le_refl ι, fun _ _ => rfl, Nat.le_refl _⟩
theorem More.trans {ι κ μ : Inj} {C C1 C2 : Heap} {n n1 n2 : Nat} (a : More ι C n κ C1 n1) (b : More κ C1 n1 μ C2 n2) : More ι C n μ C2 n2 :=
 ⟨Inj.le_trans a.le b.le, fun x h => by rw [b.heap x (by rw [a.heap x h]; exact h), a.heap x h], Nat.le_trans a.n b.n⟩
section
variable {P : Program} {w : World}
theorem Sofar.addRO {ι : Inj} {C : Heap} {n : Nat} (h : Sofar P w ι C n) {cs : List Value} {e : TypeId} {b o : Nat} (hb : b < w.heap.size)
  (hc : ∀ (i : Nat) (v : Value), cs[i]? = some v → ∃ v', w.cell? ⟨b, o + i, none⟩ = some v' ∧ VR ι v v' ∧ one v = true) :
  Sofar P w (iset ι n ⟨b, o, false, 0, 0⟩) (hset C n (.cells cs e false)) (n + 1) ∧ More ι C n (iset ι n ⟨b, o, false, 0, 0⟩) (hset C n (.cells cs e false)) (n + 1) := by
 have hn := h.free n (Nat.le_refl _)
 have hle := iset_le (ι := ι) ⟨b, o, false, 0, 0⟩ hn
 refine ⟨⟨⟨fun x => ?_, fun x y t u hx hy ex ey ho hbl => ?_, fun x t e => ?_, Nat.le_refl _, fun g hg => hle g _ (h.hr.gl g hg), fun x y t u cs' ty b ds ty' hx hy ex ey hbl => ?_⟩, fun x hx => ?_, fun x hx => ?_, fun x t e => ?_, h.pos⟩, ⟨hle, fun x hx => ?_, Nat.le_succ n⟩⟩
 ·rw [hset_apply]; split
  ·rename_i e; subst e
   refine ⟨_, iset_same _ _ _, rfl, fun i v e => ?_, fun e => by cases e⟩
   obtain ⟨v', h1, h2, h3⟩ := hc i v e
   exact ⟨v', h1, h2.mono hle, h3⟩
  ·exact (h.hr.obj x).carry hle fun _ _ => rfl
 ·exfalso
  by_cases e : x = n
  ·subst e; rw [iset_same] at ex; cases ex; cases ho
  ·rw [iset_other _ _ e] at ex
   rw [h.ro x t ex] at ho; cases ho
 ·by_cases e1 : x = n
  ·subst e1; rw [iset_same] at e; cases e; exact ⟨hb, (fun k => by cases k), fun _ => hb⟩
  ·rw [iset_other _ _ e1] at e; exact h.hr.rng x t e
 ·by_cases e1 : x = n
  ·subst e1; rw [hset_same] at hx; cases hx
  ·by_cases e2 : y = n
   ·subst e2; rw [hset_same] at hy; cases hy
   ·rw [hset_other _ _ e1] at hx
    rw [hset_other _ _ e2] at hy
    rw [iset_other _ _ e1] at ex
    rw [iset_other _ _ e2] at ey
    exact h.hr.last x y t u cs' ty b ds ty' hx hy ex ey hbl
 ·rw [iset_other _ _ (by omega)]; exact h.free x (by omega)
 ·rw [hset_other _ _ (by omega)]; exact h.wf x (by omega)
 ·by_cases e1 : x = n
  ·subst e1; rw [iset_same] at e; cases e; rfl
  ·rw [iset_other _ _ e1] at e; exact h.ro x t e
 ·by_cases e : x = n
  ·subst e; exact absurd (h.wf x (Nat.le_refl _)) hx
  ·exact hset_other _ _ e
theorem cells?_spec {base : Nat} {a : Addr} {m : Nat} {cs : List Value} (h : w.cells? base a m = some cs) : cs.length = m ∧ ∀ i, i < m → w.cell? (a.add i) = cs[i]? := by
 obtain ⟨_, h1, h2⟩ := World.cells?_some h
 exact ⟨h1, h2⟩
variable {H : Type} {enc : TypeId × Value → H}
def Opened (P : Program) (w : World) (ι : Inj) (C : Heap) (n : Nat) (t : TypeId) (cs : List Value) : Prop :=
 ∃ acs κ C' n', Sofar P w κ C' n' ∧ More ι C n κ C' n' ∧ VRs κ acs cs ∧ AR P C' t acs ∧ acs.length = P.cellsOf t ∧ acs.all one = true
theorem opened_flat {ι : Inj} {C : Heap} {n : Nat} {t : TypeId} {v : Value} (h : Sofar P w ι C n) (hf : still1 v = true) (hr : VR ι v v) (ha : AR P C t [v]) (hc : (P.cellsOf t == 1) = true) : Opened P w ι C n t [v] := by
 refine ⟨[v], ι, C, n, h, More.refl _ _ _, .cons hr (.nil ι), ha, ?_, by simp [still1_one hf]⟩
 have : P.cellsOf t = 1 := by simpa using hc
 simp [this]
theorem open_elems {e : TypeId} {a : Addr} {f : TypeId → List Value → Prop} {len : Nat} (hop : ∀ cs, f e cs → ∀ ι C n, Sofar P w ι C n → Opened P w ι C n e cs)
  (he : ∀ i, i < len → ∃ cs, w.cells? 0 (a.add (i * P.cellsOf e)) (P.cellsOf e) = some cs ∧ f e cs) : ∀ m, m ≤ len → ∀ ι C n, Sofar P w ι C n →
  ∃ (acs : List Value) (κ : Inj) (C' : Heap) (n' : Nat), Sofar P w κ C' n' ∧ More ι C n κ C' n' ∧ acs.length = m * P.cellsOf e ∧ (∀ i, i < m → AR P C' e ((acs.drop (i * P.cellsOf e)).take (P.cellsOf e))) ∧
   ∀ (i : Nat) (v : Value), acs[i]? = some v → ∃ v', w.cell? (a.add i) = some v' ∧ VR κ v v' ∧ one v = true := by
 intro m
 induction m with
 | zero => intro _ ι C n h; exact ⟨[], ι, C, n, h, More.refl _ _ _, by simp, fun i hi => by omega, fun i v e => by simp at e⟩
 | succ m ih =>
  intro hm ι C n h
  obtain ⟨acs, κ, C', n', h1, h2, h3, h4, h5⟩ := ih (by omega) ι C n h
  obtain ⟨cs, hcs, hf⟩ := he m (by omega)
  obtain ⟨bcs, μ, C'', n'', g1, g2, g3, g4, g5, g6⟩ := hop cs hf κ C' n' h1
  obtain ⟨hlen, hcell⟩ := cells?_spec hcs
  refine ⟨acs ++ bcs, μ, C'', n'', g1, h2.trans g2, by rw [List.length_append, h3, g5, Nat.succ_mul], fun i hi => ?_, fun i v hq => ?_⟩
  ·by_cases him : i < m
   ·have hle : i * P.cellsOf e + P.cellsOf e ≤ m * P.cellsOf e := by rw [← Nat.succ_mul]; exact Nat.mul_le_mul_right _ him
    rw [List.drop_append_of_le_length (by omega), List.take_append_of_le_length (by simp; omega)]
    exact (h4 i him).mono g2.heap
   ·have : i = m := by omega
    subst this
    rw [← h3, List.drop_left, List.take_of_length_le (by omega)]
    exact g4
  ·by_cases hia : i < acs.length
   ·rw [List.getElem?_append_left hia] at hq
    obtain ⟨v', e1, e2, e3⟩ := h5 i v hq
    exact ⟨v', e1, e2.mono g2.le, e3⟩
   ·rw [List.getElem?_append_right (by omega)] at hq
    obtain ⟨v', e1, e2⟩ := g3.get hq
    refine ⟨v', ?_, e2, List.all_eq_true.1 g6 v (List.mem_of_getElem? hq)⟩
    have hi' : i - acs.length < bcs.length := by
     rcases Nat.lt_or_ge (i - acs.length) bcs.length with g | g
     ·exact g
     ·rw [List.getElem?_eq_none g] at hq; cases hq
    have := hcell (i - acs.length) (by omega)
    rw [Go.Deep.add_add, ← h3, show acs.length + (i - acs.length) = i by omega] at this
    rw [this]; exact e1
theorem open_fields {f : TypeId → List Value → Prop} {cs : List Value} : ∀ (fs : List Field) (at_ stop : Nat), lined P at_ fs stop = true → stop ≤ cs.length →
    (∀ g ∈ fs, ∀ cs', f g.type cs' → ∀ ι C n, Sofar P w ι C n → Opened P w ι C n g.type cs') → (∀ g ∈ fs, f g.type ((cs.drop g.offset).take (P.cellsOf g.type))) → ∀ ι C n, Sofar P w ι C n →
    ∃ acs κ C' n', Sofar P w κ C' n' ∧ More ι C n κ C' n' ∧ VRs κ acs ((cs.drop at_).take (stop - at_)) ∧ acs.all one = true ∧ acs.length = stop - at_ ∧ at_ ≤ stop ∧
      ∀ g ∈ fs, at_ ≤ g.offset ∧ AR P C' g.type ((acs.drop (g.offset - at_)).take (P.cellsOf g.type)) := by
  intro fs
  induction fs with
  | nil =>
    intro at_ stop hl _ _ _ ι C n h
    have : at_ = stop := by simpa [lined] using hl
    subst this
    exact ⟨[], ι, C, n, h, More.refl _ _ _, by simpa using VRs.nil ι, rfl, by simp, Nat.le_refl _, fun g hg => by cases hg⟩
  | cons g fs ih =>
    intro at_ stop hl hst hop hf ι C n h
    simp only [lined, Bool.and_eq_true, beq_iff_eq] at hl
    obtain ⟨hoff, hl⟩ := hl
    obtain ⟨bcs, κ, C', n', g1, g2, g3, g4, g5, g6⟩ := hop g (by simp) _ (hf g (by simp)) ι C n h
    obtain ⟨acs, μ, C'', n'', h1, h2, h3, h4, h5, h6, h7⟩ := ih _ stop hl hst (fun g' hg' => hop g' (by simp [hg'])) (fun g' hg' => hf g' (by simp [hg'])) κ C' n' g1
    rw [hoff] at g3
    refine ⟨bcs ++ acs, μ, C'', n'', h1, g2.trans h2, ?_, by simp [g6, h4], by rw [List.length_append, g5, h5]; omega, by omega, fun g' hg' => ?_⟩
    · have e1 : (cs.drop at_).take (stop - at_) = (cs.drop at_).take (P.cellsOf g.type) ++ (cs.drop (at_ + P.cellsOf g.type)).take (stop - (at_ + P.cellsOf g.type)) := by
        have : stop - at_ = P.cellsOf g.type + (stop - (at_ + P.cellsOf g.type)) := by omega
        rw [this, List.take_add, List.drop_drop]
      rw [e1]
      exact (g3.mono h2.le).append h3
    · rcases List.mem_cons.1 hg' with e | e
      · subst e
        refine ⟨by omega, ?_⟩
        rw [hoff, Nat.sub_self, List.drop_zero, List.take_append_of_le_length (by omega), List.take_of_length_le (by omega)]
        exact g4.mono h2.heap
      · obtain ⟨k1, k2⟩ := h7 g' e
        refine ⟨by omega, ?_⟩
        rw [List.drop_append, List.drop_of_length_le (by omega), List.nil_append, g5, show g'.offset - at_ - P.cellsOf g.type = g'.offset - (at_ + P.cellsOf g.type) by omega]
        exact k2
theorem open_cells : ∀ (fuel d : Nat) (t : TypeId) (cs : List Value) (x : DataW H × List MemPlace), plainT P d t = true → DataW.trod enc P w 0 (fun _ => true) true fuel t cs = some x →
  ∀ ι C n, Sofar P w ι C n → Opened P w ι C n t cs := by
 intro fuel
 induction fuel with
 | zero => intro d t cs x _ h; simp [DataW.trod] at h
 | succ fuel ih =>
  intro d t cs x hp h ι C n hs
  cases d with
  | zero => simp [plainT] at hp
  | succ d =>
   simp only [plainT] at hp
   split at hp
   ·rename_i ht
    obtain ⟨b, rfl, _⟩ := DataW.trod_bool ht h
    exact opened_flat hs rfl (.bool b) (.bool t b ht) hp
   ·rename_i k ht
    obtain ⟨m, rfl, _, hw⟩ := DataW.trod_int ht h
    exact opened_flat hs rfl (.int k m) (.int t k m ht hw) hp
   ·rename_i k ht
    have : ∃ b, cs = [.float k b] ∧ (Lit.float k b).wf = true := by
     unfold DataW.trod at h
     rw [ht] at h
     split at h <;> simp_all
    obtain ⟨b, rfl, hw⟩ := this
    exact opened_flat hs rfl (.float k b) (.float t k b ht hw) hp
   ·rename_i ht
    obtain ⟨s, rfl, _, hw⟩ := DataW.trod_string ht h
    exact opened_flat hs rfl (.string s) (.string t s ht hw) hp
   ·rename_i e ht
    simp only [Bool.and_eq_true, decide_eq_true_eq] at hp
    obtain ⟨⟨hc, he0⟩, hpe⟩ := hp
    have hc' : P.cellsOf t = 1 := by simpa using hc
    rcases DataW.trod_slice ht h with ⟨rfl, _⟩ | ⟨a, len, cap, elems, rest, m, hm, rfl, _, _, hlc, hmx, hel, h1, h2, _⟩
    ·exact opened_flat hs rfl .sliceNil (.nil t e ht) hc
    ·have hmf : m = fuel := by omega
     subst hmf
     by_cases hcap : cap = 0
     ·have hl0 : len = 0 := by omega
      subst hcap hl0
      obtain ⟨k1, k2⟩ := hs.addRO (cs := []) (e := e) (b := 0) (o := 0) hs.pos (fun i v e => by simp at e)
      exact ⟨[.slice (some ⟨n, 0, none⟩) 0 0], _, _, n + 1, k1, k2, .cons (.sliceE n 0 a _ (iset_same _ _ _) rfl) (.nil _), .slice t e n 0 [] ht (hset_same _ _ _) (by simp) (Nat.zero_le _) (fun i hi => absurd hi (Nat.not_lt_zero _)), by simp [hc'], rfl⟩
     ·obtain ⟨hr1, hr2⟩ := h2 rfl
      have hsome : ∀ i, i < len → ∃ cs, w.cells? 0 (a.add (i * P.cellsOf e)) (P.cellsOf e) = some cs ∧ (∃ x, DataW.trod enc P w 0 (fun _ => true) true m e cs = some x) := by
       intro i hi
       have := h1 i hi
       rw [List.getElem?_eq_getElem (by omega)] at this
       obtain ⟨cs', e1, e2⟩ := Option.bind_eq_some_iff.1 this
       exact ⟨cs', e1, _, e2⟩
      have hfirst : ∃ cs, w.cells? 0 (a.add 0) (P.cellsOf e) = some cs := by
       by_cases hl : 0 < len
       ·obtain ⟨cs', e1, _⟩ := hsome 0 hl
        exact ⟨cs', by simpa using e1⟩
       ·have hl0 : len = 0 := by omega
        have := hr2 0 (by omega)
        rw [List.getElem?_eq_getElem (by omega)] at this
        obtain ⟨cs', e1, _⟩ := Option.bind_eq_some_iff.1 this
        exact ⟨cs', by simpa [hl0] using e1⟩
      obtain ⟨cs0, hcs0⟩ := hfirst
      obtain ⟨hl0, hcell0⟩ := cells?_spec hcs0
      have hc0 := hcell0 0 (by omega)
      rw [List.getElem?_eq_getElem (by omega)] at hc0
      have ha : a.add 0 = a := by simp [Addr.add]
      rw [ha, ha] at hc0
      have hblk : a.block < w.heap.size := World.block_lt_of_cell? w a hc0
      have hspot : a.spot = none := by
       unfold World.cell? at hc0
       cases hsp : a.spot with
       | none => rfl
       | some s => simp [hsp] at hc0; split at hc0 <;> simp at hc0
      obtain ⟨b, o, sp⟩ := a
      simp only at hspot hblk
      subst hspot
      obtain ⟨acs, κ, C', n', g1, g2, g3, g4, g5⟩ := open_elems (f := fun e cs => ∃ x, DataW.trod enc P w 0 (fun _ => true) true m e cs = some x)
       (fun cs' hx ι C n h => by obtain ⟨x, hx⟩ := hx; exact ih d e cs' x hpe hx ι C n h) hsome len (Nat.le_refl _) ι C n hs
      obtain ⟨k1, k2⟩ := g1.addRO (e := e) hblk (fun i v e => by
       obtain ⟨v', e1, e2⟩ := g5 i v e
       rw [add_lit] at e1
       exact ⟨v', e1, e2⟩)
      refine ⟨[.slice (some ⟨n', 0, none⟩) len len], _, _, n' + 1, k1, g2.trans k2, .cons ?_ (.nil _), ?_, by simp [hc'], rfl⟩
      ·exact .slice n' 0 len o cap _ (iset_same _ _ _) (fun _ => rfl) hlc hmx (fun e => by cases e)
      ·refine .slice t e n' len acs ht (hset_same _ _ _) g3 (by omega) fun i hi => (g4 i hi).mono k2.heap
   ·rename_i fs ht
    simp only [Bool.and_eq_true, List.all_eq_true] at hp
    obtain ⟨xs, m, hm, _, hlen, hxs, hf⟩ := DataW.trod_struct ht h
    have hmf : m = fuel := by omega
    subst hmf
    obtain ⟨acs, κ, C', n', g1, g2, g3, g4, g5, _, g7⟩ := open_fields (w := w) (f := fun t cs => ∃ x, DataW.trod enc P w 0 (fun _ => true) true m t cs = some x) (cs := cs) fs.toList 0 (P.cellsOf t) hp.1 (by omega)
     (fun g hg cs' hx ι C n h => by obtain ⟨x, hx⟩ := hx; exact ih d g.type cs' x (hp.2 g hg) hx ι C n h)
     (fun g hg => by
      obtain ⟨i, hi, rfl⟩ := List.getElem_of_mem hg
      have hi' : i < fs.size := by simpa using hi
      have := hf i fs[i] (Array.getElem?_eq_getElem hi')
      rw [List.getElem?_eq_getElem (by omega)] at this
      exact ⟨_, by simpa using this⟩) ι C n hs
    refine ⟨acs, κ, C', n', g1, g2, ?_, ?_, by omega, g4⟩
    ·simpa [List.take_of_length_le (Nat.le_of_eq hlen)] using g3
    ·refine .struct t fs acs ht (by omega) fun i f hi => ?_
     have hmem : f ∈ fs.toList := by have := Array.mem_of_getElem? hi; simpa using this
     have := (g7 f hmem).2
     simpa using this
   ·cases hp
end
end Go.AM
namespace Go.AM
open Go.RowKit Go.ChangeShapes Go.WideShapes Go.ChangeAt
section
variable {P : Program} {H : Type} {enc : TypeId × Value → H}
def ARV (P : Program) (H : Heap) (t : TypeId) (v : Value) : Prop := AR P H t (vcells v) ∧ (aggT P t = some true → ∃ cs, v = .agg cs) ∧ (aggT P t = some false → one v = true)
inductive ARs (P : Program) (H : Heap) : List TypeId → List Value → Prop where
 | nil : ARs P H [] []
 | cons {t : TypeId} {v : Value} {ts : List TypeId} {vs : List Value} (h : ARV P H t v) (k : ARs P H ts vs) : ARs P H (t :: ts) (v :: vs)
theorem ARV.mono {H H' : Heap} {t : TypeId} {v : Value} (h : ARV P H t v) (hle : ∀ x, H x ≠ .dead → H' x = H x) : ARV P H' t v := ⟨h.1.mono hle, h.2⟩
theorem one_of_ok {t : TypeId} {W : World} {base d : Nat} {v : Value} (hp : plainT P d t = true) (ha : aggT P t = some false) (h : Value.okWide P W .any base t v) : v.oneCell' = true := by
 cases d with
 | zero => simp [plainT] at hp
 | succ d =>
  unfold aggT at ha
  simp only [plainT] at hp
  unfold Value.okWide at h
  unfold Cell.okWide Cell.ok at h
  split at hp <;> rename_i ht <;> (try rw [ht] at ha) <;> (try rw [ht] at h) <;> (first | (cases ha; done) | (cases hp; done) | skip) <;>
   (cases v <;> first | rfl | (simp at h) | (simp at hp))
theorem open_args : ∀ (ts : List TypeId) (vs : List Value) (ds : List (DataW H)) (ps : List MemPlace) (W : World) (base d : Nat), (∀ t ∈ ts, plainT P d t = true) →
  (∀ (j : Nat) t v, ts[j]? = some t → vs[j]? = some v → Value.okWide P W .any base t v) → DataW.TrodAll enc P W 0 (fun _ => true) true ts vs ds ps →
  ∀ ι C n, Sofar P W ι C n → ∃ avs κ C' n', Sofar P W κ C' n' ∧ More ι C n κ C' n' ∧ VRs κ avs vs ∧ ARs P C' ts avs := by
 intro ts
 induction ts with
 | nil =>
  intro vs ds ps W base d _ _ h ι C n hs
  obtain ⟨rfl, _, _⟩ := trodAll_nil h
  exact ⟨[], ι, C, n, hs, More.refl _ _ _, .nil ι, .nil⟩
 | cons t ts ih =>
  intro vs ds ps W base d hp hok h ι C n hs
  obtain ⟨v, vs1, d1, ds1, a, b, rfl, rfl, rfl, h1, h2⟩ := trodAll_cons h
  obtain ⟨fuel, h1⟩ := h1
  obtain ⟨acs, κ, C1, n1, g1, g2, g3, g4, g5, g6⟩ := open_cells fuel d t _ _ (hp t (by simp)) h1 ι C n hs
  obtain ⟨avs, μ, C2, n2, k1, k2, k3, k4⟩ := ih vs1 ds1 b W base d (fun t' ht' => hp t' (by simp [ht'])) (fun j t' v' e1 e2 => hok (j + 1) t' v' (by simpa using e1) (by simpa using e2)) h2 κ C1 n1 g1
  have hov := hok 0 t v rfl rfl
  have hagg : ∃ b, aggT P t = some b := by
   have hpt := hp t (by simp)
   cases d with
   | zero => simp [plainT] at hpt
   | succ d =>
    simp only [plainT] at hpt
    unfold aggT
    split at hpt <;> rename_i ht <;> simp [ht]
    cases hpt
  obtain ⟨b, hb⟩ := hagg
  have hval : ∃ av, VR κ av v ∧ ARV P C1 t av := by
   cases b with
   | true =>
    have hv : ∃ cs, v = .agg cs := by
     unfold aggT at hb
     unfold Value.okWide at hov
     split at hb <;> rename_i ht <;> simp only [ht] at hov <;> (try (cases hb; done))
     all_goals (obtain ⟨cs, e, _⟩ := hov; exact ⟨cs, e⟩)
    obtain ⟨cs, rfl⟩ := hv
    refine ⟨.agg acs.toArray, ?_, ?_, fun _ => ⟨_, rfl⟩, fun e => by rw [hb] at e; cases e⟩
    ·have := g3.agg; simpa [Value.cells] using this
    ·simpa [vcells, Value.cells] using g4
   | false =>
    have hv1 := one_of_ok (hp t (by simp)) hb hov
    have hc : v.cells.toList = [v] := by cases v <;> first | rfl | (simp [Value.oneCell'] at hv1)
    rw [hc] at g3
    match acs, g3 with
    | [av], g3 =>
     obtain ⟨v', k, e, r1, _⟩ := g3.cons_inv
     simp only [List.cons.injEq] at e
     obtain ⟨rfl, _⟩ := e
     have ho : one av = true := by simpa using g6
     have hvc : vcells av = [av] := by cases av <;> first | rfl | (simp [one] at ho)
     exact ⟨av, r1, by rw [hvc]; exact g4, fun e => by (rw [hb] at e; cases e), fun _ => ho⟩
    | [], g3 => simp [VRs] at g3
    | _ :: _ :: _, g3 => simp [VRs] at g3
  obtain ⟨av, r1, r2⟩ := hval
  exact ⟨av :: avs, μ, C2, n2, k1, g2.trans k2, .cons (r1.mono k2.le) k3, .cons (r2.mono k2.heap) k4⟩
theorem trodAll_stays (hl : laidOutB P = true) {W W' : World} (hb : Below W.heap.size W W') : ∀ (ts : List TypeId) (vs : List Value) (ds : List (DataW H)) (ps : List MemPlace),
  (∀ t ∈ ts, P.readableRec t = true ∧ t < P.types.size) → DataW.TrodAll enc P W 0 (fun _ => true) true ts vs ds ps → (∀ x ∈ ps, x.block < W.heap.size) →
  DataW.TrodAll enc P W' 0 (fun b => decide (b < W.heap.size)) true ts vs ds ps := by
 intro ts
 induction ts with
 | nil => intro vs ds ps _ h _; obtain ⟨rfl, rfl, rfl⟩ := trodAll_nil h; exact rfl
 | cons t ts ih =>
  intro vs ds ps ht h hp
  obtain ⟨v, vs1, d1, ds1, a, b, rfl, rfl, rfl, h1, h2⟩ := trodAll_cons h
  obtain ⟨hr, hrow⟩ := ht t (by simp)
  exact ⟨a, b, Below.trod hl hr hrow h1 hb (fun x hx => hp x (by simp [hx])), ih vs1 ds1 b (fun t' h' => ht t' (by simp [h'])) h2 (fun x hx => hp x (by simp [hx])), rfl⟩
theorem still1_of_flat1 {v : Value} (h : flat1 v = true) : still1 v = true := by
 unfold still1
 split
 ·rfl
 ·exact h
structure Globs (P : Program) (W : World) (G : Heap) : Prop where
 out : ∀ x, ngl P ≤ x → G x = .dead
 cells : ∀ x, G x ≠ .dead → ∃ cs ty, G x = .cells cs ty false ∧ cs.all flat1 = true ∧ ∀ (i : Nat) (v : Value), cs[i]? = some v → W.cell? ⟨x, i, none⟩ = some v
 there : ngl P ≤ W.heap.size
 pos : 0 < W.heap.size
def AllRO (H : Heap) : Prop := ∀ x cs ty own, H x = .cells cs ty own → own = false
end
end Go.AM
namespace Go.AM
open Go.RowKit Go.ChangeShapes Go.WideShapes Go.ChangeAt
section
variable {P : Program} {H : Type} {enc : TypeId × Value → H}
def LawRunsD (P : Program) (G : Heap) (F : FuncId) (ts : List TypeId) : Prop :=
 ∀ (n : Nat) (H : Heap) (vs : List Value), WF n H → ngl P ≤ n → (∀ x, G x ≠ .dead → H x = G x) → AllRO H → ARs P H ts vs → DB P (.call F vs n H) (TR fun v _ _ => v = .bool true)
theorem law_contractD (hm : P.follows .mixedOrders = true) (hl : laidOutB P = true) {F : FuncId} {fn : Func} {s : ChangeSpec} {d : Nat} {tb : TypeId} {G : Heap} (hlaw : LawRunsD P G F fn.params.toList) (hvars : s.vars = [])
    (hspec : ∀ ds : List (DataW H), ds.length = fn.params.size → s.fn H ds = { results := [.lit (.bool true)], args := ds })
    (hp : ∀ t ∈ fn.params.toList, plainT P d t = true ∧ P.readableRec t = true ∧ t < P.types.size) (hres : fn.resultTypes = #[tb]) (htb : P.underlying tb = some .bool)
    (W : World) (base : Nat) (args : Array Value) (ds gs : List (DataW H)) (before : List MemPlace)
    (hval : ∀ (j : Nat) t v, fn.params[j]? = some t → args[j]? = some v → Value.okWide P W .any base t v) (hW : DataW.Whole enc P fn.params.toList s.vars false W args.toList ds gs before) (hG : Globs P W G) :
    Calls P F args W fun e W' => ∃ v, e = .returned v ∧ s.post enc P fn false true false false W args v W' := by
  have hlt := hW.lt
  have hW' := hW
  obtain ⟨p, q, hA, hV, rfl, hfz, hnd⟩ := hW
  rw [hvars] at hV
  obtain ⟨rfl, rfl⟩ : gs = [] ∧ q = [] := by
    cases gs with
    | nil => exact ⟨rfl, hV⟩
    | cons => exact absurd hV (by simp [DataW.TrodVars])
  have hs0 : Sofar P W (fun x => if x < ngl P then some ⟨x, 0, false, 0, 0⟩ else none) G (ngl P) := by
    refine ⟨⟨fun x => ?_, fun x y t u hx hy ex ey ho => ?_, fun x t e => ?_, Nat.le_refl _, fun g hg => by simp [hg], fun x y t u cs ty b ds ty' hx hy ex ey hbl => ?_⟩, fun x hx => by rw [if_neg (by omega)], fun x hx => hG.out x hx, fun x t e => ?_, hG.pos⟩
    · by_cases hd : G x = .dead
      · rw [hd]; trivial
      · obtain ⟨cs, ty, hc, hf, hcell⟩ := hG.cells x hd
        have hx : x < ngl P := Nat.lt_of_not_le fun h => hd (hG.out x h)
        rw [hc]
        refine ⟨⟨x, 0, false, 0, 0⟩, by simp [hx], rfl, fun i v e => ?_, fun e => by cases e⟩
        have hv := List.all_eq_true.1 hf v (List.mem_of_getElem? e)
        refine ⟨v, by simpa using hcell i v e, flat1_refl _ hv, still1_one (still1_of_flat1 hv)⟩
    · split at ex
      · cases ex; cases ho
      · cases ex
    · split at e
      · rename_i hx; cases e; exact ⟨Nat.lt_of_lt_of_le hx hG.there, (fun k => by cases k), fun _ => Nat.lt_of_lt_of_le hx hG.there⟩
      · cases e
    · obtain ⟨_, _, hc, _⟩ := hG.cells x (by rw [hx]; intro e; cases e)
      rw [hc] at hx; cases hx
    · split at e
      · cases e; rfl
      · cases e
  obtain ⟨avs, κ, C, n, g1, g2, g3, g4⟩ := open_args fn.params.toList args.toList ds p W base d (fun t ht => (hp t ht).1) (fun j t v e1 e2 => hval j t v (by simpa using e1) (by simpa using e2)) hA _ _ _ hs0
  have hbs := hlaw n C avs g1.wf g2.n (fun x hx => g2.heap x hx) (fun x cs ty own hx => by
    have hob := g1.hr.obj x
    rw [hx] at hob
    obtain ⟨t, h1, h2, _⟩ := hob
    rw [← h2]; exact g1.ro x t h1) g4
  have hcs := (soundD hm hbs).1
  have hcall := hcs g1.wf W.heap.size κ C W args.toList g3 g1.hr (fun _ _ _ => rfl) (fun x h1 => g1.free x h1)
  rw [Array.toArray_toList] at hcall
  refine hcall.mono ?_
  rintro e W' ⟨v, n', H', v', κ', C', hT, _, rfl, hvr, ha⟩
  obtain rfl : v = .bool true := hT
  cases hvr
  refine ⟨.bool true, rfl, ds, [], p, [], p, [], by simpa using hW', ?_, ?_, ?_, ?_, fun h => by cases h⟩
  · have hlen : ds.length = fn.params.size := by
      have key : ∀ (ts : List TypeId) (vs : List Value) (ds : List (DataW H)) (ps : List MemPlace), DataW.TrodAll enc P W 0 (fun _ => true) true ts vs ds ps → ds.length = ts.length := by
        intro ts
        induction ts with
        | nil => intro vs ds ps h; obtain ⟨_, rfl, _⟩ := trodAll_nil h; rfl
        | cons t ts ih =>
          intro vs ds ps h
          obtain ⟨v, vs1, d1, ds1, a, b, rfl, rfl, rfl, _, h2⟩ := trodAll_cons h
          simp [ih _ _ _ h2]
      rw [key _ _ _ _ hA]; simp
    rw [hres, List.append_nil, hspec ds hlen]
    exact trodAll_mk1 (shut_bool htb true)
  · have hlen : ds.length = fn.params.size := by
      have key : ∀ (ts : List TypeId) (vs : List Value) (ds : List (DataW H)) (ps : List MemPlace), DataW.TrodAll enc P W 0 (fun _ => true) true ts vs ds ps → ds.length = ts.length := by
        intro ts
        induction ts with
        | nil => intro vs ds ps h; obtain ⟨_, rfl, _⟩ := trodAll_nil h; rfl
        | cons t ts ih =>
          intro vs ds ps h
          obtain ⟨v, vs1, d1, ds1, a, b, rfl, rfl, rfl, _, h2⟩ := trodAll_cons h
          simp [ih _ _ _ h2]
      rw [key _ _ _ _ hA]; simp
    rw [List.append_nil, hspec ds hlen]
    exact trodAll_stays hl ha.below _ _ _ _ (fun t ht => (hp t ht).2) hA (fun x hx => by simpa using hlt x (by simp [hx]))
  · rw [hvars]
    have hlen : True := trivial
    have : (s.fn H (ds ++ [])).vars = [] := by
      rw [List.append_nil, hspec ds (by
        have key : ∀ (ts : List TypeId) (vs : List Value) (ds : List (DataW H)) (ps : List MemPlace), DataW.TrodAll enc P W 0 (fun _ => true) true ts vs ds ps → ds.length = ts.length := by
          intro ts
          induction ts with
          | nil => intro vs ds ps h; obtain ⟨_, rfl, _⟩ := trodAll_nil h; rfl
          | cons t ts ih =>
            intro vs ds ps h
            obtain ⟨v, vs1, d1, ds1, a, b, rfl, rfl, rfl, _, h2⟩ := trodAll_cons h
            simp [ih _ _ _ h2]
        rw [key _ _ _ _ hA]; simp)]
    rw [this]
    exact rfl
  · exact World.keptBut_mono (fun x hx => by cases hx) (ha.below.frame (fun _ => False))
end
end Go.AM
namespace Go.AM
open Go.RowKit
theorem heap_of_shaped {P : Program} {W : World} (hs : W.ShapedOpen P) {g : Nat} {zero : Array Value} {t : TypeId} (hg : g < P.globals.size)
  (h : ((begin P (fun _ _ => 0) default).world.heap[g]?).bind Obj.row? = some (zero, t)) : g < W.heap.size := by
 obtain ⟨cs, h1, _⟩ := hs.1 g zero t hg h
 rcases Nat.lt_or_ge g W.heap.size with k | k
 ·exact k
 ·rw [Array.getElem?_eq_none k] at h1; cases h1
end Go.AM
namespace Go.AM
open Go.RowKit
structure GRule where
 left : Int
 right : List Int
 weight : Nat
structure Gram where
 terms : List ByteArray
 vars : List ByteArray
 rules : List GRule
def RR (H : Heap) (a : Option Addr) (l : List GRule) : Prop :=
 l ≠ [] → ∃ x k cs ty own, a = some ⟨x, k, none⟩ ∧ H x = .cells cs ty own ∧ ∀ i r, l[i]? = some r →
  ∃ p, cs[k + i * 3]? = some (.int .i64 r.left) ∧ cs[k + i * 3 + 1]? = some (.slice p r.right.length r.right.length) ∧ cs[k + i * 3 + 2]? = some (.float .f64 r.weight) ∧ RS (Value.int .i64) H p r.right
theorem RR.mono {n n' : Nat} {H H' : Heap} {a : Option Addr} {l : List GRule} (h : RR H a l) (hw : WF n H) (hk : Kp n H n' H') : RR H' a l := by
 intro hl
 obtain ⟨x, k, cs, ty, own, e1, e2, e3⟩ := h hl
 refine ⟨x, k, cs, ty, own, e1, ?_, fun i r hi => ?_⟩
 ·rw [hk.keep x, e2]
  apply Classical.byContradiction
  intro hx
  rw [hw x (by omega)] at e2; cases e2
 ·obtain ⟨p, c1, c2, c3, c4⟩ := e3 i r hi
  exact ⟨p, c1, c2, c3, c4.mono hw hk⟩
theorem RR.atS {H : Heap} {a : Option Addr} {l : List GRule} (h : RR H a l) {i : Nat} (hi : i < l.length) :
  ∃ x k cs ty own p, a = some ⟨x, k, none⟩ ∧ H x = .cells cs ty own ∧ cs[k + i * 3]? = some (.int .i64 l[i].left) ∧ cs[k + i * 3 + 1]? = some (.slice p l[i].right.length l[i].right.length) ∧
   cs[k + i * 3 + 2]? = some (.float .f64 l[i].weight) ∧ RS (Value.int .i64) H p l[i].right := by
 obtain ⟨x, k, cs, ty, own, e1, e2, e3⟩ := h (by intro e; simp [e] at hi)
 obtain ⟨p, c1, c2, c3, c4⟩ := e3 i _ (List.getElem?_eq_getElem hi)
 exact ⟨x, k, cs, ty, own, p, e1, e2, c1, c2, c3, c4⟩
theorem RR.at {H : Heap} {a : Option Addr} {l : List GRule} (h : RR H a l) {i : Nat} (hi : i < l.length) :
  ∃ x k cs ty own p, a = some ⟨x, k, none⟩ ∧ H x = .cells cs ty own ∧ cs[k + i * 3]? = some (.int .i64 l[i].left) ∧ cs[k + i * 3 + 1]? = some (.slice p l[i].right.length l[i].right.length) ∧
   cs[k + i * 3 + 2]? = some (.float .f64 l[i].weight) ∧ RA (Value.int .i64) H p l[i].right := by
 obtain ⟨x, k, cs, ty, own, p, e1, e2, c1, c2, c3, c4⟩ := h.atS hi
 exact ⟨x, k, cs, ty, own, p, e1, e2, c1, c2, c3, c4.ra⟩
theorem take3 {cs : List Value} {k : Nat} {a b c : Value} (h0 : cs[k]? = some a) (h1 : cs[k + 1]? = some b) (h2 : cs[k + 2]? = some c) : (cs.drop k).take 3 = [a, b, c] := by
 apply List.ext_getElem?
 intro i
 rw [List.getElem?_take, List.getElem?_drop]
 match i with
 | 0 => simpa using h0
 | 1 => simpa using h1
 | 2 => simpa using h2
 | i + 3 => simp; omega
theorem len3 {cs : List Value} {k : Nat} {c : Value} (h2 : cs[k + 2]? = some c) : k + 3 ≤ cs.length := by
 rcases Nat.lt_or_ge (k + 2) cs.length with h | h
 ·omega
 ·rw [List.getElem?_eq_none h] at h2; cases h2
def gcells (pt pv pr : Option Addr) (g : Gram) : List Value :=
 [.slice pt g.terms.length g.terms.length, .slice pv g.vars.length g.vars.length, .slice pr g.rules.length g.rules.length]
def RG (H : Heap) (v : Value) (g : Gram) : Prop :=
 ∃ pt pv pr, v = .agg (gcells pt pv pr g).toArray ∧ RA Value.string H pt g.terms ∧ RA Value.string H pv g.vars ∧ RR H pr g.rules
theorem RG.mono {n n' : Nat} {H H' : Heap} {v : Value} {g : Gram} (h : RG H v g) (hw : WF n H) (hk : Kp n H n' H') : RG H' v g := by
 obtain ⟨pt, pv, pr, e, h1, h2, h3⟩ := h
 exact ⟨pt, pv, pr, e, h1.mono hw hk, h2.mono hw hk, h3.mono hw hk⟩
def inI (n : Int) : Prop := -9223372036854775808 ≤ n ∧ n ≤ 9223372036854775807
def maxL : Nat := 9223372036854775807
structure WG (g : Gram) : Prop where
 terms : g.terms.length ≤ maxL
 vars : g.vars.length ≤ maxL
 rules : g.rules.length ≤ maxL
 left : ∀ r ∈ g.rules, inI r.left
 right : ∀ r ∈ g.rules, r.right.length ≤ maxL ∧ ∀ s ∈ r.right, inI s
 weight : ∀ r ∈ g.rules, r.weight < 2 ^ 64
 size : ∀ s ∈ g.terms ++ g.vars, s.size ≤ maxL
theorem box_cells (pt pv pr : Option Addr) (g : Gram) : vcells (.agg (gcells pt pv pr g).toArray) = gcells pt pv pr g := rfl
theorem box_one (pt pv pr : Option Addr) (g : Gram) : (gcells pt pv pr g).all one = true := rfl
theorem gc_0 (pt pv pr : Option Addr) (g : Gram) : (gcells pt pv pr g)[0]? = some (.slice pt g.terms.length g.terms.length) := rfl
theorem gc_1 (pt pv pr : Option Addr) (g : Gram) : (gcells pt pv pr g)[1]? = some (.slice pv g.vars.length g.vars.length) := rfl
theorem gc_2 (pt pv pr : Option Addr) (g : Gram) : (gcells pt pv pr g)[2]? = some (.slice pr g.rules.length g.rules.length) := rfl
theorem gc_len (pt pv pr : Option Addr) (g : Gram) : (gcells pt pv pr g).length = 3 := rfl
theorem gc_all (pt pv pr : Option Addr) (g : Gram) : ((gcells pt pv pr g).drop 0).take 3 = gcells pt pv pr g := rfl
end Go.AM
namespace Go.AM
open Go.RowKit
theorem pick_list {α : Type} {Q : Nat → α → Prop} : ∀ (m : Nat), (∀ i, i < m → ∃ y, Q i y) → ∃ l : List α, l.length = m ∧ ∀ i y, l[i]? = some y → Q i y := by
 intro m
 induction m with
 | zero => intro _; exact ⟨[], rfl, fun i y h => by simp at h⟩
 | succ m ih =>
  intro h
  obtain ⟨l, h1, h2⟩ := ih fun i hi => h i (by omega)
  obtain ⟨y, hy⟩ := h m (by omega)
  refine ⟨l ++ [y], by simp [h1], fun i z e => ?_⟩
  by_cases hi : i < l.length
  ·rw [List.getElem?_append_left hi] at e; exact h2 i z e
  ·rw [List.getElem?_append_right (by omega)] at e
   have : i - l.length = 0 := by
    apply Classical.byContradiction
    intro hc
    obtain ⟨q, hq⟩ : ∃ q, i - l.length = q + 1 := ⟨i - l.length - 1, by omega⟩
    rw [hq] at e; simp at e
   have e' : i = m := by omega
   rw [this] at e
   simp at e
   subst e
   rw [e']; exact hy
theorem at1 {cs : List Value} {i : Nat} {v : Value} (h : (cs.drop i).take 1 = [v]) : cs[i]? = some v := by
 have : ((cs.drop i).take 1)[0]? = some v := by rw [h]; rfl
 rw [List.getElem?_take, List.getElem?_drop] at this
 simpa using this
variable {P : Program} {H : Heap}
theorem AR.int_inv {t : TypeId} {cs : List Value} (h : AR P H t cs) (ht : P.underlying t = some (.int .i64)) : ∃ n, cs = [.int .i64 n] ∧ inI n := by
 cases h with
 | int t k n ht' hw =>
  rw [ht] at ht'; cases ht'
  refine ⟨n, rfl, ?_⟩
  simp [Lit.wf, IntKind.min, IntKind.max, IntKind.signed, IntKind.bits] at hw
  unfold inI
  omega
 | _ => simp_all
theorem AR.str_inv {t : TypeId} {cs : List Value} (h : AR P H t cs) (ht : P.underlying t = some .string) : ∃ s, cs = [.string s] ∧ s.size ≤ maxL := by
 cases h with
 | string t s ht' hs =>
  refine ⟨s, rfl, Nat.le_trans hs ?_⟩
  unfold maxL maxLen
  omega
 | _ => simp_all
theorem AR.float_inv {t : TypeId} {cs : List Value} (h : AR P H t cs) (ht : P.underlying t = some (.float .f64)) : ∃ b, cs = [.float .f64 b] ∧ b < 2 ^ 64 := by
 cases h with
 | float t k b ht' hw =>
  rw [ht] at ht'; cases ht'
  refine ⟨b, rfl, ?_⟩
  simpa [Lit.wf] using hw
 | _ => simp_all
theorem AR.slice_inv {t e : TypeId} {cs : List Value} (h : AR P H t cs) (ht : P.underlying t = some (.slice e)) : cs = [.slice none 0 0] ∨ ∃ x m ds, cs = [.slice (some ⟨x, 0, none⟩) m m] ∧ H x = .cells ds e false ∧ m ≤ maxL ∧ ∀ i, i < m → AR P H e ((ds.drop (i * P.cellsOf e)).take (P.cellsOf e)) := by
 cases h with
 | nil => exact .inl rfl
 | slice t e' x m ds ht' hx hl hm he =>
  rw [ht] at ht'; cases ht'
  refine .inr ⟨x, m, ds, rfl, hx, Nat.le_trans hm ?_, he⟩
  unfold maxL maxLen
  omega
 | _ => simp_all
theorem AR.list_inv {α : Type} {enc : α → Value} {good : α → Prop} {t e : TypeId} {cs : List Value} (h : AR P H t cs) (ht : P.underlying t = some (.slice e)) (hc : P.cellsOf e = 1) (hi : ∀ ds, AR P H e ds → ∃ y, ds = [enc y] ∧ good y) :
    ∃ p l, cs = [.slice p l.length l.length] ∧ RS enc H p l ∧ l.length ≤ maxL ∧ ∀ y ∈ l, good y := by
  rcases h.slice_inv ht with rfl | ⟨x, m, ds, rfl, hx, hm, he⟩
  · exact ⟨none, [], rfl, .inl ⟨rfl, rfl⟩, by simp, fun y hy => by cases hy⟩
  · obtain ⟨l, h1, h2⟩ := pick_list (Q := fun i y => ds[i]? = some (enc y) ∧ good y) m fun i hi' => by
      obtain ⟨y, e1, e2⟩ := hi _ (he i hi')
      rw [hc, Nat.mul_one] at e1
      exact ⟨y, at1 e1, e2⟩
    subst h1
    refine ⟨_, l, rfl, .inr ⟨x, 0, ds, e, false, rfl, hx, ?_, fun i y e => by rw [Nat.zero_add]; exact (h2 i y e).1⟩, hm, fun y hy => ?_⟩
    · rw [Nat.zero_add]
      apply Classical.byContradiction
      intro hc
      have hlt : ds.length < l.length := by omega
      have := (h2 ds.length _ (List.getElem?_eq_getElem hlt)).1
      rw [List.getElem?_eq_none (Nat.le_refl _)] at this
      cases this
    obtain ⟨i, hi', rfl⟩ := List.getElem_of_mem hy
    exact (h2 i _ (List.getElem?_eq_getElem hi')).2
theorem AR.ints {t e : TypeId} {cs : List Value} (h : AR P H t cs) (ht : P.underlying t = some (.slice e)) (hc : P.cellsOf e = 1) (he : P.underlying e = some (.int .i64)) :
  ∃ p l, cs = [.slice p l.length l.length] ∧ RS (Value.int .i64) H p l ∧ l.length ≤ maxL ∧ ∀ y ∈ l, inI y := h.list_inv ht hc fun _ hd => hd.int_inv he
theorem AR.strs {t e : TypeId} {cs : List Value} (h : AR P H t cs) (ht : P.underlying t = some (.slice e)) (hc : P.cellsOf e = 1) (he : P.underlying e = some .string) :
  ∃ p l, cs = [.slice p l.length l.length] ∧ RA Value.string H p l ∧ l.length ≤ maxL ∧ ∀ y ∈ l, y.size ≤ maxL := by
 obtain ⟨p, l, e, h1, h2⟩ := h.list_inv ht hc fun _ hd => hd.str_inv he
 exact ⟨p, l, e, h1.ra, h2⟩
structure GramT (P : Program) (tg tr ti tn tss trs tis tf : TypeId) : Prop where
 g : ∃ f1 f2 f3 : Field, P.underlying tg = some (.struct #[f1, f2, f3]) ∧ f1.type = tss ∧ f1.offset = 0 ∧ f2.type = tss ∧ f2.offset = 1 ∧ f3.type = trs ∧ f3.offset = 2
 r : ∃ f1 f2 f3 : Field, P.underlying tr = some (.struct #[f1, f2, f3]) ∧ f1.type = ti ∧ f1.offset = 0 ∧ f2.type = tis ∧ f2.offset = 1 ∧ f3.type = tf ∧ f3.offset = 2
 i : P.underlying ti = some (.int .i64)
 n : P.underlying tn = some .string
 ss : P.underlying tss = some (.slice tn)
 rs : P.underlying trs = some (.slice tr)
 is : P.underlying tis = some (.slice ti)
 f : P.underlying tf = some (.float .f64)
 ci : P.cellsOf ti = 1
 cn : P.cellsOf tn = 1
 css : P.cellsOf tss = 1
 crs : P.cellsOf trs = 1
 cis : P.cellsOf tis = 1
 cf : P.cellsOf tf = 1
 cr : P.cellsOf tr = 3
 cg : P.cellsOf tg = 3
theorem AR.struct_inv {t : TypeId} {fs : Array Field} {cs : List Value} (h : AR P H t cs) (ht : P.underlying t = some (.struct fs)) : cs.length = P.cellsOf t ∧ ∀ (i : Nat) (f : Field), fs[i]? = some f → AR P H f.type ((cs.drop f.offset).take (P.cellsOf f.type)) := by
 cases h with
 | struct t fs' cs ht' hl hf =>
  rw [ht] at ht'; cases ht'
  exact ⟨hl, hf⟩
 | _ => simp_all
section
variable {tg tr ti tn tss trs tis tf : TypeId}
theorem AR.rule (T : GramT P tg tr ti tn tss trs tis tf) {cs : List Value} (h : AR P H tr cs) : ∃ (r : GRule) (p : Option Addr), cs = [.int .i64 r.left, .slice p r.right.length r.right.length, .float .f64 r.weight] ∧ RS (Value.int .i64) H p r.right ∧ inI r.left ∧ r.right.length ≤ maxL ∧ (∀ s ∈ r.right, inI s) ∧ r.weight < 2 ^ 64 := by
 obtain ⟨f1, f2, f3, e, a1, b1, a2, b2, a3, b3⟩ := T.r
 obtain ⟨hl, hf⟩ := h.struct_inv e
 rw [T.cr] at hl
 match cs, hl with
 | [x, y, z], _ =>
  have h1 := hf 0 f1 rfl
  have h2 := hf 1 f2 rfl
  have h3 := hf 2 f3 rfl
  rw [a1, b1, T.ci] at h1
  rw [a2, b2, T.cis] at h2
  rw [a3, b3, T.cf] at h3
  obtain ⟨n, e1, hn⟩ := h1.int_inv T.i
  obtain ⟨p, l, e2, hp, hl, hs⟩ := h2.ints T.is T.ci T.i
  obtain ⟨w, e3, hw⟩ := h3.float_inv T.f
  simp at e1 e2 e3
  subst e1 e2 e3
  exact ⟨⟨n, l, w⟩, p, rfl, hp, hn, hl, hs, hw⟩
theorem AR.rules (T : GramT P tg tr ti tn tss trs tis tf) {cs : List Value} (h : AR P H trs cs) : ∃ p l, cs = [.slice p l.length l.length] ∧ RR H p l ∧ l.length ≤ maxL ∧ ∀ r ∈ l, inI r.left ∧ (r.right.length ≤ maxL ∧ ∀ s ∈ r.right, inI s) ∧ r.weight < 2 ^ 64 := by
  rcases h.slice_inv T.rs with rfl | ⟨x, m, ds, rfl, hx, hm, he⟩
  · exact ⟨none, [], rfl, fun h => absurd rfl h, by simp, fun y hy => by cases hy⟩
  · obtain ⟨l, h1, h2⟩ := pick_list (Q := fun i (r : GRule) => (∃ p, ds[i * 3]? = some (.int .i64 r.left) ∧ ds[i * 3 + 1]? = some (.slice p r.right.length r.right.length) ∧ ds[i * 3 + 2]? = some (.float .f64 r.weight) ∧ RS (Value.int .i64) H p r.right) ∧ inI r.left ∧ (r.right.length ≤ maxL ∧ ∀ s ∈ r.right, inI s) ∧ r.weight < 2 ^ 64) m fun i hi' => by
      have h := he i hi'
      rw [T.cr] at h
      obtain ⟨r, p, e, hp, q1, q2, q3, q4⟩ := AR.rule T h
      have g : ∀ j, j < 3 → ds[i * 3 + j]? = ((ds.drop (i * 3)).take 3)[j]? := fun j hj => by rw [List.getElem?_take, if_pos hj, List.getElem?_drop]
      refine ⟨r, ⟨p, ?_, ?_, ?_, hp⟩, q1, ⟨q2, q3⟩, q4⟩
      · have := g 0 (by omega); rw [e] at this; simpa using this
      · have := g 1 (by omega); rw [e] at this; simpa using this
      · have := g 2 (by omega); rw [e] at this; simpa using this
    subst h1
    refine ⟨_, l, rfl, fun _ => ⟨x, 0, ds, tr, false, rfl, hx, fun i r e => ?_⟩, hm, fun r hr => ?_⟩
    · obtain ⟨⟨p, c0, c1, c2, c3⟩, _⟩ := h2 i r e
      exact ⟨p, by rw [Nat.zero_add]; exact c0, by rw [Nat.zero_add]; exact c1, by rw [Nat.zero_add]; exact c2, c3⟩
    · obtain ⟨i, hi', rfl⟩ := List.getElem_of_mem hr
      exact (h2 i _ (List.getElem?_eq_getElem hi')).2
theorem ARV.gram (T : GramT P tg tr ti tn tss trs tis tf) {v : Value} (ha : aggT P tg = some true) (h : ARV P H tg v) : ∃ g, RG H v g ∧ WG g := by
 obtain ⟨h1, h2, _⟩ := h
 obtain ⟨cs, rfl⟩ := h2 ha
 obtain ⟨f1, f2, f3, e, a1, b1, a2, b2, a3, b3⟩ := T.g
 have hvc : vcells (.agg cs) = cs.toList := rfl
 rw [hvc] at h1
 obtain ⟨hl, hf⟩ := h1.struct_inv e
 rw [T.cg] at hl
 obtain ⟨cs⟩ := cs
 simp only at hl hf
 match cs, hl with
 | [x, y, z], _ =>
  have h1 := hf 0 f1 rfl
  have h2 := hf 1 f2 rfl
  have h3 := hf 2 f3 rfl
  rw [a1, b1, T.css] at h1
  rw [a2, b2, T.css] at h2
  rw [a3, b3, T.crs] at h3
  obtain ⟨pt, lt, e1, ht, ht1, ht2⟩ := h1.strs T.ss T.cn T.n
  obtain ⟨pv, lv, e2, hv, hv1, hv2⟩ := h2.strs T.ss T.cn T.n
  obtain ⟨pr, lr, e3, hr, hr1, hr2⟩ := AR.rules T h3
  simp at e1 e2 e3
  subst e1 e2 e3
  refine ⟨⟨lt, lv, lr⟩, ⟨pt, pv, pr, rfl, ht, hv, hr⟩, ht1, hv1, hr1, fun r h => (hr2 r h).1, fun r h => (hr2 r h).2.1, fun r h => (hr2 r h).2.2, fun s hs => ?_⟩
  rcases List.mem_append.1 hs with hs | hs
  ·exact ht2 s hs
  ·exact hv2 s hs
end
theorem vcells_one {v : Value} (h : one v = true) : vcells v = [v] := by cases v <;> first | rfl | (simp [one] at h)
theorem ARV.intsI {v : Value} {t e : TypeId} (ht : P.underlying t = some (.slice e)) (hc : P.cellsOf e = 1) (he : P.underlying e = some (.int .i64)) (ha : aggT P t = some false) (h : ARV P H t v) :
  ∃ p l, v = .slice p l.length l.length ∧ RS (Value.int .i64) H p l ∧ l.length ≤ maxL ∧ ∀ y ∈ l, inI y := by
 obtain ⟨h1, _, h3⟩ := h
 obtain ⟨p, l, e', hp, hl, hs⟩ := h1.ints ht hc he
 refine ⟨p, l, ?_, hp, hl, hs⟩
 have ho := h3 ha
 rw [vcells_one ho] at e'
 simpa using e'
end Go.AM
namespace Go.AM
open Ieee
def Low (K : Int) (m : Nat) (e : Int) : Prop := m = 0 ∨ e + (m.log2 : Int) ≤ K
theorem Low.mono {K L : Int} {m : Nat} {e : Int} (h : Low K m e) (hl : K ≤ L) : Low L m e := by
 rcases h with h | h
 ·exact .inl h
 ·exact .inr (by omega)
theorem cut_even_le (neg : Bool) (n drop B : Nat) (h : n < B * 2 ^ drop) (hB : 0 < B) : Toward.cut .even neg n drop ≤ B := by
 unfold Toward.cut
 simp only
 have key : n / 1 <<< min drop (n.log2 + 2) < B := by
  rw [Nat.shiftLeft_eq, Nat.one_mul]
  rcases Nat.le_total drop (n.log2 + 2) with hd | hd
  ·rw [Nat.min_eq_left hd]
   exact (Nat.div_lt_iff_lt_mul (Nat.two_pow_pos _)).2 h
  ·rw [Nat.min_eq_right hd]
   have : n < 2 ^ (n.log2 + 2) := Nat.lt_of_lt_of_le Nat.lt_log2_self (Nat.pow_le_pow_right (by omega) (by omega))
   rw [Nat.div_eq_of_lt this]; exact hB
 have h1 : ∀ b : Bool, b.toNat ≤ 1 := fun b => by cases b <;> simp
 exact Nat.le_trans (Nat.add_le_add_left (h1 _) _) key
theorem low_write {K : Int} {s : Bool} {m : Nat} {e : Int} (h : Low K m e) (h0 : 0 ≤ K) (h1 : K ≤ 900) :
  ∃ m' e', Format.read double (Format.write double (.number s m e)) = .number s m' e' ∧ Low (K + 1) m' e' := by
 have rd : ∀ R : Nat, R ≤ (K + 1024).toNat * 2 ^ 52 → ∃ m' e', Format.read double (Format.word double s R) = .number s m' e' ∧ Low (K + 1) m' e' := by
  intro R hR
  have hK : (K + 1024).toNat ≤ 1924 := by omega
  have hR2 : R ≤ 1924 * 2 ^ 52 := Nat.le_trans hR (Nat.mul_le_mul_right _ hK)
  have hsw : Format.signWeight double = 2 ^ 63 := rfl
  have hbin : Format.binade double = 2 ^ 52 := rfl
  have hinf : Format.infRung double = 2047 * 2 ^ 52 := rfl
  have hlp : Format.leastPlace double = -1074 := rfl
  have hneg : (Format.word double s R / 2 ^ 63 % 2 == 1) = s := by
   unfold Format.word; rw [hsw]
   cases s
   ·simp only [Bool.false_eq_true, if_false]; rw [Nat.div_eq_of_lt (by omega)]; rfl
   ·simp only [if_true]; rw [show (2 ^ 63 + R) / 2 ^ 63 = 1 by omega]; rfl
  have hrung : Format.word double s R % 2 ^ 63 = R := by
   unfold Format.word; rw [hsw]
   cases s
   ·simp only [Bool.false_eq_true, if_false]; omega
   ·simp only [if_true]; omega
  unfold Format.read
  simp only [hsw, hbin, hinf, hlp, hneg, hrung]
  split
  ·rename_i hlt
   refine ⟨_, _, rfl, ?_⟩
   rcases Nat.eq_zero_or_pos R with e | e
   ·exact .inl e
   ·right
    have : R.log2 < 52 := (Nat.log2_lt (by omega)).2 hlt
    omega
  ·rename_i hge
   rw [if_pos (by omega)]
   refine ⟨_, _, rfl, .inr ?_⟩
   have hm : R % 2 ^ 52 < 2 ^ 52 := Nat.mod_lt _ (Nat.two_pow_pos _)
   have hl : (2 ^ 52 + R % 2 ^ 52).log2 < 53 := (Nat.log2_lt (by omega)).2 (by omega)
   have hq : R / 2 ^ 52 ≤ (K + 1024).toNat := by
    have := Nat.div_le_div_right (c := 2 ^ 52) hR
    rwa [Nat.mul_div_cancel _ (Nat.two_pow_pos _)] at this
   have hq1 : 1 ≤ R / 2 ^ 52 := by omega
   omega
 unfold Format.write Format.nearest
 simp only
 split
 ·exact rd 0 (Nat.zero_le _)
 rename_i hm
 have hL : e + (m.log2 : Int) ≤ K := by rcases h with h | h; exact absurd h hm; exact h
 have hlp : Format.leastPlace double = -1074 := rfl
 have hfb : ((Format.fractionBits double : Nat) : Int) = 52 := rfl
 have hbin : Format.binade double = 2 ^ 52 := rfl
 have hinf : Format.infRung double = 2047 * 2 ^ 52 := rfl
 rw [hlp, hfb, hbin, hinf]
 generalize hlast : max (e + (m.log2 : Int) - 52) (-1074) = last
 have hl1 : e + (m.log2 : Int) - 52 ≤ last := by omega
 have hl2 : last ≤ K - 52 ∨ last = -1074 := by omega
 have hl3 : -1074 ≤ last := by omega
 have hkept : Toward.cut .even s (m <<< (e - last).toNat) (last - e).toNat ≤ 2 ^ 53 := by
  refine cut_even_le _ _ _ _ ?_ (Nat.two_pow_pos _)
  rw [Nat.shiftLeft_eq, ← Nat.pow_add]
  have h2 : m < 2 ^ (m.log2 + 1) := Nat.lt_log2_self
  calc m * 2 ^ (e - last).toNat < 2 ^ (m.log2 + 1) * 2 ^ (e - last).toNat := Nat.mul_lt_mul_of_pos_right h2 (Nat.two_pow_pos _)
   _ = 2 ^ (m.log2 + 1 + (e - last).toNat) := by rw [← Nat.pow_add]
   _ ≤ 2 ^ (53 + (last - e).toNat) := Nat.pow_le_pow_right (by omega) (by omega)
 refine rd _ (Nat.le_trans (Nat.min_le_left _ _) ?_)
 have hpl : (last - -1074).toNat ≤ (K + 1022).toNat := by omega
 calc (last - -1074).toNat * 2 ^ 52 + Toward.cut .even s (m <<< (e - last).toNat) (last - e).toNat ≤ (K + 1022).toNat * 2 ^ 52 + 2 ^ 53 := Nat.add_le_add (Nat.mul_le_mul_right _ hpl) hkept
  _ = ((K + 1022).toNat + 2) * 2 ^ 52 := by rw [Nat.add_mul]
  _ ≤ (K + 1024).toNat * 2 ^ 52 := Nat.mul_le_mul_right _ (by omega)
theorem log2_mul_le {m n : Nat} (hm : m ≠ 0) (hn : n ≠ 0) : (m * n).log2 ≤ m.log2 + n.log2 + 1 := by
 have h1 : m < 2 ^ (m.log2 + 1) := Nat.lt_log2_self
 have h2 : n < 2 ^ (n.log2 + 1) := Nat.lt_log2_self
 have : m * n < 2 ^ (m.log2 + n.log2 + 2) := by
  calc m * n < 2 ^ (m.log2 + 1) * 2 ^ (n.log2 + 1) := Nat.mul_lt_mul'' h1 h2
   _ = 2 ^ (m.log2 + n.log2 + 2) := by rw [← Nat.pow_add]; congr 1; omega
 have := (Nat.log2_lt (Nat.mul_ne_zero hm hn)).2 this
 omega
theorem low_mul {K L : Int} {x y : Nat} {s t : Bool} {m n : Nat} {e j : Int} (hx : Format.read double x = .number s m e) (hy : Format.read double y = .number t n j) (h1 : Low K m e) (h2 : Low L n j) (h0 : 0 ≤ K + L + 1) (h9 : K + L + 1 ≤ 900) :
  ∃ r m' e', Format.mul double x y = some r ∧ Format.read double r = .number (s ^^ t) m' e' ∧ Low (K + L + 2) m' e' := by
 have hl : Low (K + L + 1) (m * n) (e + j) := by
  rcases Nat.eq_zero_or_pos m with hm | hm
  ·exact .inl (by simp [hm])
  rcases Nat.eq_zero_or_pos n with hn | hn
  ·exact .inl (by simp [hn])
  right
  have a : e + (m.log2 : Int) ≤ K := by rcases h1 with h | h; omega; exact h
  have b : j + (n.log2 : Int) ≤ L := by rcases h2 with h | h; omega; exact h
  have := log2_mul_le (m := m) (n := n) (by omega) (by omega)
  omega
 obtain ⟨m', e', h3, h4⟩ := low_write (s := s ^^ t) hl h0 h9
 exact ⟨_, m', e', by unfold Format.mul; rw [hx, hy]; rfl, h3, h4.mono (by omega)⟩
theorem signed_abs (s : Bool) (m up : Nat) : (signed s m up).natAbs = m * 2 ^ up := by
 unfold signed
 rw [Nat.shiftLeft_eq]
 cases s <;> simp [Int.natAbs_mul, Int.natAbs_pow]
theorem low_add {K : Int} {x y : Nat} {s t : Bool} {m n : Nat} {e j : Int} (hx : Format.read double x = .number s m e) (hy : Format.read double y = .number t n j) (h1 : Low K m e) (h2 : Low K n j) (h0 : 0 ≤ K) (h9 : K ≤ 899) :
  ∃ r s' m' e', Format.add double x y = some r ∧ Format.read double r = .number s' m' e' ∧ Low (K + 2) m' e' := by
 have part : ∀ (m : Nat) (e base : Int), Low K m e → base ≤ e → m * 2 ^ (e - base).toNat < 2 ^ (K + 1 - base).toNat ∨ m = 0 := by
  intro m e base h hb
  rcases Nat.eq_zero_or_pos m with hm | hm
  ·exact .inr hm
  left
  have a : e + (m.log2 : Int) ≤ K := by rcases h with h | h; omega; exact h
  have h2 : m < 2 ^ (m.log2 + 1) := Nat.lt_log2_self
  calc m * 2 ^ (e - base).toNat < 2 ^ (m.log2 + 1) * 2 ^ (e - base).toNat := Nat.mul_lt_mul_of_pos_right h2 (Nat.two_pow_pos _)
   _ = 2 ^ (m.log2 + 1 + (e - base).toNat) := by rw [← Nat.pow_add]
   _ ≤ 2 ^ (K + 1 - base).toNat := Nat.pow_le_pow_right (by omega) (by omega)
 generalize hb : min e j = base
 have hl : Low (K + 1) (signed s m (e - base).toNat + signed t n (j - base).toNat).natAbs base := by
  rcases Nat.eq_zero_or_pos (signed s m (e - base).toNat + signed t n (j - base).toNat).natAbs with h | h
  ·exact .inl h
  right
  have tri := Int.natAbs_add_le (signed s m (e - base).toNat) (signed t n (j - base).toNat)
  rw [signed_abs, signed_abs] at tri
  have hbound : (signed s m (e - base).toNat + signed t n (j - base).toNat).natAbs < 2 ^ ((K + 1 - base).toNat + 1) := by
   rw [Nat.pow_succ]
   have p1 := part m e base h1 (by omega)
   have p2 := part n j base h2 (by omega)
   have pos := Nat.two_pow_pos (K + 1 - base).toNat
   rcases p1 with p1 | p1 <;> rcases p2 with p2 | p2
   ·omega
   ·subst p2; simp only [Nat.zero_mul] at tri; omega
   ·subst p1; simp only [Nat.zero_mul] at tri; omega
   ·subst p1; subst p2; simp only [Nat.zero_mul] at tri; omega
  have := (Nat.log2_lt (by omega)).2 hbound
  have hK : 0 ≤ K + 1 - base := by
   apply Classical.byContradiction
   intro hc
   have p1 := part m e base h1 (by omega)
   have p2 := part n j base h2 (by omega)
   rw [show (K + 1 - base).toNat = 0 by omega] at p1 p2
   have q1 : m = 0 := by
    rcases p1 with p1 | p1
    ·have := Nat.two_pow_pos (e - base).toNat
     rcases Nat.eq_zero_or_pos m with h | h
     ·exact h
     ·have := Nat.mul_pos h this; omega
    ·exact p1
   have q2 : n = 0 := by
    rcases p2 with p2 | p2
    ·have := Nat.two_pow_pos (j - base).toNat
     rcases Nat.eq_zero_or_pos n with h | h
     ·exact h
     ·have := Nat.mul_pos h this; omega
    ·exact p2
   subst q1; subst q2; simp only [Nat.zero_mul] at tri; omega
  omega
 obtain ⟨m', e', h3, h4⟩ := low_write (s := if signed s m (e - base).toNat + signed t n (j - base).toNat = 0 then s && t else decide (signed s m (e - base).toNat + signed t n (j - base).toNat < 0)) hl (by omega) (by omega)
 refine ⟨_, _, m', e', ?_, h3, h4.mono (by omega)⟩
 unfold Format.add
 rw [hx, hy]
 simp only [Datum.sum, hb, Option.map_some]
theorem low_int {K : Int} {s : Bool} {m : Nat} {e : Int} (h : Low K m e) (h0 : 0 ≤ K) : ∃ z, Datum.toInt .zero (.number s m e) = some z ∧ z.natAbs < 2 ^ (K + 1).toNat := by
 refine ⟨_, rfl, ?_⟩
 rw [signed_abs, Nat.pow_zero, Nat.mul_one]
 unfold Toward.cut
 simp only [Bool.toNat_false, Nat.add_zero]
 have hn : m <<< e.toNat < 2 ^ (K + 1).toNat * 2 ^ (-e).toNat := by
  rw [Nat.shiftLeft_eq]
  rcases Nat.eq_zero_or_pos m with hm | hm
  ·subst hm; rw [Nat.zero_mul]; exact Nat.mul_pos (Nat.two_pow_pos _) (Nat.two_pow_pos _)
  have a : e + (m.log2 : Int) ≤ K := by rcases h with h | h; omega; exact h
  have h2 : m < 2 ^ (m.log2 + 1) := Nat.lt_log2_self
  calc m * 2 ^ e.toNat < 2 ^ (m.log2 + 1) * 2 ^ e.toNat := Nat.mul_lt_mul_of_pos_right h2 (Nat.two_pow_pos _)
   _ = 2 ^ (m.log2 + 1 + e.toNat) := by rw [← Nat.pow_add]
   _ ≤ 2 ^ ((K + 1).toNat + (-e).toNat) := Nat.pow_le_pow_right (by omega) (by omega)
   _ = _ := by rw [Nat.pow_add]
 generalize m <<< e.toNat = n at *
 rw [Nat.shiftLeft_eq, Nat.one_mul]
 rcases Nat.le_total (-e).toNat (n.log2 + 2) with hd | hd
 ·rw [Nat.min_eq_left hd]
  exact (Nat.div_lt_iff_lt_mul (Nat.two_pow_pos _)).2 hn
 ·rw [Nat.min_eq_right hd]
  have : n < 2 ^ (n.log2 + 2) := Nat.lt_of_lt_of_le Nat.lt_log2_self (Nat.pow_le_pow_right (by omega) (by omega))
  rw [Nat.div_eq_of_lt this]; exact Nat.two_pow_pos _
theorem low_order {x y : Nat} {m n : Nat} {e j : Int} (hx : Format.read double x = .number false m e) (hy : Format.read double y = .number false n j) (h : Format.order double x y = some .lt) : Low (j + (n.log2 : Int)) m e := by
 unfold Format.order at h
 rw [hx, hy] at h
 simp only [Datum.order, signed, Bool.false_eq_true, if_false, Option.some.injEq] at h
 rcases Nat.eq_zero_or_pos m with hm | hm
 ·exact .inl hm
 right
 generalize hb : min e j = base at h
 rw [Nat.shiftLeft_eq, Nat.shiftLeft_eq] at h
 have hlt : m * 2 ^ (e - base).toNat < n * 2 ^ (j - base).toNat := by
  have hi : ((m * 2 ^ (e - base).toNat : Nat) : Int) < ((n * 2 ^ (j - base).toNat : Nat) : Int) := by
   apply Classical.byContradiction
   intro hc
   simp only [compare, compareOfLessAndEq, if_neg hc] at h
   split at h <;> cases h
  omega
 have h1 : 2 ^ m.log2 ≤ m := Nat.log2_self_le (by omega)
 have h2 : n < 2 ^ (n.log2 + 1) := Nat.lt_log2_self
 have h3 : 2 ^ (m.log2 + (e - base).toNat) < 2 ^ (n.log2 + 1 + (j - base).toNat) := by
  calc 2 ^ (m.log2 + (e - base).toNat) = 2 ^ m.log2 * 2 ^ (e - base).toNat := by rw [Nat.pow_add]
   _ ≤ m * 2 ^ (e - base).toNat := Nat.mul_le_mul_right _ h1
   _ < n * 2 ^ (j - base).toNat := hlt
   _ ≤ 2 ^ (n.log2 + 1) * 2 ^ (j - base).toNat := Nat.mul_le_mul_right _ (Nat.le_of_lt h2)
   _ = 2 ^ (n.log2 + 1 + (j - base).toNat) := (Nat.pow_add 2 (n.log2 + 1) (j - base).toNat).symm
 have h4 := (Nat.pow_lt_pow_iff_right (a := 2) (by omega)).1 h3
 omega
theorem read_e9 : Format.read double 4741671816366391296 = .number false 8388608000000000 (-23) := by decide
theorem read_e6 : Format.read double 4696837146684686336 = .number false 8589934592000000 (-33) := by decide
theorem read_half : Format.read double 4602678819172646912 = .number false 4503599627370496 (-53) := by decide
theorem read_zero : Format.read double 0 = .number false 0 (-1074) := by decide
theorem read_neg {b : Nat} (hb : b < 2 ^ 64) : Format.read double (b ^^^ 2 ^ 63) = (Format.read double b).opposite := by
 have h1 : (b ^^^ 2 ^ 63) % 2 ^ 63 = b % 2 ^ 63 := by rw [Nat.xor_mod_two_pow]; simp
 have h2 : (b ^^^ 2 ^ 63) / 2 ^ 63 = (b / 2 ^ 63) ^^^ 1 := by rw [Nat.xor_div_two_pow]
 have hsw : Format.signWeight double = 2 ^ 63 := rfl
 have hneg : ((b ^^^ 2 ^ 63) / 2 ^ 63 % 2 == 1) = !(b / 2 ^ 63 % 2 == 1) := by
  rw [h2]
  have hq : b / 2 ^ 63 = 0 ∨ b / 2 ^ 63 = 1 := by omega
  rcases hq with hq | hq <;> rw [hq] <;> rfl
 unfold Format.read
 simp only [hsw, h1, hneg]
 split
 ·rfl
 ·split
  ·rfl
  ·split <;> rfl
theorem told_ok {a : Nat} (h : Format.order double a 4741671816366391296 = some .lt) (hs : ∀ m e, Format.read double a = .number true m e → m = 0) (hi : Format.read double a ≠ .infinity true) :
  ∃ r1 r2 z, Format.mul double a 4696837146684686336 = some r1 ∧ Format.add double r1 4602678819172646912 = some r2 ∧ (Format.read double r2).toInt .zero = some z ∧ z.natAbs < 2 ^ 60 := by
 have key : ∃ s m e, Format.read double a = .number s m e ∧ Low 29 m e := by
  cases hr : Format.read double a with
  | nan s t => unfold Format.order at h; rw [hr] at h; simp [Datum.order] at h
  | infinity s =>
   unfold Format.order at h
   rw [hr, read_e9] at h
   cases s
   ·simp [Datum.order] at h
   ·exact absurd hr hi
  | number s m e =>
   refine ⟨s, m, e, rfl, ?_⟩
   cases s with
   | true => exact .inl (hs m e hr)
   | false =>
    have := low_order hr read_e9 h
    exact this.mono (by decide)
 obtain ⟨s, m, e, h1, h2⟩ := key
 obtain ⟨r1, m1, e1, a1, a2, a3⟩ := low_mul h1 read_e6 h2 (L := 20) (.inr (by decide)) (by omega) (by omega)
 obtain ⟨r2, s2, m2, e2, b1, b2, b3⟩ := low_add a2 read_half (a3.mono (by omega : _ ≤ (52 : Int))) (.inr (by decide)) (by omega) (by omega)
 obtain ⟨z, c1, c2⟩ := low_int (s := s2) b3 (by omega)
 refine ⟨r1, r2, z, a1, b1, by rw [b2]; exact c1, Nat.lt_of_lt_of_le c2 (Nat.pow_le_pow_right (by omega) (by omega))⟩
theorem div_ok (k : Int) (hk : k.natAbs < 2 ^ 64) : ∃ q, Format.div double (FloatKind.nearest .f64 k) 4696837146684686336 = some q := by
 have hl : Low 64 k.natAbs 0 := by
  rcases Nat.eq_zero_or_pos k.natAbs with h | h
  ·exact .inl h
  ·have := (Nat.log2_lt (by omega)).2 hk
   exact .inr (by omega)
 obtain ⟨m, e, h1, h2⟩ := low_write (s := decide (k < 0)) hl (by omega) (by omega)
 have hd : ∃ d, Datum.quotient (double.fractionBits + 2) (Format.read double (Format.write double (.number (decide (k < 0)) k.natAbs 0))) (Format.read double 4696837146684686336) = some d := by
  rw [h1, read_e6]
  exact ⟨_, rfl⟩
 obtain ⟨d, hd⟩ := hd
 refine ⟨Format.write double d, ?_⟩
 show (Datum.quotient (double.fractionBits + 2) (Format.read double (Format.write double (.number (decide (k < 0)) k.natAbs 0))) (Format.read double 4696837146684686336)).map _ = _
 rw [hd]; rfl
theorem pos_ok {b : Nat} (h : Format.order double b 0 ≠ some .lt) : (∀ m e, Format.read double b = .number true m e → m = 0) ∧ Format.read double b ≠ .infinity true := by
 unfold Format.order at h
 rw [read_zero] at h
 constructor
 ·intro m e hr
  rw [hr] at h
  apply Classical.byContradiction
  intro hm
  apply h
  simp only [Datum.order, signed, Option.some.injEq]
  simp only [if_true, Bool.false_eq_true, if_false, Nat.zero_shiftLeft, Nat.shiftLeft_eq]
  have hp : 0 < m * 2 ^ (e - min e (-1074)).toNat := Nat.mul_pos (by omega) (Nat.two_pow_pos _)
  simp only [compare, compareOfLessAndEq]
  rw [if_pos (by omega)]
 ·intro hr
  rw [hr] at h
  exact h rfl
theorem neg_ok {b : Nat} (hb : b < 2 ^ 64) (h : Format.order double b 0 = some .lt) (h9 : Format.order double (b ^^^ 2 ^ 63) 4741671816366391296 = some .lt) :
  (∀ m e, Format.read double (b ^^^ 2 ^ 63) = .number true m e → m = 0) ∧ Format.read double (b ^^^ 2 ^ 63) ≠ .infinity true := by
 have hn := read_neg hb
 unfold Format.order at h
 rw [read_zero] at h
 constructor
 ·intro m e hr
  rw [hn] at hr
  cases hrb : Format.read double b with
  | nan s t => rw [hrb] at hr; cases hr
  | infinity s => rw [hrb] at hr; cases hr
  | number s m' e' =>
   rw [hrb] at hr h
   simp only [Datum.opposite, Datum.number.injEq, Bool.not_eq_true'] at hr
   obtain ⟨rfl, rfl, rfl⟩ := hr
   exfalso
   simp only [Datum.order, signed, Bool.false_eq_true, if_false, Option.some.injEq, Nat.zero_shiftLeft] at h
   generalize m' <<< (e' - min e' (-1074)).toNat = q at h
   simp only [compare, compareOfLessAndEq] at h
   rw [if_neg (by omega)] at h
   split at h <;> cases h
 ·intro hr
  rw [hn] at hr
  cases hrb : Format.read double b with
  | nan s t => rw [hrb] at hr; cases hr
  | number s m' e' => rw [hrb] at hr; cases hr
  | infinity s =>
   rw [hrb] at hr h
   cases s
   ·cases h
   ·cases hr
end Go.AM
namespace Go.AM
open Go.RowKit
variable {α : Type}
def sl (y : Nat) : Nat → Value
 | 0 => .slice none 0 0
 | m + 1 => .slice (some ⟨y, 0, none⟩) (m + 1 : Nat) (m + 1 : Nat)
def llcells (ys : Nat → Nat) (ls : List (List α)) : List Value := ls.mapIdx fun v l => sl (ys v) l.length
def upd (ys : Nat → Nat) (v y : Nat) : Nat → Nat := fun u => if u = v then y else ys u
structure LL (m : Nat) (H : Heap) (x ty ety : Nat) (enc : α → List Value) (ls : List (List α)) (ys : Nat → Nat) : Prop where
 hx : H x = .cells (llcells ys ls) ty true
 hy : ∀ v (h : v < ls.length), ls[v] ≠ [] → H (ys v) = .cells (ls[v].flatMap enc) ety true
 inj : ∀ u v (hu : u < ls.length) (hv : v < ls.length), ls[u] ≠ [] → ls[v] ≠ [] → ys u = ys v → u = v
 fy : ∀ v (h : v < ls.length), ls[v] ≠ [] → m ≤ ys v
 ne : ∀ v (h : v < ls.length), ls[v] ≠ [] → ys v ≠ x
section
variable {m n n' x ty ety : Nat} {H H' : Heap} {enc : α → List Value} {ls : List (List α)} {ys : Nat → Nat}
theorem live_lt (hw : WF n H) {z : Nat} (h : H z ≠ .dead) : z < n := by
 apply Classical.byContradiction
 intro hc
 exact h (hw z (by omega))
theorem live_of {z : Nat} {cs : List Value} {t : TypeId} {own : Bool} (h : H z = .cells cs t own) : H z ≠ .dead := by rw [h]; intro e; cases e
end
end Go.AM
namespace Go.AM
inductive Nul (g : Gram) : Int → Prop
 | mk (i : Nat) (h : i < g.rules.length) (h0 : ∀ s ∈ g.rules[i].right, 0 ≤ s) (h1 : ∀ s ∈ g.rules[i].right, Nul g s) : Nul g g.rules[i].left
inductive Prd (g : Gram) : Int → Prop
 | mk (i : Nat) (h : i < g.rules.length) (h1 : ∀ s ∈ g.rules[i].right, 0 ≤ s → Prd g s) : Prd g g.rules[i].left
inductive Der (rb : GRule → List Bool → Bool) (rules : List GRule) (hs : List Bool) : List Bool → Prop
 | refl : Der rb rules hs hs
 | step {h1 : List Bool} (d : Der rb rules hs h1) (r : GRule) (hr : r ∈ rules) (hb : rb r h1 = true) : Der rb rules hs (h1.set r.left.toNat true)
def nulB (right : List Int) (hs : List Bool) : Bool := right.all fun s => decide (0 ≤ s) && hs.getD s.toNat false
def prdB (right : List Int) (hs : List Bool) : Bool := right.all fun s => decide (s < 0) || hs.getD s.toNat false
structure InG (g : Gram) : Prop where
 left0 : ∀ r ∈ g.rules, 0 ≤ r.left
 left1 : ∀ r ∈ g.rules, r.left < g.vars.length
 right : ∀ r ∈ g.rules, ∀ s ∈ r.right, s < g.vars.length
 rightT : ∀ r ∈ g.rules, ∀ s ∈ r.right, s < 0 → -s - 1 < g.terms.length
def hold (hs : List Bool) (v : Int) : Prop := 0 ≤ v ∧ hs.getD v.toNat false = true
theorem hold_set {hs : List Bool} {w v : Int} (hw : 0 ≤ w) (h : hold (hs.set w.toNat true) v) : hold hs v ∨ v = w := by
 obtain ⟨h0, h⟩ := h
 rw [List.getD_eq_getElem?_getD, List.getElem?_set] at h
 by_cases e : w.toNat = v.toNat
 ·exact .inr (by omega)
 ·rw [if_neg e] at h
  exact .inl ⟨h0, by rwa [List.getD_eq_getElem?_getD]⟩
theorem nulB_hold {right : List Int} {hs : List Bool} : nulB right hs = true ↔ ∀ s ∈ right, hold hs s := by
 unfold nulB hold
 rw [List.all_eq_true]
 simp
theorem prdB_hold {right : List Int} {hs : List Bool} : prdB right hs = true ↔ ∀ s ∈ right, 0 ≤ s → hold hs s := by
 unfold prdB hold
 rw [List.all_eq_true]
 constructor
 ·intro h s hs h0
  have := h s hs
  simp at this
  exact ⟨h0, by rcases this with h | h; omega; simpa using h⟩
 ·intro h s hs
  rcases Int.lt_or_le s 0 with h0 | h0
  ·simp [h0]
  ·have := (h s hs h0).2
   simp at this
   simp [this]
theorem der_nul {g : Gram} (hg : InG g) {n : Nat} {hs : List Bool} (d : Der (fun r => nulB r.right) g.rules (List.replicate n false) hs) : ∀ v, hold hs v → Nul g v := by
 induction d with
 | refl =>
  intro v h
  exfalso
  have := h.2
  rw [List.getD_eq_getElem?_getD, List.getElem?_replicate] at this
  split at this <;> simp at this
 | step d r hr hb ih =>
  intro v h
  rcases hold_set (hg.left0 r hr) h with h | rfl
  ·exact ih v h
  ·obtain ⟨i, hi, rfl⟩ := List.getElem_of_mem hr
   exact .mk i hi (fun s hs => ((nulB_hold.1 hb) s hs).1) (fun s hs => ih s ((nulB_hold.1 hb) s hs))
theorem closed_nul {g : Gram} (hg : InG g) {hs : List Bool} (hc : ∀ r ∈ g.rules, hs.getD r.left.toNat false = true ∨ nulB r.right hs = false) : ∀ v, Nul g v → hold hs v := by
 intro v h
 induction h with
 | mk i h h0 h1 ih =>
  have hm := List.getElem_mem h
  rcases hc _ hm with e | e
  ·exact ⟨hg.left0 _ hm, e⟩
  ·rw [nulB_hold.2 fun s hs => ih s hs] at e; cases e
theorem der_prd {g : Gram} (hg : InG g) {n : Nat} {hs : List Bool} (d : Der (fun r => prdB r.right) g.rules (List.replicate n false) hs) : ∀ v, hold hs v → Prd g v := by
 induction d with
 | refl =>
  intro v h
  exfalso
  have := h.2
  rw [List.getD_eq_getElem?_getD, List.getElem?_replicate] at this
  split at this <;> simp at this
 | step d r hr hb ih =>
  intro v h
  rcases hold_set (hg.left0 r hr) h with h | rfl
  ·exact ih v h
  ·obtain ⟨i, hi, rfl⟩ := List.getElem_of_mem hr
   exact .mk i hi (fun s hs h0 => ih s ((prdB_hold.1 hb) s hs h0))
theorem closed_prd {g : Gram} (hg : InG g) {hs : List Bool} (hc : ∀ r ∈ g.rules, hs.getD r.left.toNat false = true ∨ prdB r.right hs = false) : ∀ v, Prd g v → hold hs v := by
 intro v h
 induction h with
 | mk i h h1 ih =>
  have hm := List.getElem_mem h
  rcases hc _ hm with e | e
  ·exact ⟨hg.left0 _ hm, e⟩
  ·rw [prdB_hold.2 fun s hs h0 => ih s hs h0] at e; cases e
structure Edg (g : Gram) (v : Int) (i at_ : Nat) (u : Int) : Prop where
 hi : i < g.rules.length
 left : g.rules[i].left = v
 hat : g.rules[i].right[at_]? = some u
 u0 : 0 ≤ u
 nul : ∀ q, q < at_ → ∀ s, g.rules[i].right[q]? = some s → Nul g s
def Beg (g : Gram) (v u : Int) : Prop := ∃ i at_, Edg g v i at_ u
inductive Rch (g : Gram) (v : Int) : Int → Prop
 | one {u : Int} (h : Beg g v u) : Rch g v u
 | more {u w : Int} (h : Rch g v u) (k : Beg g u w) : Rch g v w
end Go.AM
namespace Go.AM
structure GoodRow (g : Gram) (v : Nat) (r : List Bool) : Prop where
 len : r.length = g.vars.length
 mem : ∀ u : Nat, r[u]? = some true ↔ Rch g v u
structure Work (g : Gram) (v : Nat) (r : List Bool) (todo : List Nat) (busy : Nat → Prop) : Prop where
 sound : ∀ u : Nat, r[u]? = some true → Rch g v u
 known : ∀ u, u ∈ todo → u = v ∨ r[u]? = some true
 closed : ∀ u : Nat, u = v ∨ r[u]? = some true → u ∈ todo ∨ busy u ∨ ∀ w : Nat, Beg g u w → r[w]? = some true
end Go.AM
namespace Go.AM
structure RoundTo (rb : GRule → List Bool → Bool) (rules : List GRule) (k : Nat) (hs nx : List Bool) : Prop where
 len : nx.length = hs.length
 mem : ∀ v : Nat, v < hs.length → (nx.getD v false = true ↔ hs.getD v false = true ∨ ∃ i, ∃ h : i < rules.length, i < k ∧ rules[i].left = v ∧ rb rules[i] hs = true)
end Go.AM
namespace Go.AM
def neg (s : Int) : Bool := decide (s < 0)
theorem takeWhile_neg {l : List Int} {s : Int} (h : s ∈ l.takeWhile neg) : s < 0 := by
 induction l with
 | nil => simp at h
 | cons a l ih =>
  rw [List.takeWhile_cons] at h
  split at h
  ·rename_i ha
   rcases List.mem_cons.1 h with rfl | h
   ·simpa [neg] using ha
   ·exact ih h
  ·simp at h
def stepS (g : Gram) (form : List Int) (r : Int) : List Int × Nat :=
 if r < 0 ∨ (g.rules.length : Int) ≤ r then ([], 12) else
 match form.dropWhile neg with
 | [] => ([], 13)
 | u :: rest => match g.rules[r.toNat]? with
  | some rule => if rule.left = u then (form.takeWhile neg ++ rule.right ++ rest, 0) else ([], 14)
  | none => ([], 12)
def replayS (g : Gram) : List Int → List Int → Nat → List Int × Nat × Nat
 | form, [], _ => (form, 0, 0)
 | form, r :: rest, k => if (stepS g form r).2 = 0 then replayS g (stepS g form r).1 rest (k + 1) else ([], k, (stepS g form r).2)
def replayL (g : Gram) (form rules : List Int) : List Int × Nat × Nat := if 4096 < rules.length then ([], 0, 7) else replayS g form rules 0
theorem stepS_ok {g : Gram} {form form' : List Int} {r : Int} (h : stepS g form r = (form', 0)) : ∃ (i : Nat) (hi : i < g.rules.length) (t rest : List Int), r = i ∧ form = t ++ g.rules[i].left :: rest ∧ form' = t ++ g.rules[i].right ++ rest ∧ (∀ s ∈ t, s < 0) := by
 unfold stepS at h
 split at h
 ·simp at h
 ·rename_i hr
  split at h
  ·simp at h
  ·rename_i u rest hd
   split at h
   ·rename_i rule hrule
    split at h
    ·rename_i hl
     simp at h
     obtain ⟨hi, e⟩ := List.getElem?_eq_some_iff.1 hrule
     refine ⟨r.toNat, hi, form.takeWhile neg, rest, by omega, ?_, ?_, fun s hs => ?_⟩
     ·rw [e, hl, ← hd, List.takeWhile_append_dropWhile]
     ·rw [← h, e, List.append_assoc]
     ·exact takeWhile_neg hs
    ·simp at h
   ·simp at h
def layS (done pend : List Int) : List Int × List Int := (done ++ pend.takeWhile neg, pend.dropWhile neg)
theorem layS_form (done pend : List Int) : (layS done pend).1 ++ (layS done pend).2 = done ++ pend := by
 unfold layS
 rw [List.append_assoc, List.takeWhile_append_dropWhile]
structure Laid (done pend : List Int) : Prop where
 done : ∀ s ∈ done, s < 0
 pend : ∀ s, pend[0]? = some s → 0 ≤ s
theorem layS_laid {done pend : List Int} (h : ∀ s ∈ done, s < 0) : Laid (layS done pend).1 (layS done pend).2 := by
 refine ⟨fun s hs => ?_, fun s hs => ?_⟩
 ·unfold layS at hs
  rcases List.mem_append.1 hs with hs | hs
  ·exact h s hs
  ·exact takeWhile_neg hs
 ·unfold layS at hs
  simp only at hs
  have := List.head?_dropWhile_not neg pend
  rw [List.head?_eq_getElem?, hs] at this
  simpa [neg] using this
theorem Laid.takeWhile {done pend : List Int} (h : Laid done pend) : (done ++ pend).takeWhile neg = done ∧ (done ++ pend).dropWhile neg = pend := by
 obtain ⟨h1, h2⟩ := h
 induction done with
 | nil =>
  cases pend with
  | nil => exact ⟨rfl, rfl⟩
  | cons s pend =>
   have := h2 s (by simp)
   have e : neg s = false := by simp [neg]; exact this
   simp [List.takeWhile_cons, List.dropWhile_cons, e]
 | cons d done ih =>
  have hd := h1 d (by simp)
  have e : neg d = true := by simp [neg]; exact hd
  obtain ⟨a, b⟩ := ih (fun s hs => h1 s (by simp [hs]))
  simp only [List.cons_append, List.takeWhile_cons, List.dropWhile_cons, e, if_true]
  exact ⟨by rw [a], b⟩
end Go.AM
namespace Go.AM
def farN : Nat := 1073741824
inductive WdL (g : Gram) : List Int → Nat → Prop
 | nil : WdL g [] 0
 | term {s : Int} {rest : List Int} {n : Nat} (h : s < 0) (k : WdL g rest n) : WdL g (s :: rest) (n + 1)
 | var {i : Nat} (h : i < g.rules.length) {rest : List Int} {a b : Nat} (x : WdL g g.rules[i].right a) (k : WdL g rest b) : WdL g (g.rules[i].left :: rest) (a + b)
def sumC (c : Nat → Nat) : List Int → Nat
 | [] => 0
 | s :: rest => (if s < 0 then 1 else c s.toNat) + sumC c rest
def priceA (c : Nat → Nat) (d : Nat → Bool) : Nat → List Int → Option Nat
 | n, [] => some n
 | n, s :: rest => if s < 0 then priceA c d (n + 1) rest else if d s.toNat then priceA c d (min (n + c s.toNat) farN) rest else none
def allDone (d : Nat → Bool) (l : List Int) : Prop := ∀ s ∈ l, 0 ≤ s → d s.toNat = true
theorem priceA_some {c : Nat → Nat} {d : Nat → Bool} : ∀ (l : List Int) (n m : Nat), priceA c d n l = some m → allDone d l ∧ (m < farN → m = n + sumC c l) := by
 intro l
 induction l with
 | nil => intro n m h; simp [priceA] at h; subst h; exact ⟨(fun s hs => by cases hs), fun _ => by simp [sumC]⟩
 | cons s l ih =>
  intro n m h
  simp only [priceA] at h
  split at h
  ·rename_i hs
   obtain ⟨h1, h2⟩ := ih _ _ h
   refine ⟨fun t ht h0 => ?_, fun hm => ?_⟩
   ·rcases List.mem_cons.1 ht with rfl | ht
    ·omega
    ·exact h1 t ht h0
   ·rw [h2 hm, sumC, if_pos hs]; omega
  ·rename_i hs
   split at h
   ·rename_i hd
    obtain ⟨h1, h2⟩ := ih _ _ h
    refine ⟨fun t ht h0 => ?_, fun hm => ?_⟩
    ·rcases List.mem_cons.1 ht with rfl | ht
     ·exact hd
     ·exact h1 t ht h0
    ·have := h2 hm
     rw [sumC, if_neg hs]; omega
   ·cases h
theorem priceA_of {c : Nat → Nat} {d : Nat → Bool} : ∀ (l : List Int) (n : Nat), allDone d l → n + sumC c l < farN → priceA c d n l = some (n + sumC c l) := by
 intro l
 induction l with
 | nil => intro n _ _; simp [priceA, sumC]
 | cons s l ih =>
  intro n hd hf
  have hd' : allDone d l := fun t ht => hd t (by simp [ht])
  simp only [priceA]
  rw [sumC] at hf ⊢
  split
  ·rename_i hs
   rw [if_pos hs] at hf
   rw [ih _ hd' (by omega)]
   congr 1; omega
  ·rename_i hs
   rw [if_neg hs] at hf
   rw [if_pos (hd s (by simp) (by omega)), Nat.min_eq_left (by omega), ih _ hd' (by omega)]
   congr 1; omega
inductive Ranked (g : Gram) (c : Nat → Nat) (best : Nat → Int) : List Nat → Prop
 | nil : Ranked g c best []
 | snoc {l : List Nat} {v i : Nat} (h : Ranked g c best l) (hv : v ∉ l) (hi : i < g.rules.length) (hb : best v = (i : Int)) (hl : g.rules[i].left = (v : Int)) (hr : ∀ s ∈ g.rules[i].right, 0 ≤ s → s.toNat ∈ l) (hc : c v = sumC c g.rules[i].right) (hf : c v < farN) : Ranked g c best (l ++ [v])
structure Dij (g : Gram) (c : Nat → Nat) (d : Nat → Bool) : Prop where
 least : ∀ v k, v < g.vars.length → d v = true → WdL g [(v : Int)] k → c v ≤ k
 relax : ∀ i (h : i < g.rules.length), d g.rules[i].left.toNat = false → allDone d g.rules[i].right → sumC c g.rules[i].right < farN → c g.rules[i].left.toNat ≤ sumC c g.rules[i].right
theorem Dij.bound {g : Gram} (hg : InG g) {c : Nat → Nat} {d : Nat → Bool} (h : Dij g c d) {m : Nat} (hm : ∀ v, v < g.vars.length → d v = false → m ≤ c v) (hf : m ≤ farN) :
    ∀ (l : List Int) (n : Nat), WdL g l n → (∀ s ∈ l, s < g.vars.length) → (∃ s ∈ l, 0 ≤ s ∧ d s.toNat = false) ∧ m ≤ n ∨ allDone d l ∧ sumC c l ≤ n := by
  intro l n hw
  induction hw with
  | nil => intro _; exact .inr ⟨(fun s hs => by cases hs), by simp [sumC]⟩
  | @term s rest n hs k ih =>
    intro hl
    rcases ih (fun t ht => hl t (by simp [ht])) with ⟨⟨t, ht, h0, h1⟩, h2⟩ | ⟨h1, h2⟩
    · exact .inl ⟨⟨t, by simp [ht], h0, h1⟩, by omega⟩
    · refine .inr ⟨fun t ht h0 => ?_, ?_⟩
      · rcases List.mem_cons.1 ht with rfl | ht
        · omega
        · exact h1 t ht h0
      · rw [sumC, if_pos hs]; omega
  | @var i hi rest a b x k ihx ihk =>
    intro hl
    have hm' := List.getElem_mem hi
    have hl0 := hg.left0 _ hm'
    have hl1 := hg.left1 _ hm'
    by_cases hd : d g.rules[i].left.toNat = true
    · have hla : c g.rules[i].left.toNat ≤ a := by
        have := h.least g.rules[i].left.toNat a (by omega) hd
        rw [Int.toNat_of_nonneg hl0] at this
        exact this (by simpa using WdL.var hi x .nil)
      rcases ihk (fun t ht => hl t (by simp [ht])) with ⟨⟨t, ht, h0, h1⟩, h2⟩ | ⟨h1, h2⟩
      · exact .inl ⟨⟨t, by simp [ht], h0, h1⟩, by omega⟩
      · refine .inr ⟨fun t ht h0 => ?_, ?_⟩
        · rcases List.mem_cons.1 ht with rfl | ht
          · exact hd
          · exact h1 t ht h0
        · rw [sumC, if_neg (by omega)]; omega
    · have hd' : d g.rules[i].left.toNat = false := by simpa using hd
      refine .inl ⟨⟨_, by simp, hl0, hd'⟩, ?_⟩
      have hmc := hm _ (show g.rules[i].left.toNat < g.vars.length by omega) hd'
      rcases ihx (fun t ht => hg.right _ hm' t ht) with ⟨_, h2⟩ | ⟨h1, h2⟩
      · omega
      · by_cases hs : sumC c g.rules[i].right < farN
        · have := h.relax i hi hd' h1 hs
          omega
        · omega
end Go.AM
namespace Go.AM
theorem sumC_congr {c c' : Nat → Nat} {l : List Nat} (h : ∀ v, v ∈ l → c' v = c v) : ∀ r : List Int, (∀ s ∈ r, 0 ≤ s → s.toNat ∈ l) → sumC c' r = sumC c r := by
 intro r
 induction r with
 | nil => intro _; rfl
 | cons s r ih =>
  intro hr
  rw [sumC, sumC, ih fun t ht => hr t (by simp [ht])]
  by_cases hs : s < 0
  ·rw [if_pos hs, if_pos hs]
  ·rw [if_neg hs, if_neg hs, h _ (hr s (by simp) (by omega))]
theorem Ranked.congr {g : Gram} {c c' : Nat → Nat} {b b' : Nat → Int} {l : List Nat} (h : Ranked g c b l) : (∀ v, v ∈ l → c' v = c v ∧ b' v = b v) → Ranked g c' b' l := by
 induction h with
 | nil => intro _; exact .nil
 | @snoc l v i h hv hi hb hl hr hc hf ih =>
  intro e
  have e' : ∀ w, w ∈ l → c' w = c w ∧ b' w = b w := fun w hw => e w (by simp [hw])
  have ev := e v (by simp)
  refine .snoc (ih e') hv hi (by rw [ev.2]; exact hb) hl hr ?_ (by rw [ev.1]; exact hf)
  rw [ev.1, hc, sumC_congr (fun w hw => (e' w hw).1) _ hr]
theorem Ranked.nodup {g : Gram} {c : Nat → Nat} {b : Nat → Int} {l : List Nat} (h : Ranked g c b l) : l.Nodup := by
 induction h with
 | nil => exact List.nodup_nil
 | snoc h hv hi hb hl hr hc hf ih =>
  rw [List.nodup_append]
  refine ⟨ih, by simp, fun a ha x hx => ?_⟩
  simp at hx; subst hx
  rintro rfl; exact hv ha
theorem Ranked.lt {g : Gram} (hg : InG g) {c : Nat → Nat} {b : Nat → Int} {l : List Nat} (h : Ranked g c b l) : ∀ v, v ∈ l → v < g.vars.length := by
 induction h with
 | nil => intro v hv; cases hv
 | @snoc l v i h hv hi hb hl hr hc hf ih =>
  intro w hw
  rcases List.mem_append.1 hw with hw | hw
  ·exact ih w hw
  ·simp at hw; subst hw
   have := hg.left1 _ (List.getElem_mem hi)
   rw [hl] at this; omega
theorem nodup_le : ∀ (n : Nat) (l : List Nat), l.Nodup → (∀ v, v ∈ l → v < n) → l.length ≤ n := by
 intro n
 induction n with
 | zero =>
  intro l _ hl
  cases l with
  | nil => simp
  | cons a l => exact absurd (hl a (by simp)) (by omega)
 | succ n ih =>
  intro l hd hl
  have h1 := ih (l.erase n) (hd.erase n) (fun v hv => by
   have := (hd.mem_erase_iff).1 hv
   have := hl v this.2
   omega)
  by_cases hn : n ∈ l
  ·rw [List.length_erase_of_mem hn] at h1; omega
  ·rw [List.erase_of_not_mem hn] at h1; omega
theorem all_in {n : Nat} {l : List Nat} (hd : l.Nodup) (hl : ∀ v, v ∈ l → v < n) (hn : l.length = n) : ∀ v, v < n → v ∈ l := by
 intro v hv
 apply Classical.byContradiction
 intro hc
 have h1 : (v :: l).Nodup := List.nodup_cons.2 ⟨hc, hd⟩
 have h2 := nodup_le n (v :: l) h1 (fun w hw => by
  rcases List.mem_cons.1 hw with rfl | hw
  ·exact hv
  ·exact hl w hw)
 rw [List.length_cons] at h2
 omega
structure CInv (g : Gram) (c : Nat → Nat) (b : Nat → Int) (d : Nat → Bool) (ord : List Nat) (i : Nat) : Prop where
 ranked : Ranked g c b ord
 done : ∀ v, v < g.vars.length → (d v = true ↔ v ∈ ord)
 least : ∀ v k, v < g.vars.length → d v = true → WdL g [(v : Int)] k → c v ≤ k
 cap : ∀ v, v < g.vars.length → c v ≤ farN
 ach : ∀ v, v < g.vars.length → d v = false → c v < farN → ∃ i, ∃ h : i < g.rules.length, b v = (i : Int) ∧ g.rules[i].left = (v : Int) ∧ (∀ s ∈ g.rules[i].right, 0 ≤ s → s.toNat ∈ ord) ∧ c v = sumC c g.rules[i].right
 relax : ∀ j (h : j < g.rules.length), j < i → d g.rules[j].left.toNat = false → allDone d g.rules[j].right → sumC c g.rules[j].right < farN → c g.rules[j].left.toNat ≤ sumC c g.rules[j].right
section
variable {g : Gram} {c : Nat → Nat} {b : Nat → Int} {d : Nat → Bool} {ord : List Nat} {i : Nat}
theorem CInv.start (c : Nat → Nat) (b : Nat → Int) (d : Nat → Bool) (hc : ∀ v, v < g.vars.length → c v = farN) (hd : ∀ v, v < g.vars.length → d v = false) : CInv g c b d [] 0 :=
 ⟨.nil, fun v hv => by rw [hd v hv]; simp, fun v k hv e => (by rw [hd v hv] at e; cases e), fun v hv => by rw [hc v hv]; exact Nat.le_refl _, fun v hv _ h => by rw [hc v hv] at h; omega, fun j h hj => by omega⟩
theorem allDone_ord (h : CInv g c b d ord i) (hg : InG g) {r : GRule} (hr : r ∈ g.rules) : allDone d r.right ↔ ∀ s ∈ r.right, 0 ≤ s → s.toNat ∈ ord := by
 constructor
 ·intro ha s hs h0
  exact (h.done _ (by have := hg.right r hr s hs; omega)).1 (ha s hs h0)
 ·intro ha s hs h0
  exact (h.done _ (by have := hg.right r hr s hs; omega)).2 (ha s hs h0)
theorem CInv.skip (h : CInv g c b d ord i) (hi : i < g.rules.length) (hn : d g.rules[i].left.toNat = false → allDone d g.rules[i].right → sumC c g.rules[i].right < farN → c g.rules[i].left.toNat ≤ sumC c g.rules[i].right) : CInv g c b d ord (i + 1) :=
 ⟨h.ranked, h.done, h.least, h.cap, h.ach, fun j hj hji => by
  by_cases e : j = i
  ·subst e; exact hn
  ·exact h.relax j hj (by omega)⟩
theorem CInv.take (h : CInv g c b d ord i) (hg : InG g) (hi : i < g.rules.length) {l : Nat} (hl : g.rules[i].left = (l : Int)) (hd : d l = false) (ha : allDone d g.rules[i].right) {m : Nat} (hm : m = sumC c g.rules[i].right) (hf : m < farN) (hlt : m < c l)
  {c' : Nat → Nat} {b' : Nat → Int} (hc : ∀ v, c' v = if v = l then m else c v) (hb : ∀ v, b' v = if v = l then (i : Int) else b v) : CInv g c' b' d ord (i + 1) := by
 have hlv : l < g.vars.length := by have := hg.left1 _ (List.getElem_mem hi); omega
 have hlo : l ∉ ord := fun hc => by rw [(h.done l hlv).2 hc] at hd; cases hd
 have hne : ∀ v, v ∈ ord → c' v = c v ∧ b' v = b v := fun v hv => by
  have : v ≠ l := fun e => hlo (e ▸ hv)
  exact ⟨by rw [hc, if_neg this], by rw [hb, if_neg this]⟩
 have hle : ∀ v, c' v ≤ c v := fun v => by
  rw [hc]; split
  ·rename_i e; subst e; omega
  ·exact Nat.le_refl _
 have hs : ∀ r : List Int, (∀ s ∈ r, 0 ≤ s → s.toNat ∈ ord) → sumC c' r = sumC c r := fun r hr => sumC_congr (fun v hv => (hne v hv).1) r hr
 have hord := (allDone_ord h hg (List.getElem_mem hi)).1 ha
 refine ⟨h.ranked.congr hne, h.done, fun v k hv hdv hw => Nat.le_trans (hle v) (h.least v k hv hdv hw), fun v hv => Nat.le_trans (hle v) (h.cap v hv), fun v hv hdv hcv => ?_, fun j hj hji hdj haj hsj => ?_⟩
 ·by_cases e : v = l
  ·subst e
   refine ⟨i, hi, by rw [hb, if_pos rfl], hl, hord, ?_⟩
   rw [hc, if_pos rfl, hs _ hord, hm]
  ·rw [hc, if_neg e] at hcv
   obtain ⟨q, hq, e1, e2, e3, e4⟩ := h.ach v hv hdv hcv
   exact ⟨q, hq, by rw [hb, if_neg e]; exact e1, e2, e3, by rw [hc, if_neg e, hs _ e3, e4]⟩
 ·have hoj := (allDone_ord h hg (List.getElem_mem hj)).1 haj
  rw [hs _ hoj] at hsj ⊢
  by_cases e : j = i
  ·subst e
   have hlt' : g.rules[j].left.toNat = l := by omega
   rw [hlt', hc, if_pos rfl]; omega
  ·exact Nat.le_trans (hle _) (h.relax j hj (by omega) hdj haj hsj)
theorem CInv.dij (h : CInv g c b d ord g.rules.length) : Dij g c d := ⟨h.least, fun j hj => h.relax j hj hj⟩
theorem CInv.choose (h : CInv g c b d ord g.rules.length) (hg : InG g) {a : Nat} (ha : a < g.vars.length) (hd : d a = false) (hf : c a < farN) (hm : ∀ v, v < g.vars.length → d v = false → c a ≤ c v) {d' : Nat → Bool} (hd' : ∀ v, d' v = if v = a then true else d v) : CInv g c b d' (ord ++ [a]) 0 := by
 obtain ⟨i, hi, e1, e2, e3, e4⟩ := h.ach a ha hd hf
 have hao : a ∉ ord := fun hc => by rw [(h.done a ha).2 hc] at hd; cases hd
 refine ⟨.snoc h.ranked hao hi e1 e2 e3 e4 hf, fun v hv => ?_, fun v k hv hdv hw => ?_, h.cap, fun v hv hdv hcv => ?_, fun j hj hji => by omega⟩
 ·rw [hd', List.mem_append]
  split
  ·rename_i e; subst e; simp
  ·rename_i e
   rw [h.done v hv]; simp [e]
 ·by_cases e : v = a
  ·subst e
   rcases h.dij.bound hg hm (Nat.le_of_lt hf) _ _ hw (fun s hs => by simp at hs; omega) with ⟨_, h2⟩ | ⟨h1, _⟩
   ·exact h2
   ·have := h1 (v : Int) (by simp) (by omega)
    rw [Int.toNat_natCast, hd] at this; cases this
  ·rw [hd', if_neg e] at hdv
   exact h.least v k hv hdv hw
 ·have e : v ≠ a := by rintro rfl; rw [hd', if_pos rfl] at hdv; cases hdv
  rw [hd', if_neg e] at hdv
  obtain ⟨q, hq, f1, f2, f3, f4⟩ := h.ach v hv hdv hcv
  exact ⟨q, hq, f1, f2, fun s hs h0 => by simp [f3 s hs h0], f4⟩
structure CostOK (g : Gram) (c : Nat → Nat) (b : Nat → Int) : Prop where
 ranked : ∃ ord, Ranked g c b ord ∧ ∀ v, v < g.vars.length → v ∈ ord ∨ v ∉ ord ∧ c v = farN ∧ b v = -1
 least : ∀ v k, v < g.vars.length → WdL g [(v : Int)] k → c v ≤ k ∨ farN ≤ k ∧ c v = farN
theorem CInv.over (h : CInv g c b d ord i) (hg : InG g) (hx : i = g.rules.length ∧ (∀ v, v < g.vars.length → d v = false → farN ≤ c v) ∨ ord.length = g.vars.length) {c' : Nat → Nat} {b' : Nat → Int} (hc : ∀ v, v < g.vars.length → c' v = if d v then c v else farN) (hb : ∀ v, v < g.vars.length → b' v = if d v then b v else -1) : CostOK g c' b' := by
 have hr : Ranked g c' b' ord := h.ranked.congr fun v hv => by
  have hl := h.ranked.lt hg v hv
  have := (h.done v hl).2 hv
  rw [hc v hl, hb v hl, this]; exact ⟨rfl, rfl⟩
 refine ⟨⟨ord, hr, fun v hv => ?_⟩, fun v k hv hw => ?_⟩
 ·by_cases e : v ∈ ord
  ·exact .inl e
  ·refine .inr ⟨e, ?_⟩
   have hd : d v = false := by
    cases hdv : d v
    ·rfl
    ·exact absurd ((h.done v hv).1 hdv) e
   rw [hc v hv, hb v hv, hd]; exact ⟨rfl, rfl⟩
 ·cases hd : d v
  ·right
   rw [hc v hv, hd]
   refine ⟨?_, rfl⟩
   rcases hx with ⟨rfl, hx⟩ | hx
   ·rcases h.dij.bound hg (m := farN) hx (Nat.le_refl _) _ _ hw (fun s hs => by simp at hs; omega) with ⟨_, h2⟩ | ⟨h1, _⟩
    ·exact h2
    ·have := h1 (v : Int) (by simp) (by omega)
     rw [Int.toNat_natCast, hd] at this; cases this
   ·have := (h.done v hv).2 (all_in h.ranked.nodup (h.ranked.lt hg) hx v hv)
    rw [hd] at this; cases this
  ·left
   rw [hc v hv, hd]
   exact h.least v k hv hd hw
end
end Go.AM
namespace Go.AM
inductive Pre (g : Gram) (b : Nat → Int) : List Int → List Int → Prop
 | nil : Pre g b [] []
 | term {s : Int} {rest d : List Int} (h : s < 0) (k : Pre g b rest d) : Pre g b (s :: rest) d
 | var {i v : Nat} (hi : i < g.rules.length) (hb : b v = (i : Int)) (hl : g.rules[i].left = (v : Int)) {rest d1 d2 : List Int} (x : Pre g b g.rules[i].right d1) (k : Pre g b rest d2) : Pre g b ((v : Int) :: rest) ((i : Int) :: (d1 ++ d2))
inductive PreE (g : Gram) : List Int → List Int → Prop
 | nil : PreE g [] []
 | var {i : Nat} (hi : i < g.rules.length) {rest d1 d2 : List Int} (x : PreE g g.rules[i].right d1) (k : PreE g rest d2) : PreE g (g.rules[i].left :: rest) ((i : Int) :: (d1 ++ d2))
structure Slow (g : Gram) (F : Nat → Nat → Nat) : Prop where
 up : ∀ k v, F k v ≤ F (k + 1) v
 rule : ∀ k i (h : i < g.rules.length), k < g.vars.length → (∀ s ∈ g.rules[i].right, 0 ≤ s ∧ 1 ≤ F k s.toNat) → 1 + sumC (F k) g.rules[i].right ≤ F (k + 1) g.rules[i].left.toNat
end Go.AM
namespace Go.AM
inductive Usd (g : Gram) : Int → Prop
 | base (h : Prd g 0) : Usd g 0
 | step (i : Nat) (h : i < g.rules.length) (hu : Usd g g.rules[i].left) (hp : ∀ s ∈ g.rules[i].right, 0 ≤ s → Prd g s) {s : Int} (hs : s ∈ g.rules[i].right) (h0 : 0 ≤ s) : Usd g s
def UClosed (g : Gram) (ws o : List Bool) : Prop := ∀ r ∈ g.rules, hold o r.left → prdB r.right ws = true → ∀ s ∈ r.right, 0 ≤ s → hold o s
structure UWork (g : Gram) (ws r : List Bool) (todo : List Nat) (busy : Nat → Prop) : Prop where
 sound : ∀ u : Int, hold r u → Usd g u
 known : ∀ u, u ∈ todo → hold r (u : Nat)
 base : hold r 0
 closed : ∀ u : Nat, hold r u → u ∈ todo ∨ busy u ∨ ∀ q ∈ g.rules, q.left = (u : Int) → prdB q.right ws = true → ∀ s ∈ q.right, 0 ≤ s → hold r s
def RUr (ws o : List Bool) (r : GRule) (j : Nat) : Prop := hold o r.left → prdB r.right ws = true → ∀ (p : Nat) (s : Int), p < j → r.right[p]? = some s → 0 ≤ s → hold o s
structure RU (g : Gram) (ws o0 o : List Bool) (k j : Nat) : Prop where
 len : o.length = o0.length
 sound : ∀ v, hold o v → Usd g v
 mono : ∀ v, hold o0 v → hold o v
 stay : UClosed g ws o0 → ∀ v, hold o v → hold o0 v
 prog : (o = o0 ∧ (∀ (i : Nat) (h : i < g.rules.length), i < k → RUr ws o0 g.rules[i] g.rules[i].right.length) ∧ ∀ h : k < g.rules.length, RUr ws o0 g.rules[k] j) ∨ o0.count true < o.count true
section
variable {g : Gram} {ws o0 o : List Bool} {k j : Nat}
end
structure Least (g : Gram) (c : Nat → Nat) : Prop where
 cap : ∀ v, v < g.vars.length → c v ≤ farN
 rel : ∀ r ∈ g.rules, c r.left.toNat ≤ min (sumC c r.right) farN
structure BF (g : Gram) (c : Nat → Nat) (b : Nat → Int) (ord : List Nat) (o : Nat → Nat) (i k : Nat) : Prop where
 lo : ∀ v, v < g.vars.length → c v ≤ o v
 hi : ∀ v, v < g.vars.length → o v ≤ farN
 rank : ∀ p v, p < i → ord[p]? = some v → o v = c v
 cur : ∀ v q, ord[i]? = some v → q < k → b v = (q : Int) → o v = c v
section
variable {g : Gram} {c : Nat → Nat} {b : Nat → Int} {ord : List Nat} {o : Nat → Nat} {i k : Nat}
end
end Go.AM
namespace Go.AM
inductive PreW (g : Gram) (b : Nat → Int) : List Int → List Int → List Int → Prop
 | nil : PreW g b [] [] []
 | term {s : Int} {rest d w : List Int} (h : s < 0) (k : PreW g b rest d w) : PreW g b (s :: rest) d (s :: w)
 | var {i v : Nat} (hi : i < g.rules.length) (hb : b v = (i : Int)) (hl : g.rules[i].left = (v : Int)) {rest d1 d2 w1 w2 : List Int} (x : PreW g b g.rules[i].right d1 w1) (k : PreW g b rest d2 w2) : PreW g b ((v : Int) :: rest) ((i : Int) :: (d1 ++ d2)) (w1 ++ w2)
theorem step_at {g : Gram} (hg : InG g) {t rest : List Int} (ht : ∀ s ∈ t, s < 0) {i : Nat} (hi : i < g.rules.length) : stepS g (t ++ g.rules[i].left :: rest) (i : Int) = (t ++ g.rules[i].right ++ rest, 0) := by
 have h0 := hg.left0 _ (List.getElem_mem hi)
 have hn : AM.neg g.rules[i].left = false := by simp [AM.neg]; exact h0
 have ht' : ∀ s ∈ t, AM.neg s = true := fun s hs => by simp [AM.neg]; exact ht s hs
 have h1 : (t ++ g.rules[i].left :: rest).takeWhile AM.neg = t := by
  rw [List.takeWhile_append_of_pos ht', List.takeWhile_cons, hn]; simp
 have h2 : (t ++ g.rules[i].left :: rest).dropWhile AM.neg = g.rules[i].left :: rest := by
  rw [List.dropWhile_append_of_pos ht', List.dropWhile_cons, hn]; simp
 unfold stepS
 rw [if_neg (by omega), h1, h2]
 simp only [Int.toNat_natCast, List.getElem?_eq_getElem hi]
 rw [if_pos trivial]
open Classical in
noncomputable def szOf (g : Gram) (b : Nat → Int) (v : Nat) : Nat := if h : ∃ D, Pre g b [(v : Int)] D then (Classical.choose h).length else 0
def wideM : Nat := 1048576
structure WD (g : Gram) (b : Nat → Int) (ord : List Nat) (st : Nat → Nat) (i k : Nat) : Prop where
 rank : ∀ p v, p < i → ord[p]? = some v → st v = min (szOf g b v) wideM
 cur : ∀ v, ord[i]? = some v → v < k → st v = min (szOf g b v) wideM
section
variable {g : Gram} {c : Nat → Nat} {b : Nat → Int} {ord : List Nat} {st : Nat → Nat} {i k : Nat}
end
theorem WdL.prd {g : Gram} {l : List Int} {n : Nat} (h : WdL g l n) : ∀ s ∈ l, 0 ≤ s → Prd g s := by
 induction h with
 | nil => intro s hs; cases hs
 | term hs _ ih =>
  intro s h h0
  rcases List.mem_cons.1 h with rfl | h
  ·omega
  ·exact ih s h h0
 | @var i hi rest m n x k ihx ihk =>
  intro s h h0
  rcases List.mem_cons.1 h with rfl | h
  ·exact .mk i hi ihx
  ·exact ihk s h h0
theorem WdL.nul {g : Gram} {l : List Int} {n : Nat} (h : WdL g l n) : n = 0 → (∀ r ∈ g.rules, 0 ≤ r.left) → ∀ s ∈ l, 0 ≤ s ∧ Nul g s := by
 induction h with
 | nil => intro _ _ s hs; cases hs
 | term hs _ ih => intro h; omega
 | @var i hi rest m n x k ihx ihk =>
  intro h hl s hs
  rcases List.mem_cons.1 hs with rfl | hs
  ·exact ⟨hl _ (List.getElem_mem hi), .mk i hi (fun s hs => (ihx (by omega) hl s hs).1) fun s hs => (ihx (by omega) hl s hs).2⟩
  ·exact ihk (by omega) hl s hs
end Go.AM
namespace Go.AM
theorem tw_at {l : List Int} {j : Nat} (hj : j < l.length) (h : ∀ s ∈ l.take j, s < 0) (h0 : 0 ≤ l[j]) : l.takeWhile neg = l.take j ∧ l.dropWhile neg = l[j] :: l.drop (j + 1) := by
 induction l generalizing j with
 | nil => simp at hj
 | cons a l ih =>
  cases j with
  | zero =>
   have e : neg a = false := by simp [neg]; simpa using h0
   simp [e]
  | succ j =>
   have ha := h a (by simp)
   have e : neg a = true := by simp [neg]; exact ha
   obtain ⟨h1, h2⟩ := ih (j := j) (by simpa using hj) (fun s hs => h s (by simp [hs])) (by simpa using h0)
   simp only [List.takeWhile_cons, List.dropWhile_cons, e, if_true, h1, h2]
   exact ⟨rfl, by simp⟩
theorem tw_all {l : List Int} (h : ∀ s ∈ l, s < 0) : l.takeWhile neg = l ∧ l.dropWhile neg = [] := by
 induction l with
 | nil => exact ⟨rfl, rfl⟩
 | cons a l ih =>
  have e : neg a = true := by simp [neg]; exact h a (by simp)
  obtain ⟨h1, h2⟩ := ih fun s hs => h s (by simp [hs])
  simp only [List.takeWhile_cons, List.dropWhile_cons, e, if_true, h1, h2]
  exact ⟨trivial, trivial⟩
end Go.AM
namespace Go.AM
open Go.RowKit
section
variable {P : Program} {n : Nat} {H : Heap} {ts : Array TypeId} {e : TypeId} {j : Nat}
theorem agrow_eq (h : eapp P ts = some (e, j)) (s x : Value) : agrow P n H ts s x = match asrc H j x with
  | some (ys, rd, m) =>
   match s with
   | .slice none 0 0 => if m > bigN ∨ m = 0 then none else some { v := .slice (some ⟨n, 0, none⟩) m m, news := [.rows ys e true], rd := rd }
   | .slice (some ⟨y, 0, none⟩) len _ =>
    match H y with
    | .rows cs ty true =>
     if len + m ≤ bigN ∧ len * j = cs.length ∧ len ≠ 0 ∧ m ≠ 0 ∧ ty = e ∧ rd.contains y = false then
      some { v := .slice (some ⟨n, 0, none⟩) (len + m) (len + m), news := [.rows (cs ++ ys) e true], wr := some (y, .rows cs ty false), rd := rd } else none
    | _ => none
   | _ => none
  | none => none := by
 unfold eapp at h
 split at h
 case h_2 => cases h
 rename_i t u h0 h1
 split at h
 case h_2 => cases h
 rename_i elem ht
 split at h
 case h_2 => cases h
 rename_i jj zs du h2 h3 h4
 split at h
 case isTrue => cases h
 rename_i hc
 cases h
 unfold agrow
 simp only [h0, h1, ht, h2, h3, h4]
 rw [if_neg hc]
 rfl
theorem grow_nil (h : eapp P ts = some (e, j)) {y : Nat} {ys : List Value} {ty : TypeId} {own : Bool} (hy : H y = .cells ys ty own) (hl : ys.length = j) :
  agrow P n H ts (.slice none 0 0) (.slice (some ⟨y, 0, none⟩) 1 1) = some { v := .slice (some ⟨n, 0, none⟩) 1 1, news := [.rows ys e true], rd := [y] } := by
 rw [agrow_eq h]
 have : asrc H j (.slice (some ⟨y, 0, none⟩) 1 1) = some (ys, [y], 1) := by
  unfold asrc
  simp only [hy]
  rw [if_pos (by omega), List.drop_zero, List.take_of_length_le (by omega)]
 rw [this]
 simp only
 rw [if_neg (by unfold bigN; omega)]
theorem grow_some (h : eapp P ts = some (e, j)) {y z len c : Nat} {ys cs : List Value} {ty : TypeId} {own : Bool} (hy : H y = .cells ys ty own) (hl : ys.length = j) (hz : H z = .rows cs e true) (hc : len * j = cs.length) (h0 : len ≠ 0) (hb : len + 1 ≤ bigN) :
  agrow P n H ts (.slice (some ⟨z, 0, none⟩) len c) (.slice (some ⟨y, 0, none⟩) 1 1) = some { v := .slice (some ⟨n, 0, none⟩) (len + 1) (len + 1), news := [.rows (cs ++ ys) e true], wr := some (z, .rows cs e false), rd := [y] } := by
 rw [agrow_eq h]
 have : asrc H j (.slice (some ⟨y, 0, none⟩) 1 1) = some (ys, [y], 1) := by
  unfold asrc
  simp only [hy]
  rw [if_pos (by omega), List.drop_zero, List.take_of_length_le (by omega)]
 rw [this]
 simp only [hz]
 have hne : z ≠ y := by rintro rfl; rw [hy] at hz; cases hz
 rw [if_pos ⟨hb, hc, h0, by omega, trivial, by simp [hne]⟩]
theorem aop_look {ρ : Operand → Value} {d : Option Nat} {t : TypeId} {x k : Operand} {b : Bool} {ty : TypeId} {p : String} {af : Array Edge} {gd : Option (Nat × Bool)} :
  aop P ρ n H ⟨d, .lookup t x k b, ty, p, af, gd⟩ = alookup P t H (ρ x) (ρ k) b := rfl
theorem aop_mapset {ρ : Operand → Value} {d : Option Nat} {t : TypeId} {m k x : Operand} {ty : TypeId} {p : String} {af : Array Edge} {gd : Option (Nat × Bool)} :
  aop P ρ n H ⟨d, .mapUpdate t m k x, ty, p, af, gd⟩ = amapset P t H (ρ m) (ρ k) (ρ x) := rfl
def amake (P : Program) (n : Nat) (t : TypeId) : Option Res := match P.underlying t with
 | some (.map kt _) => some { v := .map (some n), news := [.map [] 0 kt] }
 | _ => none
theorem aop_makemap {ρ : Operand → Value} {d : Option Nat} {t : TypeId} {ty : TypeId} {p : String} {af : Array Edge} {gd : Option (Nat × Bool)} :
  aop P ρ n H ⟨d, .makeMap t none, ty, p, af, gd⟩ = amake P n t := rfl
end
theorem keyOf_3 {P : Program} {kt ti : TypeId} {fs : Array Field} (hu : P.underlying kt = some (.struct fs)) (hk : P.keyType kt = true) (hn : fs.all (·.name != "_") = true) (hs : 0 < P.types.size) (hti : P.underlying ti = some (.int .i64)) (hc : P.cellsOf ti = 1) (h3 : P.cellsOf kt = 3)
  (hf : fs.toList.map (fun f => (f.type, f.offset)) = [(ti, 0), (ti, 1), (ti, 2)]) {a b c : Int} (ha : (Lit.int .i64 a).wf = true) (hb : (Lit.int .i64 b).wf = true) (hcc : (Lit.int .i64 c).wf = true) : (keyOf P kt (.agg #[.int .i64 a, .int .i64 b, .int .i64 c])).isSome = true := by
 have hint : ∀ n : Int, (Lit.int .i64 n).wf = true → P.keyLits P.types.size ti [.int .i64 n] = some [.int .i64 n] := by
  intro n hw
  obtain ⟨d, hd⟩ : ∃ d, P.types.size = d + 1 := ⟨P.types.size - 1, by omega⟩
  rw [hd]
  unfold Program.keyLits
  simp only [hti]
  rw [if_pos ⟨trivial, hw⟩]
 have hm : (fs.toList.mapM fun f => P.keyLits P.types.size f.type ((([.int .i64 a, .int .i64 b, .int .i64 c] : List Value).drop f.offset).take (P.cellsOf f.type))) = some [[.int .i64 a], [.int .i64 b], [.int .i64 c]] := by
  have e : (fun f : Field => P.keyLits P.types.size f.type ((([.int .i64 a, .int .i64 b, .int .i64 c] : List Value).drop f.offset).take (P.cellsOf f.type))) = (fun p : TypeId × Nat => P.keyLits P.types.size p.1 ((([.int .i64 a, .int .i64 b, .int .i64 c] : List Value).drop p.2).take (P.cellsOf p.1))) ∘ (fun f : Field => (f.type, f.offset)) := rfl
  rw [e, ← List.mapM_map, hf]
  simp [hc, hint _ ha, hint _ hb, hint _ hcc]
 unfold keyOf
 rw [hu]
 simp only
 have hfm : Value.formed P kt (.agg #[.int .i64 a, .int .i64 b, .int .i64 c]) = true := by
  unfold Value.formed
  simp [hu, h3]
 rw [hk, hfm]
 have hl : P.keyLits (P.types.size + 1) kt [.int .i64 a, .int .i64 b, .int .i64 c] = some [.int .i64 a, .int .i64 b, .int .i64 c] := by
  unfold Program.keyLits
  simp only [hu]
  rw [if_pos ⟨by rw [h3]; rfl, hn⟩, hm]
  rfl
 show (Option.map _ (P.keyLits (P.types.size + 1) kt [.int .i64 a, .int .i64 b, .int .i64 c])).isSome = true
 rw [hl]
 rfl
def Sub (S H : Heap) : Prop := ∀ x, S x ≠ .dead → H x = S x
theorem Sub.at {S H : Heap} (h : Sub S H) {x : Nat} {cs : List Value} {ty : TypeId} {own : Bool} (e : S x = .cells cs ty own) : H x = .cells cs ty own := (h x (by rw [e]; intro h; cases h)).trans e
theorem Sub.kx {S H H' : Heap} {N n n' : Nat} (h : Sub S H) (hw : WF N S) (k : Kx (fun z => N ≤ z) n H n' H') (hn : N ≤ n) : Sub S H' := fun x hx => by
 have hlt : x < N := by
  apply Classical.byContradiction
  intro hc
  exact hx (hw x (by omega))
 exact (k.keep x (by omega) (by omega)).trans (h x hx)
theorem RA.sub {α : Type} {enc : α → Value} {S H : Heap} {a : Option Addr} {l : List α} (h : RA enc S a l) (hs : Sub S H) : RA enc H a l := fun hl => by
 obtain ⟨x, k, cs, ty, own, e1, e2, e3⟩ := h hl
 exact ⟨x, k, cs, ty, own, e1, hs.at e2, e3⟩
theorem RS.sub {α : Type} {enc : α → Value} {S H : Heap} {a : Option Addr} {l : List α} (h : RS enc S a l) (hs : Sub S H) : RS enc H a l := by
 rcases h with h | ⟨x, k, cs, ty, own, e1, e2, e3⟩
 ·exact .inl h
 ·exact .inr ⟨x, k, cs, ty, own, e1, hs.at e2, e3⟩
theorem RR.sub {S H : Heap} {a : Option Addr} {l : List GRule} (h : RR S a l) (hs : Sub S H) : RR H a l := fun hl => by
 obtain ⟨x, k, cs, ty, own, e1, e2, e3⟩ := h hl
 refine ⟨x, k, cs, ty, own, e1, hs.at e2, fun i r hi => ?_⟩
 obtain ⟨p, c1, c2, c3, c4⟩ := e3 i r hi
 exact ⟨p, c1, c2, c3, c4.sub hs⟩
theorem Sub.kp {S H H' : Heap} {n n' : Nat} (h : Sub S H) (hw : WF n H) (k : Kp n H n' H') : Sub S H' := fun x hx => by
 have hlt : x < n := by
  apply Classical.byContradiction
  intro hc
  have := h x hx
  rw [hw x (by omega)] at this
  exact hx this.symm
 exact (k.keep x hlt).trans (h x hx)
def RK (H H' : Heap) : Prop := ∀ z cs ty own, H z = .rows cs ty own → ∃ own', H' z = .rows cs ty own'
theorem RK.refl (H : Heap) : RK H H := fun _ _ _ own h => ⟨own, h⟩
theorem RK.trans {H H1 H2 : Heap} (a : RK H H1) (b : RK H1 H2) : RK H H2 := fun z cs ty own h => by
 obtain ⟨o1, h1⟩ := a z cs ty own h
 exact b z cs ty o1 h1
theorem RK.set {H : Heap} {x : Nat} {o : AObj} (h : ∀ cs ty own, H x ≠ .rows cs ty own) : RK H (hset H x o) := fun z cs ty own e => by
 by_cases hz : z = x
 ·subst hz; exact absurd e (h cs ty own)
 ·exact ⟨own, (hset_ne' _ _ _ hz).trans e⟩
theorem RK.own {H : Heap} {x : Nat} {cs : List Value} {ty : TypeId} {own own' : Bool} (e : H x = .rows cs ty own) : RK H (hset H x (.rows cs ty own')) := fun z cs2 ty2 own2 e2 => by
 by_cases hz : z = x
 ·subst hz
  rw [e] at e2
  cases e2
  exact ⟨own', by rw [hset_apply, if_pos rfl]⟩
 ·exact ⟨own2, (hset_ne' _ _ _ hz).trans e2⟩
theorem Kp.rk {n n' : Nat} {H H' : Heap} (k : Kp n H n' H') (hw : WF n H) : RK H H' := fun z cs ty own h => by
 have hz : z < n := by
  apply Classical.byContradiction
  intro hc
  rw [hw z (by omega)] at h; cases h
 exact ⟨own, (k.keep z hz).trans h⟩
end Go.AM
namespace Go.AM
abbrev It := Nat × Nat × Nat
def rgt (g : Gram) (r : Nat) : List Int := ((g.rules[r]?).map (·.right)).getD []
def lft (g : Gram) (r : Nat) : Int := ((g.rules[r]?).map (·.left)).getD 0
def nx (g : Gram) (x : It) : Option Int := (rgt g x.1)[x.2.1]?
def addI (l : List It) (x : It) : List It := if x ∈ l then l else l ++ [x]
def upI (x : It) : It := (x.1, x.2.1 + 1, x.2.2)
def begP (g : Gram) (gd : List Bool) (v : Int) (r : Nat) : Bool := decide (lft g r = v) && gd.getD r false
def beginN (g : Gram) (gd : List Bool) (v : Int) (at_ n : Nat) (l : List It) : List It := ((List.range n).filter (begP g gd v)).foldl (fun l r => addI l (r, 0, at_)) l
def beginL (g : Gram) (gd : List Bool) (v : Int) (at_ : Nat) (l : List It) : List It := beginN g gd v at_ g.rules.length l
def doneL (g : Gram) (left : Int) (ps l : List It) : List It := ps.foldl (fun l p => if nx g p = some left then addI l (upI p) else l) l
def stepC (g : Gram) (gd em : List Bool) (sets : List (List It)) (at_ : Nat) (l : List It) (x : It) : List It := match nx g x with
 | none => doneL g (lft g x.1) (if x.2.2 = at_ then l else sets.getD x.2.2 []) l
 | some y => if 0 ≤ y then (if em.getD y.toNat false then addI (beginL g gd y at_ l) (upI x) else beginL g gd y at_ l) else l
def closeC (g : Gram) (gd em : List Bool) (sets : List (List It)) (at_ : Nat) : Nat → List It → Nat → List It
 | 0, l, _ => l
 | k + 1, l, i => match l[i]? with
  | none => l
  | some x => closeC g gd em sets at_ k (stepC g gd em sets at_ l x) (i + 1)
def okI (g : Gram) (at_ : Nat) (x : It) : Prop := x.1 < g.rules.length ∧ x.2.1 ≤ (rgt g x.1).length ∧ x.2.2 ≤ at_
structure okL (g : Gram) (at_ : Nat) (l : List It) : Prop where
 nd : l.Nodup
 ok : ∀ x ∈ l, okI g at_ x
theorem okL.nil (g : Gram) (at_ : Nat) : okL g at_ [] := ⟨List.nodup_nil, fun x h => by cases h⟩
theorem okL.add {g : Gram} {at_ : Nat} {l : List It} (h : okL g at_ l) {x : It} (hx : okI g at_ x) : okL g at_ (addI l x) := by
 unfold addI
 split
 ·exact h
 ·rename_i hn
  refine ⟨?_, fun y hy => ?_⟩
  ·rw [List.nodup_append]
   exact ⟨h.nd, by simp, fun a ha b hb => by simp at hb; subst hb; intro e; subst e; exact hn ha⟩
  ·rcases List.mem_append.1 hy with h1 | h1
   ·exact h.ok y h1
   ·simp at h1; subst h1; exact hx
theorem addI_get {l : List It} {x : It} {i : Nat} {y : It} (h : l[i]? = some y) : (addI l x)[i]? = some y := by
 unfold addI
 split
 ·exact h
 ·rw [List.getElem?_append_left (by obtain ⟨h1, _⟩ := List.getElem?_eq_some_iff.1 h; exact h1)]; exact h
theorem okL.up {g : Gram} {at_ b : Nat} {l : List It} (h : okL g at_ l) (hb : at_ ≤ b) : okL g b l := ⟨h.nd, fun x hx => ⟨(h.ok x hx).1, (h.ok x hx).2.1, Nat.le_trans (h.ok x hx).2.2 hb⟩⟩
theorem nx_lt {g : Gram} {x : It} {y : Int} (h : nx g x = some y) : x.2.1 < (rgt g x.1).length := by
 unfold nx at h
 exact (List.getElem?_eq_some_iff.1 h).1
theorem okI.up {g : Gram} {at_ : Nat} {x : It} (h : okI g at_ x) {y : Int} (hn : nx g x = some y) : okI g at_ (upI x) := ⟨h.1, nx_lt hn, h.2.2⟩
theorem beginN_ok {g : Gram} {gd : List Bool} {v : Int} {at_ : Nat} {l : List It} (h : okL g at_ l) : ∀ n, n ≤ g.rules.length → okL g at_ (beginN g gd v at_ n l) := by
 intro n
 induction n with
 | zero => intro _; exact h
 | succ n ih =>
  intro hn
  have := ih (by omega)
  unfold beginN at this ⊢
  rw [List.range_succ, List.filter_append, List.foldl_append]
  cases hp : begP g gd v n with
  | false => simpa [hp] using this
  | true =>
   simp only [hp, List.filter_cons, List.filter_nil, if_true, List.foldl_cons, List.foldl_nil]
   exact this.add ⟨hn, Nat.zero_le _, Nat.le_refl _⟩
theorem beginN_succ {g : Gram} {gd : List Bool} {v : Int} {at_ : Nat} {l : List It} (n : Nat) : beginN g gd v at_ (n + 1) l = if begP g gd v n then addI (beginN g gd v at_ n l) (n, 0, at_) else beginN g gd v at_ n l := by
 unfold beginN
 rw [List.range_succ, List.filter_append, List.foldl_append]
 cases hp : begP g gd v n <;> simp [hp]
theorem beginN_from {g : Gram} {gd : List Bool} {v : Int} {at_ : Nat} {l : List It} : ∀ n, (∀ r, r < n → lft g r ≠ v) → beginN g gd v at_ n l = l := by
 intro n
 induction n with
 | zero => intro _; rfl
 | succ n ih =>
  intro h
  rw [beginN_succ, ih fun r hr => h r (by omega)]
  have : begP g gd v n = false := by unfold begP; simp [h n (by omega)]
  rw [this]; simp
theorem beginN_to {g : Gram} {gd : List Bool} {v : Int} {at_ : Nat} {l : List It} {k : Nat} : ∀ n, k ≤ n → (∀ r, k ≤ r → r < n → lft g r ≠ v) → beginN g gd v at_ n l = beginN g gd v at_ k l := by
  intro n
  induction n with
  | zero => intro hk _; have : k = 0 := by omega
            subst this; rfl
  | succ n ih =>
    intro hk h
    by_cases e : k = n + 1
    · subst e; rfl
    · rw [beginN_succ, ih (by omega) fun r h1 h2 => h r h1 (by omega)]
      have : begP g gd v n = false := by unfold begP; simp [h n (by omega) (by omega)]
      rw [this]; simp
theorem beginN_get {g : Gram} {gd : List Bool} {v : Int} {at_ : Nat} {l : List It} {i : Nat} {y : It} (h : l[i]? = some y) : ∀ n, (beginN g gd v at_ n l)[i]? = some y := by
 intro n
 induction n with
 | zero => exact h
 | succ n ih =>
  rw [beginN_succ]
  split
  ·exact addI_get ih
  ·exact ih
theorem doneL_snoc {g : Gram} {left : Int} {ps l : List It} {j : Nat} (hj : j < ps.length) : doneL g left (ps.take (j + 1)) l = if nx g ps[j] = some left then addI (doneL g left (ps.take j) l) (upI ps[j]) else doneL g left (ps.take j) l := by
 unfold doneL
 rw [List.take_succ_eq_append_getElem hj, List.foldl_append]
 rfl
theorem doneL_ok {g : Gram} {left : Int} {at_ : Nat} {l : List It} : ∀ (ps : List It), (∀ p ∈ ps, okI g at_ p) → okL g at_ l → okL g at_ (doneL g left ps l) := by
 intro ps
 induction ps generalizing l with
 | nil => intro _ h; exact h
 | cons p ps ih =>
  intro hp h
  unfold doneL
  rw [List.foldl_cons]
  refine ih (fun q hq => hp q (by simp [hq])) ?_
  split
  ·rename_i hn; exact h.add ((hp p (by simp)).up hn)
  ·exact h
theorem doneL_get {g : Gram} {left : Int} {i : Nat} {y : It} : ∀ (ps : List It) {l : List It}, l[i]? = some y → (doneL g left ps l)[i]? = some y := by
 intro ps
 induction ps with
 | nil => intro l h; exact h
 | cons p ps ih =>
  intro l h
  unfold doneL
  rw [List.foldl_cons]
  refine ih ?_
  split
  ·exact addI_get h
  ·exact h
theorem stepC_ok {g : Gram} {gd em : List Bool} {sets : List (List It)} {at_ : Nat} {l : List It} {x : It} (hs : ∀ i s, i < at_ → sets[i]? = some s → okL g i s) (h : okL g at_ l) (hx : okI g at_ x) : okL g at_ (stepC g gd em sets at_ l x) := by
 unfold stepC
 split
 ·refine doneL_ok _ (fun p hp => ?_) h
  split at hp
  ·exact h.ok p hp
  ·rename_i hne
   rw [List.getD_eq_getElem?_getD] at hp
   cases hq : sets[x.2.2]? with
   | none => rw [hq] at hp; cases hp
   | some s =>
    rw [hq] at hp
    have hlt : x.2.2 < at_ := by have := hx.2.2; omega
    exact ((hs _ s hlt hq).up (by omega)).ok p hp
 ·rename_i y hy
  split
  ·split
   ·exact (beginN_ok h _ (Nat.le_refl _)).add (hx.up hy)
   ·exact beginN_ok h _ (Nat.le_refl _)
  ·exact h
def allI (g : Gram) (at_ : Nat) : List It := (List.range g.rules.length).flatMap fun r => (List.range ((rgt g r).length + 1)).flatMap fun d => (List.range (at_ + 1)).map fun f => (r, d, f)
def bndI (g : Gram) (at_ : Nat) : Nat := (allI g at_).length
theorem nodup_sub_len {α : Type} [DecidableEq α] : ∀ (l m : List α), l.Nodup → (∀ x ∈ l, x ∈ m) → l.length ≤ m.length := by
 intro l
 induction l with
 | nil => intro m _ _; simp
 | cons x l ih =>
  intro m hn hs
  obtain ⟨a, b, rfl⟩ := List.append_of_mem (hs x (by simp))
  have hn' := List.nodup_cons.1 hn
  have := ih (a ++ b) hn'.2 fun y hy => by
   have h1 := hs y (by simp [hy])
   have hne : y ≠ x := by rintro rfl; exact hn'.1 hy
   simp only [List.mem_append, List.mem_cons] at h1 ⊢
   rcases h1 with h1 | h1 | h1
   ·exact .inl h1
   ·exact absurd h1 hne
   ·exact .inr h1
  simp only [List.length_append, List.length_cons] at this ⊢
  omega
theorem okL.len {g : Gram} {at_ : Nat} {l : List It} (h : okL g at_ l) : l.length ≤ bndI g at_ := by
 refine nodup_sub_len l _ h.nd fun x hx => ?_
 obtain ⟨h1, h2, h3⟩ := h.ok x hx
 unfold allI
 simp only [List.mem_flatMap, List.mem_range, List.mem_map]
 exact ⟨x.1, h1, x.2.1, by omega, x.2.2, by omega, rfl⟩
theorem flatMap_len {α β : Type} (f : α → List β) (m : Nat) : ∀ (l : List α), (∀ x ∈ l, (f x).length ≤ m) → (l.flatMap f).length ≤ l.length * m := by
 intro l
 induction l with
 | nil => intro _; simp
 | cons x l ih =>
  intro h
  have h1 := h x (by simp)
  have h2 := ih fun y hy => h y (by simp [hy])
  rw [List.flatMap_cons, List.length_append, List.length_cons, Nat.succ_mul]
  omega
theorem bndI_le {g : Gram} {at_ : Nat} (hr : g.rules.length ≤ 24) (hl : ∀ r ∈ g.rules, r.right.length ≤ 8) : bndI g at_ ≤ 216 * (at_ + 1) := by
 unfold bndI allI
 refine Nat.le_trans (flatMap_len _ (9 * (at_ + 1)) _ fun r hr => ?_) ?_
 ·refine Nat.le_trans (flatMap_len _ (at_ + 1) _ fun d hd => by simp) ?_
  rw [List.length_range]
  refine Nat.mul_le_mul_right _ ?_
  have h1 := List.mem_range.1 hr
  unfold rgt
  rw [List.getElem?_eq_getElem h1]
  have := hl _ (List.getElem_mem h1)
  simp only [Option.map_some, Option.getD_some]
  omega
 ·rw [List.length_range, show 216 * (at_ + 1) = 24 * (9 * (at_ + 1)) by omega]
  exact Nat.mul_le_mul_right _ hr
theorem closeC_end {g : Gram} {gd em : List Bool} {sets : List (List It)} {at_ : Nat} (k : Nat) {l : List It} {i : Nat} (h : l.length ≤ i) : closeC g gd em sets at_ k l i = l := by
 cases k with
 | zero => rfl
 | succ k => unfold closeC; rw [List.getElem?_eq_none h]
theorem closeC_ok {g : Gram} {gd em : List Bool} {sets : List (List It)} {at_ : Nat} (hs : ∀ i s, i < at_ → sets[i]? = some s → okL g i s) : ∀ (k : Nat) {l : List It} {i : Nat}, okL g at_ l → okL g at_ (closeC g gd em sets at_ k l i) := by
 intro k
 induction k with
 | zero => intro l i h; exact h
 | succ k ih =>
  intro l i h
  unfold closeC
  cases hx : l[i]? with
  | none => exact h
  | some x => exact ih (stepC_ok hs h (h.ok x (List.mem_of_getElem? hx)))
def closeL (g : Gram) (gd em : List Bool) (sets : List (List It)) (at_ : Nat) (l : List It) : List It := closeC g gd em sets at_ (bndI g at_) l 0
def pushL (g : Gram) (last : List It) (t : Int) : List It := last.foldl (fun l x => if 0 ≤ t ∧ nx g x = some (-t - 1) then addI l (upI x) else l) []
def lastS (sets : List (List It)) : List It := sets.getD (sets.length - 1) []
def pushS (g : Gram) (gd em : List Bool) (sets : List (List It)) (t : Int) : Option (List (List It)) := match pushL g (lastS sets) t with
 | [] => none
 | x :: l => some (sets ++ [closeL g gd em sets sets.length (x :: l)])
def newS (g : Gram) (gd em : List Bool) : List (List It) := [closeL g gd em [] 0 (beginL g gd 0 0 [])]
def accB (g : Gram) (sets : List (List It)) : Bool := (lastS sets).any fun x => (nx g x).isNone && decide (x.2.2 = 0) && decide (lft g x.1 = 0)
def accW (g : Gram) (gd em : List Bool) : List (List It) → List Int → Bool
 | s, [] => accB g s
 | s, t :: w => match pushS g gd em s t with
  | none => false
  | some s' => accW g gd em s' w
def okS (g : Gram) (sets : List (List It)) : Prop := sets ≠ [] ∧ ∀ i s, sets[i]? = some s → okL g i s
theorem pushL_snoc {g : Gram} {t : Int} {ps : List It} {j : Nat} (hj : j < ps.length) : pushL g (ps.take (j + 1)) t = if 0 ≤ t ∧ nx g ps[j] = some (-t - 1) then addI (pushL g (ps.take j) t) (upI ps[j]) else pushL g (ps.take j) t := by
 unfold pushL
 rw [List.take_succ_eq_append_getElem hj, List.foldl_append]
 rfl
theorem pushL_ok {g : Gram} {t : Int} {at_ : Nat} : ∀ (ps : List It), (∀ p ∈ ps, okI g at_ p) → okL g at_ (pushL g ps t) := by
 intro ps
 suffices ∀ (ps : List It) (l : List It), (∀ p ∈ ps, okI g at_ p) → okL g at_ l → okL g at_ (ps.foldl (fun l x => if 0 ≤ t ∧ nx g x = some (-t - 1) then addI l (upI x) else l) l) from fun h => this ps [] h (.nil g at_)
 intro ps
 induction ps with
 | nil => intro l _ h; exact h
 | cons p ps ih =>
  intro l hp h
  rw [List.foldl_cons]
  refine ih _ (fun q hq => hp q (by simp [hq])) ?_
  split
  ·rename_i hn; exact h.add ((hp p (by simp)).up hn.2)
  ·exact h
theorem lastS_ok {g : Gram} {sets : List (List It)} (h : okS g sets) : okL g (sets.length - 1) (lastS sets) := by
 have hl : sets.length - 1 < sets.length := by have := List.length_pos_iff.2 h.1; omega
 unfold lastS
 rw [List.getD_eq_getElem?_getD, List.getElem?_eq_getElem hl]
 exact h.2 _ _ (List.getElem?_eq_getElem hl)
theorem okS.push {g : Gram} {gd em : List Bool} {sets s' : List (List It)} {t : Int} (h : okS g sets) (hp : pushS g gd em sets t = some s') : okS g s' := by
 unfold pushS at hp
 split at hp
 ·cases hp
 ·rename_i x l hl
  cases hp
  refine ⟨by simp, fun i s hi => ?_⟩
  rcases Nat.lt_or_ge i sets.length with h1 | h1
  ·rw [List.getElem?_append_left h1] at hi; exact h.2 i s hi
  ·rw [List.getElem?_append_right h1] at hi
   cases hj : i - sets.length with
   | succ j => rw [hj] at hi; simp at hi
   | zero =>
    have : i = sets.length := by omega
    subst this
    rw [hj] at hi
    simp at hi
    subst hi
    refine closeC_ok (fun i s _ hi => h.2 i s hi) _ ?_
    rw [← hl]
    exact (pushL_ok _ ((lastS_ok h).up (Nat.sub_le _ _)).ok)
theorem okS.new {g : Gram} {gd em : List Bool} : okS g (newS g gd em) := by
 refine ⟨by simp [newS], fun i s hi => ?_⟩
 unfold newS at hi
 cases i with
 | succ i => simp at hi
 | zero =>
  simp at hi
  subst hi
  exact closeC_ok (fun i s hi => absurd hi (Nat.not_lt_zero _)) _ (beginN_ok (.nil g 0) _ (Nat.le_refl _))
theorem pushS_len {g : Gram} {gd em : List Bool} {sets s' : List (List It)} {t : Int} (hp : pushS g gd em sets t = some s') : s'.length = sets.length + 1 := by
 unfold pushS at hp
 split at hp
 ·cases hp
 ·cases hp; simp
end Go.AM
namespace Go.AM
abbrev Sp := Nat × It
def getM : List (Sp × Nat) → Sp → Option Nat
 | [], _ => none
 | e :: M, s => if e.1 = s then some e.2 else getM M s
def setM : List (Sp × Nat) → Sp → Nat → List (Sp × Nat)
 | [], s, n => [(s, n)]
 | e :: M, s, n => if e.1 = s then (e.1, n) :: M else e :: setM M s n
def allSp (sets : List (List It)) : List Sp := (List.range sets.length).flatMap fun a => (sets.getD a []).map fun x => (a, x)
def mu (sets : List (List It)) (M : List (Sp × Nat)) : Nat := ((allSp sets).map fun s => (getM M s).getD (farN + 1)).sum
def okM (M : List (Sp × Nat)) : Prop := ∀ s n, getM M s = some n → n < farN
structure Step (sets : List (List It)) (s t : List (Sp × Nat) × Bool) : Prop where
 le : mu sets t.1 ≤ mu sets s.1
 lt : t.2 = true → s.2 = true ∨ mu sets t.1 < mu sets s.1
 ok : okM s.1 → okM t.1
end Go.AM
namespace Go.AM
inductive Yd (g : Gram) : List Int → List Int → Prop
 | nil : Yd g [] []
 | term {s : Int} {rest w : List Int} (h : s < 0) (k : Yd g rest w) : Yd g (s :: rest) ((-s - 1) :: w)
 | var {i : Nat} (h : i < g.rules.length) {rest a b : List Int} (x : Yd g g.rules[i].right a) (k : Yd g rest b) : Yd g (g.rules[i].left :: rest) (a ++ b)
variable {g : Gram}
theorem Yd.append {a b u v : List Int} (h : Yd g a u) (k : Yd g b v) : Yd g (a ++ b) (u ++ v) := by
 induction h with
 | nil => exact k
 | term h _ ih => exact .term h ih
 | var h x _ _ ih => rw [List.cons_append, List.append_assoc]; exact .var h x ih
theorem Yd.one {i : Nat} (h : i < g.rules.length) {a : List Int} (x : Yd g g.rules[i].right a) : Yd g [g.rules[i].left] a := by
 have := Yd.var h x .nil
 rwa [List.append_nil] at this
theorem Yd.wd {l w : List Int} (h : Yd g l w) : WdL g l w.length := by
 induction h with
 | nil => exact .nil
 | term h _ ih => exact .term h ih
 | var h _ _ ih1 ih2 => rw [List.length_append]; exact .var h ih1 ih2
theorem Yd.prd {l w : List Int} (h : Yd g l w) : ∀ s ∈ l, 0 ≤ s → Prd g s := h.wd.prd
theorem Yd.nul (hg : InG g) {l : List Int} (h : Yd g l []) : ∀ s ∈ l, 0 ≤ s ∧ Nul g s := h.wd.nul rfl hg.left0
theorem Nul.yd {v : Int} (h : Nul g v) : Yd g [v] [] := by
 induction h with
 | mk i h h0 h1 ih =>
  refine .one h ?_
  suffices ∀ l : List Int, (∀ s ∈ l, Yd g [s] []) → Yd g l [] from this _ ih
  intro l
  induction l with
  | nil => intro _; exact .nil
  | cons s l ih2 => intro hl; exact (hl s (by simp)).append (ih2 fun t ht => hl t (by simp [ht]))
theorem Yd.pos {l w : List Int} (h : Yd g l w) : ∀ t ∈ w, 0 ≤ t := by
 induction h with
 | nil => intro t ht; cases ht
 | term h _ ih =>
  intro t ht
  rcases List.mem_cons.1 ht with rfl | ht
  ·omega
  ·exact ih t ht
 | var h _ _ ih1 ih2 =>
  intro t ht
  rcases List.mem_append.1 ht with ht | ht
  ·exact ih1 t ht
  ·exact ih2 t ht
def Proc (g : Gram) (gd em : List Bool) (sets : List (List It)) (at_ : Nat) (L : List It) (x : It) : Prop := ∃ l', ∀ y ∈ stepC g gd em sets at_ l' x, y ∈ L
theorem addI_mem {l : List It} {x y : It} : y ∈ addI l x ↔ y ∈ l ∨ y = x := by
 unfold addI
 split
 ·rename_i h
  constructor
  ·exact .inl
  ·rintro (h1 | rfl)
   ·exact h1
   ·exact h
 ·simp
theorem beginN_mem {gd : List Bool} {v : Int} {at_ : Nat} {l : List It} {y : It} : ∀ n, y ∈ beginN g gd v at_ n l ↔ y ∈ l ∨ ∃ r, r < n ∧ begP g gd v r = true ∧ y = (r, 0, at_) := by
 intro n
 induction n with
 | zero => simp [beginN]
 | succ n ih =>
  rw [beginN_succ]
  constructor
  ·intro h
   split at h
   ·rename_i hp
    rcases addI_mem.1 h with h | h
    ·rcases ih.1 h with h | ⟨r, h1, h2⟩
     ·exact .inl h
     ·exact .inr ⟨r, by omega, h2⟩
    ·exact .inr ⟨n, by omega, hp, h⟩
   ·rcases ih.1 h with h | ⟨r, h1, h2⟩
    ·exact .inl h
    ·exact .inr ⟨r, by omega, h2⟩
  ·intro h
   rcases h with h | ⟨r, h1, h2, h3⟩
   ·have := ih.2 (.inl h)
    split
    ·exact addI_mem.2 (.inl this)
    ·exact this
   ·by_cases e : r = n
    ·subst e
     rw [if_pos h2]; exact addI_mem.2 (.inr h3)
    ·have := ih.2 (.inr ⟨r, by omega, h2, h3⟩)
     split
     ·exact addI_mem.2 (.inl this)
     ·exact this
theorem doneL_mem {left : Int} : ∀ (ps : List It) {l : List It} {y : It}, y ∈ doneL g left ps l ↔ y ∈ l ∨ ∃ p ∈ ps, nx g p = some left ∧ y = upI p := by
 intro ps
 induction ps with
 | nil => intro l y; simp [doneL]
 | cons p ps ih =>
  intro l y
  unfold doneL
  rw [List.foldl_cons]
  rw [show (ps.foldl (fun l p => if nx g p = some left then addI l (upI p) else l) (if nx g p = some left then addI l (upI p) else l)) = doneL g left ps (if nx g p = some left then addI l (upI p) else l) from rfl, ih]
  by_cases hp : nx g p = some left
  ·rw [if_pos hp, addI_mem]
   constructor
   ·rintro ((h | h) | ⟨q, h1, h2⟩)
    ·exact .inl h
    ·exact .inr ⟨p, by simp, hp, h⟩
    ·exact .inr ⟨q, by simp [h1], h2⟩
   ·rintro (h | ⟨q, h1, h2, h3⟩)
    ·exact .inl (.inl h)
    ·rcases List.mem_cons.1 h1 with rfl | h1
     ·exact .inl (.inr h3)
     ·exact .inr ⟨q, h1, h2, h3⟩
  ·rw [if_neg hp]
   constructor
   ·rintro (h | ⟨q, h1, h2⟩)
    ·exact .inl h
    ·exact .inr ⟨q, by simp [h1], h2⟩
   ·rintro (h | ⟨q, h1, h2, h3⟩)
    ·exact .inl h
    ·rcases List.mem_cons.1 h1 with rfl | h1
     ·exact absurd h2 hp
     ·exact .inr ⟨q, h1, h2, h3⟩
theorem stepC_sub {gd em : List Bool} {sets : List (List It)} {at_ : Nat} {l : List It} {x y : It} (h : y ∈ l) : y ∈ stepC g gd em sets at_ l x := by
 unfold stepC
 split
 ·exact (doneL_mem _).2 (.inl h)
 ·split
  ·split
   ·exact addI_mem.2 (.inl ((beginN_mem _).2 (.inl h)))
   ·exact (beginN_mem _).2 (.inl h)
  ·exact h
theorem stepC_get {gd em : List Bool} {sets : List (List It)} {at_ : Nat} {l : List It} {x y : It} {i : Nat} (h : l[i]? = some y) : (stepC g gd em sets at_ l x)[i]? = some y := by
 unfold stepC
 split
 ·exact doneL_get _ h
 ·split
  ·split
   ·exact addI_get (beginN_get h _)
   ·exact beginN_get h _
  ·exact h
theorem closeC_sub {gd em : List Bool} {sets : List (List It)} {at_ : Nat} : ∀ (k : Nat) (l : List It) (i : Nat) {y : It}, y ∈ l → y ∈ closeC g gd em sets at_ k l i := by
 intro k
 induction k with
 | zero => intro l i y h; exact h
 | succ k ih =>
  intro l i y h
  unfold closeC
  cases hx : l[i]? with
  | none => exact h
  | some x => exact ih _ _ (stepC_sub h)
theorem Proc.mono {gd em : List Bool} {sets : List (List It)} {at_ : Nat} {L L' : List It} {x : It} (h : Proc g gd em sets at_ L x) (hs : ∀ y ∈ L, y ∈ L') : Proc g gd em sets at_ L' x := by
 obtain ⟨l', h⟩ := h
 exact ⟨l', fun y hy => hs y (h y hy)⟩
theorem closeC_all {gd em : List Bool} {sets : List (List It)} {at_ : Nat} (hs : ∀ i s, i < at_ → sets[i]? = some s → okL g i s) : ∀ (k : Nat) (l : List It) (i : Nat), okL g at_ l → i + k = bndI g at_ → (∀ j x, j < i → l[j]? = some x → Proc g gd em sets at_ l x) →
  ∀ x ∈ closeC g gd em sets at_ k l i, Proc g gd em sets at_ (closeC g gd em sets at_ k l i) x := by
 intro k
 induction k with
 | zero =>
  intro l i hl hk hp x hx
  have hx' : x ∈ l := hx
  obtain ⟨j, hj, rfl⟩ := List.getElem_of_mem hx'
  have := hl.len
  exact hp j _ (by omega) (List.getElem?_eq_getElem hj)
 | succ k ih =>
  intro l i hl hk hp
  unfold closeC
  cases hx : l[i]? with
  | none =>
   intro x hx'
   obtain ⟨j, hj, rfl⟩ := List.getElem_of_mem (show x ∈ l from hx')
   have := List.getElem?_eq_none_iff.1 hx
   exact hp j _ (by omega) (List.getElem?_eq_getElem hj)
  | some x0 =>
   have hi : i < l.length := (List.getElem?_eq_some_iff.1 hx).1
   refine ih _ _ (stepC_ok hs hl (hl.ok x0 (List.mem_of_getElem? hx))) (by omega) fun j x hj hjx => ?_
   by_cases e : j = i
   ·subst e
    have := stepC_get (g := g) (gd := gd) (em := em) (sets := sets) (at_ := at_) (x := x0) hx
    rw [hjx] at this
    cases this
    exact ⟨l, fun y hy => hy⟩
   ·have hjl : j < l.length := by omega
    have := stepC_get (g := g) (gd := gd) (em := em) (sets := sets) (at_ := at_) (x := x0) (List.getElem?_eq_getElem hjl)
    rw [hjx] at this
    cases this
    exact (hp j _ (by omega) (List.getElem?_eq_getElem hjl)).mono fun y hy => stepC_sub hy
theorem closeC_inv {gd em : List Bool} {sets : List (List It)} {at_ : Nat} {I : It → Prop} (hst : ∀ l x, (∀ y ∈ l, I y) → x ∈ l → ∀ y ∈ stepC g gd em sets at_ l x, I y) : ∀ (k : Nat) (l : List It) (i : Nat), (∀ y ∈ l, I y) → ∀ y ∈ closeC g gd em sets at_ k l i, I y := by
 intro k
 induction k with
 | zero => intro l i h; exact h
 | succ k ih =>
  intro l i h
  unfold closeC
  cases hx : l[i]? with
  | none => exact h
  | some x => exact ih _ _ (hst l x h (List.mem_of_getElem? hx))
structure Fine (g : Gram) (gd em : List Bool) (u : List Int) (sets : List (List It)) : Prop where
 len : sets.length = u.length + 1
 ok : okS g sets
 snd : ∀ k x, x ∈ sets.getD k [] → Yd g ((rgt g x.1).take x.2.1) ((u.take k).drop x.2.2)
 st : ∀ r, r < g.rules.length → lft g r = 0 → gd.getD r false = true → (r, 0, 0) ∈ sets.getD 0 []
 prd : ∀ k x y, x ∈ sets.getD k [] → nx g x = some y → 0 ≤ y → ∀ r, r < g.rules.length → lft g r = y → gd.getD r false = true → (r, 0, k) ∈ sets.getD k []
 nul : ∀ k x y, x ∈ sets.getD k [] → nx g x = some y → 0 ≤ y → em.getD y.toNat false = true → upI x ∈ sets.getD k []
 cmp : ∀ k x p, x ∈ sets.getD k [] → nx g x = none → x.2.2 < k → p ∈ sets.getD x.2.2 [] → nx g p = some (lft g x.1) → upI p ∈ sets.getD k []
 scn : ∀ k x (h : k < u.length), x ∈ sets.getD k [] → nx g x = some (-u[k] - 1) → upI x ∈ sets.getD (k + 1) []
theorem nx_take {x : It} {y : Int} (h : nx g x = some y) : (rgt g x.1).take (x.2.1 + 1) = (rgt g x.1).take x.2.1 ++ [y] := by
 unfold nx at h
 obtain ⟨h1, h2⟩ := List.getElem?_eq_some_iff.1 h
 rw [List.take_succ_eq_append_getElem h1, h2]
theorem nx_none {x : It} (h : nx g x = none) : (rgt g x.1).take x.2.1 = rgt g x.1 := by
 unfold nx at h
 exact List.take_of_length_le (List.getElem?_eq_none_iff.1 h)
theorem yd_rule {x : Nat} (hx : x < g.rules.length) {w : List Int} (h : Yd g (rgt g x) w) : Yd g [lft g x] w := by
 have e1 : rgt g x = g.rules[x].right := by unfold rgt; rw [List.getElem?_eq_getElem hx]; rfl
 have e2 : lft g x = g.rules[x].left := by unfold lft; rw [List.getElem?_eq_getElem hx]; rfl
 rw [e1] at h
 rw [e2]
 exact .one hx h
theorem step_sound {gd em : List Bool} {sets : List (List It)} {at_ : Nat} {v : List Int} (hv : v.length = at_) (hem : ∀ y : Int, 0 ≤ y → em.getD y.toNat false = true → Nul g y)
  (hok : ∀ i s, i < at_ → sets[i]? = some s → okL g i s) (hs : ∀ k x, k < at_ → x ∈ sets.getD k [] → Yd g ((rgt g x.1).take x.2.1) ((v.take k).drop x.2.2)) (l : List It) (x : It)
  (hl : ∀ y ∈ l, okI g at_ y ∧ Yd g ((rgt g y.1).take y.2.1) (v.drop y.2.2)) (hx : x ∈ l) : ∀ y ∈ stepC g gd em sets at_ l x, okI g at_ y ∧ Yd g ((rgt g y.1).take y.2.1) (v.drop y.2.2) := by
 intro y hy
 have hxI := hl x hx
 unfold stepC at hy
 split at hy
 ·rename_i hn
  rcases (doneL_mem _).1 hy with hy | ⟨p, hp, hpn, rfl⟩
  ·exact hl y hy
  ·have hx1 : Yd g [lft g x.1] (v.drop x.2.2) := yd_rule hxI.1.1 (by rw [← nx_none hn]; exact hxI.2)
   have key : okI g x.2.2 p ∧ Yd g ((rgt g p.1).take p.2.1) ((v.take x.2.2).drop p.2.2) := by
    split at hp
    ·rename_i he
     have := hl p hp
     rw [he, ← hv, List.take_length]
     rw [he] at *
     rw [hv]; exact this
    ·rename_i he
     have hlt : x.2.2 < at_ := by have := hxI.1.2.2; omega
     refine ⟨?_, hs _ p hlt hp⟩
     rw [List.getD_eq_getElem?_getD] at hp
     cases hq : sets[x.2.2]? with
     | none => rw [hq] at hp; cases hp
     | some s => rw [hq] at hp; exact (hok _ s hlt hq).ok p hp
   refine ⟨⟨key.1.1, nx_lt hpn, ?_⟩, ?_⟩
   ·have := key.1.2.2; have := hxI.1.2.2; show p.2.2 ≤ at_; omega
   ·show Yd g ((rgt g p.1).take (p.2.1 + 1)) (v.drop p.2.2)
    rw [nx_take hpn]
    have h := key.2.append hx1
    have e : (v.take x.2.2).drop p.2.2 ++ v.drop x.2.2 = v.drop p.2.2 := by
     have hle : p.2.2 ≤ x.2.2 := key.1.2.2
     have hlx : x.2.2 ≤ v.length := by have := hxI.1.2.2; omega
     conv => rhs; rw [← List.take_append_drop x.2.2 v]
     rw [List.drop_append_of_le_length (by rw [List.length_take]; omega)]
    rwa [e] at h
 ·rename_i y0 hn
  split at hy
  ·rename_i h0
   have hb : ∀ y, y ∈ beginL g gd y0 at_ l → okI g at_ y ∧ Yd g ((rgt g y.1).take y.2.1) (v.drop y.2.2) := fun y hy => by
    rcases (beginN_mem _).1 hy with hy | ⟨r, h1, h2, rfl⟩
    ·exact hl y hy
    ·refine ⟨⟨h1, Nat.zero_le _, Nat.le_refl _⟩, ?_⟩
     show Yd g ((rgt g r).take 0) (v.drop at_)
     rw [List.take_zero, List.drop_eq_nil_of_le (by omega)]
     exact .nil
   split at hy
   ·rename_i he
    rcases addI_mem.1 hy with hy | rfl
    ·exact hb y hy
    ·refine ⟨hxI.1.up hn, ?_⟩
     show Yd g ((rgt g x.1).take (x.2.1 + 1)) (v.drop x.2.2)
     rw [nx_take hn]
     have := hxI.2.append (hem y0 h0 he).yd
     rwa [List.append_nil] at this
   ·exact hb y hy
  ·exact hl y hy
theorem getD_snoc_lt {α : Type} {l : List (List α)} {x : List α} {k : Nat} (h : k < l.length) : (l ++ [x]).getD k [] = l.getD k [] := by
 rw [List.getD_eq_getElem?_getD, List.getD_eq_getElem?_getD, List.getElem?_append_left h]
theorem getD_snoc_eq {α : Type} {l : List (List α)} {x : List α} : (l ++ [x]).getD l.length [] = x := by
 rw [List.getD_eq_getElem?_getD, List.getElem?_append_right (Nat.le_refl _), Nat.sub_self]; rfl
theorem getD_ge {α : Type} {l : List (List α)} {k : Nat} (h : l.length ≤ k) : l.getD k [] = [] := by
 rw [List.getD_eq_getElem?_getD, List.getElem?_eq_none h]; rfl
theorem close_closed {gd em : List Bool} {sets : List (List It)} {at_ : Nat} {l : List It} (hs : ∀ i s, i < at_ → sets[i]? = some s → okL g i s) (hl : okL g at_ l) {x : It} (hx : x ∈ closeL g gd em sets at_ l) :
  (∀ y, nx g x = some y → 0 ≤ y → ∀ r, r < g.rules.length → lft g r = y → gd.getD r false = true → (r, 0, at_) ∈ closeL g gd em sets at_ l) ∧ (∀ y, nx g x = some y → 0 ≤ y → em.getD y.toNat false = true → upI x ∈ closeL g gd em sets at_ l) ∧
  (nx g x = none → x.2.2 ≠ at_ → ∀ p ∈ sets.getD x.2.2 [], nx g p = some (lft g x.1) → upI p ∈ closeL g gd em sets at_ l) := by
 obtain ⟨l', h⟩ := closeC_all (gd := gd) (em := em) hs _ l 0 hl (Nat.zero_add _) (fun j x hj => absurd hj (Nat.not_lt_zero _)) x hx
 refine ⟨fun y hn h0 r hr hlr hgd => h _ ?_, fun y hn h0 he => h _ ?_, fun hn hne p hp hpn => h _ ?_⟩
 ·unfold stepC
  rw [hn]
  simp only [if_pos h0]
  have hb : (r, 0, at_) ∈ beginL g gd y at_ l' := (beginN_mem _).2 (.inr ⟨r, hr, by unfold begP; rw [hlr, hgd]; simp, rfl⟩)
  split
  ·exact addI_mem.2 (.inl hb)
  ·exact hb
 ·unfold stepC
  rw [hn]
  simp only [if_pos h0, he]
  exact addI_mem.2 (.inr rfl)
 ·unfold stepC
  rw [hn]
  simp only
  rw [if_neg hne]
  exact (doneL_mem _).2 (.inr ⟨p, hp, hpn, rfl⟩)
theorem pushL_mem {t : Int} {y : It} : ∀ (ps : List It), y ∈ pushL g ps t ↔ 0 ≤ t ∧ ∃ p ∈ ps, nx g p = some (-t - 1) ∧ y = upI p := by
 suffices ∀ (ps l : List It), y ∈ ps.foldl (fun l x => if 0 ≤ t ∧ nx g x = some (-t - 1) then addI l (upI x) else l) l ↔ y ∈ l ∨ (0 ≤ t ∧ ∃ p ∈ ps, nx g p = some (-t - 1) ∧ y = upI p) by
  intro ps
  have := this ps []
  unfold pushL
  simpa using this
 intro ps
 induction ps with
 | nil => intro l; simp
 | cons p ps ih =>
  intro l
  rw [List.foldl_cons, ih]
  by_cases hp : 0 ≤ t ∧ nx g p = some (-t - 1)
  ·rw [if_pos hp, addI_mem]
   constructor
   ·rintro ((h | h) | ⟨h0, q, h1, h2⟩)
    ·exact .inl h
    ·exact .inr ⟨hp.1, p, by simp, hp.2, h⟩
    ·exact .inr ⟨h0, q, by simp [h1], h2⟩
   ·rintro (h | ⟨h0, q, h1, h2, h3⟩)
    ·exact .inl (.inl h)
    ·rcases List.mem_cons.1 h1 with rfl | h1
     ·exact .inl (.inr h3)
     ·exact .inr ⟨h0, q, h1, h2, h3⟩
  ·rw [if_neg hp]
   constructor
   ·rintro (h | ⟨h0, q, h1, h2⟩)
    ·exact .inl h
    ·exact .inr ⟨h0, q, by simp [h1], h2⟩
   ·rintro (h | ⟨h0, q, h1, h2, h3⟩)
    ·exact .inl h
    ·rcases List.mem_cons.1 h1 with rfl | h1
     ·exact absurd ⟨h0, h2⟩ hp
     ·exact .inr ⟨h0, q, h1, h2, h3⟩
section
variable {gd em : List Bool}
theorem Fine.new (hem : ∀ y : Int, 0 ≤ y → em.getD y.toNat false = true → Nul g y) : Fine g gd em [] (newS g gd em) := by
 have hl : okL g 0 (beginL g gd 0 0 []) := beginN_ok (.nil g 0) _ (Nat.le_refl _)
 have hs : ∀ (i : Nat) (s : List It), i < 0 → ([] : List (List It))[i]? = some s → okL g i s := fun i s hi => absurd hi (Nat.not_lt_zero _)
 have h0 : ∀ k x, x ∈ (newS g gd em).getD k [] → k = 0 ∧ x ∈ closeL g gd em [] 0 (beginL g gd 0 0 []) := fun k x hx => by
  unfold newS at hx
  cases k with
  | zero => exact ⟨rfl, hx⟩
  | succ k => simp at hx
 have e0 : (newS g gd em).getD 0 [] = closeL g gd em [] 0 (beginL g gd 0 0 []) := rfl
 refine ⟨rfl, .new, fun k x hx => ?_, fun r hr h1 h2 => ?_, fun k x y hx hn hy r hr hl' hgd => ?_, fun k x y hx hn hy he => ?_, fun k x p hx hn hlt hp hpn => ?_, fun k x h => absurd h (Nat.not_lt_zero _)⟩
 ·obtain ⟨rfl, hx⟩ := h0 k x hx
  have := closeC_inv (step_sound (v := []) rfl hem hs (fun k x hk => absurd hk (Nat.not_lt_zero _))) _ _ 0 (fun y hy => ?_) x hx
  ·exact this.2
  ·rcases (beginN_mem _).1 hy with hy | ⟨r, h1, h2, rfl⟩
   ·cases hy
   ·exact ⟨⟨h1, Nat.zero_le _, Nat.le_refl _⟩, .nil⟩
 ·rw [e0]
  exact closeC_sub _ _ _ ((beginN_mem _).2 (.inr ⟨r, hr, by unfold begP; rw [h1, h2]; simp, rfl⟩))
 ·obtain ⟨rfl, hx⟩ := h0 k x hx
  rw [e0]
  exact (close_closed hs hl hx).1 y hn hy r hr hl' hgd
 ·obtain ⟨rfl, hx⟩ := h0 k x hx
  rw [e0]
  exact (close_closed hs hl hx).2.1 y hn hy he
 ·obtain ⟨rfl, _⟩ := h0 k x hx
  exact absurd hlt (Nat.not_lt_zero _)
theorem Fine.push {u : List Int} {sets s' : List (List It)} {t : Int} (hem : ∀ y : Int, 0 ≤ y → em.getD y.toNat false = true → Nul g y) (h : Fine g gd em u sets) (hp : pushS g gd em sets t = some s') : Fine g gd em (u ++ [t]) s' := by
 have hok' := h.ok.push hp
 unfold pushS at hp
 split at hp
 ·cases hp
 rename_i x0 l0 hl0
 cases hp
 generalize hL : x0 :: l0 = l at *
 have hlen := h.len
 have hs : ∀ i s, i < sets.length → sets[i]? = some s → okL g i s := fun i s _ hi => h.ok.2 i s hi
 have hl : okL g sets.length l := by rw [← hl0]; exact pushL_ok _ ((lastS_ok h.ok).up (Nat.sub_le _ _)).ok
 have hlast : lastS sets = sets.getD u.length [] := by unfold lastS; rw [hlen]; rfl
 have hlm : ∀ y, y ∈ l ↔ 0 ≤ t ∧ ∃ p ∈ sets.getD u.length [], nx g p = some (-t - 1) ∧ y = upI p := fun y => by rw [← hl0, pushL_mem, hlast]
 have split : ∀ k x, x ∈ (sets ++ [closeL g gd em sets sets.length l]).getD k [] → (k < sets.length ∧ x ∈ sets.getD k []) ∨ (k = sets.length ∧ x ∈ closeL g gd em sets sets.length l) := fun k x hx => by
  rcases Nat.lt_trichotomy k sets.length with hk | hk | hk
  ·rw [getD_snoc_lt hk] at hx; exact .inl ⟨hk, hx⟩
  ·subst hk; rw [getD_snoc_eq] at hx; exact .inr ⟨rfl, hx⟩
  ·rw [getD_ge (by simp; omega)] at hx; cases hx
 have lo : ∀ k, k < sets.length → (sets ++ [closeL g gd em sets sets.length l]).getD k [] = sets.getD k [] := fun k hk => getD_snoc_lt hk
 have hi : (sets ++ [closeL g gd em sets sets.length l]).getD sets.length [] = closeL g gd em sets sets.length l := getD_snoc_eq
 refine ⟨by simp [hlen], hok', fun k x hx => ?_, fun r hr h1 h2 => ?_, fun k x y hx hn hy r hr hl' hgd => ?_, fun k x y hx hn hy he => ?_, fun k x p hx hn hlt hp hpn => ?_, fun k x hk hx hn => ?_⟩
 ·rcases split k x hx with ⟨hk, hx2⟩ | ⟨rfl, hx2⟩
  ·have := h.snd k x hx2
   rwa [List.take_append_of_le_length (by omega)]
  ·have hv : (u ++ [t]).length = sets.length := by simp [hlen]
   have := closeC_inv (I := fun y => okI g sets.length y ∧ Yd g ((rgt g y.1).take y.2.1) ((u ++ [t]).drop y.2.2)) (step_sound (v := u ++ [t]) hv hem hs (fun k x hk hx => by
    have := h.snd k x hx
    rwa [List.take_append_of_le_length (by omega)])) _ l 0 (fun y hy => ?_) x hx2
   ·rw [← hv, List.take_length]; exact this.2
   ·refine ⟨hl.ok y hy, ?_⟩
    obtain ⟨h0, p, hp, hpn, rfl⟩ := (hlm y).1 hy
    show Yd g ((rgt g p.1).take (p.2.1 + 1)) ((u ++ [t]).drop p.2.2)
    rw [nx_take hpn]
    have h1 := h.snd _ p hp
    rw [List.take_length] at h1
    have hpk : p.2.2 ≤ u.length := by
     have := (lastS_ok h.ok).ok p (by rw [hlast]; exact hp)
     have := this.2.2
     omega
    rw [List.drop_append_of_le_length hpk]
    refine h1.append ?_
    have := Yd.term (g := g) (s := -t - 1) (by omega) .nil
    rwa [show -(-t - 1) - 1 = t by omega] at this
 ·rw [lo 0 (by omega)]; exact h.st r hr h1 h2
 ·rcases split k x hx with ⟨hk, hx2⟩ | ⟨rfl, hx2⟩
  ·rw [lo k hk]; exact h.prd k x y hx2 hn hy r hr hl' hgd
  ·rw [hi]; exact (close_closed hs hl hx2).1 y hn hy r hr hl' hgd
 ·rcases split k x hx with ⟨hk, hx2⟩ | ⟨rfl, hx2⟩
  ·rw [lo k hk]; exact h.nul k x y hx2 hn hy he
  ·rw [hi]; exact (close_closed hs hl hx2).2.1 y hn hy he
 ·rcases split k x hx with ⟨hk, hx2⟩ | ⟨rfl, hx2⟩
  ·rw [lo k hk]
   rw [lo _ (by omega)] at hp
   exact h.cmp k x p hx2 hn hlt hp hpn
  ·rw [hi]
   rw [lo _ hlt] at hp
   exact (close_closed hs hl hx2).2.2 hn (by omega) p hp hpn
 ·rw [List.length_append, List.length_singleton] at hk
  rcases split k x hx with ⟨hk2, hx2⟩ | ⟨rfl, hx2⟩
  ·by_cases e : k = u.length
   ·subst e
    have ht : (u ++ [t])[u.length] = t := by simp
    rw [ht] at hn
    rw [show u.length + 1 = sets.length by omega, hi]
    refine closeC_sub _ _ _ ((hlm _).2 ⟨?_, x, hx2, hn, rfl⟩)
    cases l with
    | nil => cases hL
    | cons y l => exact ((hlm y).1 (by simp)).1
   ·rw [lo _ (by omega)]
    rw [List.getElem_append_left (by omega)] at hn
    exact h.scn k x (by omega) hx2 hn
  ·omega
end
end Go.AM
namespace Go.AM
section
variable {g : Gram} {gd em : List Bool} {u : List Int} {sets : List (List It)}
structure Knows (g : Gram) (gd em : List Bool) : Prop where
 hg : InG g
 gd : ∀ r, r < g.rules.length → (∀ s ∈ rgt g r, 0 ≤ s → Prd g s) → gd.getD r false = true
 em : ∀ y : Int, 0 ≤ y → (em.getD y.toNat false = true ↔ Nul g y)
theorem rgt_eq {i : Nat} (h : i < g.rules.length) : rgt g i = g.rules[i].right := by unfold rgt; rw [List.getElem?_eq_getElem h]; rfl
theorem lft_eq {i : Nat} (h : i < g.rules.length) : lft g i = g.rules[i].left := by unfold lft; rw [List.getElem?_eq_getElem h]; rfl
theorem nx_drop {x : It} {s : Int} {l : List Int} (h : (rgt g x.1).drop x.2.1 = s :: l) : nx g x = some s ∧ (rgt g x.1).drop (x.2.1 + 1) = l := by
 have h1 := congrArg (fun l : List Int => l[0]?) h
 have h2 := congrArg List.tail h
 simp only [List.getElem?_drop, Nat.add_zero, List.getElem?_cons_zero] at h1
 simp only [List.tail_drop, List.tail_cons] at h2
 exact ⟨h1, h2⟩
theorem nx_end {i k : Nat} (h : i < g.rules.length) : nx g (i, g.rules[i].right.length, k) = none := by
 unfold nx
 rw [rgt_eq h]
 exact List.getElem?_eq_none (Nat.le_refl _)
theorem Fine.pass (h : Fine g gd em u sets) (K : Knows g gd em) {form z : List Int} (hy : Yd g form z) : ∀ (x : It) (k : Nat) (rest : List Int), x ∈ sets.getD k [] → (rgt g x.1).drop x.2.1 = form ++ rest → k + z.length ≤ u.length → (u.drop k).take z.length = z →
  (x.1, x.2.1 + form.length, x.2.2) ∈ sets.getD (k + z.length) [] := by
 induction hy with
 | nil => intro x k rest hx _ _ _; exact hx
 | @term s rest' w hs hk ih =>
  intro x k rest hx hd hl hz
  obtain ⟨h1, h2⟩ := nx_drop hd
  rw [List.length_cons] at hl hz
  have hkl : k < u.length := by omega
  rw [List.drop_eq_getElem_cons hkl, List.take_succ_cons] at hz
  injection hz with e1 e2
  have := h.scn k x hkl hx (by rw [h1, e1]; congr 1; omega)
  have := ih (upI x) (k + 1) rest this h2 (by omega) e2
  rw [List.length_cons, List.length_cons]
  have e3 : k + (w.length + 1) = k + 1 + w.length := by omega
  have e4 : x.2.1 + (rest'.length + 1) = x.2.1 + 1 + rest'.length := by omega
  rw [e3, e4]; exact this
 | @var i hi rest' a b hxa hkb ih1 ih2 =>
  intro x k rest hx hd hl hz
  obtain ⟨h1, h2⟩ := nx_drop hd
  rw [List.length_append] at hl hz
  have h0 : 0 ≤ g.rules[i].left := K.hg.left0 _ (List.getElem_mem hi)
  have ha : (u.drop k).take a.length = a := by
   have := congrArg (List.take a.length) hz
   rw [List.take_take, List.take_left, Nat.min_eq_left (by omega)] at this
   exact this
  have hb : (u.drop (k + a.length)).take b.length = b := by
   have := congrArg (List.drop a.length) hz
   rw [List.drop_take, List.drop_drop, List.drop_left, Nat.add_sub_cancel_left] at this
   exact this
  have hp : (i, 0, k) ∈ sets.getD k [] := h.prd k x _ hx h1 h0 i hi (lft_eq hi) (K.gd i hi (by rw [rgt_eq hi]; exact hxa.prd))
  have hc := ih1 (i, 0, k) k [] hp (by rw [List.append_nil]; show (rgt g i).drop 0 = _; rw [rgt_eq hi]; rfl) (by omega) ha
  have hup : upI x ∈ sets.getD (k + a.length) [] := by
   by_cases e : a = []
   ·subst e
    exact h.nul k x _ hx h1 h0 ((K.em _ h0).2 (by
     have := (Yd.one hi hxa).nul K.hg g.rules[i].left (by simp)
     exact this.2))
   ·have hpos : 0 < a.length := List.length_pos_iff.2 e
    refine h.cmp (k + a.length) _ x hc (by rw [Nat.zero_add]; exact nx_end hi) (by show k < k + a.length; omega) hx ?_
    rw [h1, lft_eq hi]
  have := ih2 (upI x) (k + a.length) rest hup h2 (by omega) hb
  rw [List.length_append, List.length_cons]
  have e3 : k + (a.length + b.length) = k + a.length + b.length := by omega
  have e4 : x.2.1 + (rest'.length + 1) = x.2.1 + 1 + rest'.length := by omega
  rw [e3, e4]; exact this
theorem Fine.adv (h : Fine g gd em u sets) (K : Knows g gd em) {i : Nat} (hi : i < g.rules.length) {a : List Int} (hy : Yd g g.rules[i].right a) {x : It} {k : Nat} (hx : x ∈ sets.getD k []) (hn : nx g x = some g.rules[i].left) (hl : k + a.length ≤ u.length) (ha : (u.drop k).take a.length = a) :
  upI x ∈ sets.getD (k + a.length) [] := by
 have hlt := nx_lt hn
 have hd : (rgt g x.1).drop x.2.1 = [g.rules[i].left] ++ (rgt g x.1).drop (x.2.1 + 1) := by
  rw [List.drop_eq_getElem_cons hlt]
  unfold nx at hn
  rw [List.getElem?_eq_getElem hlt] at hn
  injection hn with hn
  rw [hn]; rfl
 exact h.pass K (Yd.one hi hy) x k _ hx hd hl ha
theorem app_cases {a b c d : List Int} (h : a ++ b = c ++ d) : (∃ e, c = a ++ e ∧ b = e ++ d) ∨ (∃ e, e ≠ [] ∧ a = c ++ e ∧ d = e ++ b) := by
 rcases List.append_eq_append_iff.1 h with ⟨e, h1, h2⟩ | ⟨e, h1, h2⟩
 ·exact .inl ⟨e, h1, h2⟩
 ·by_cases he : e = []
  ·subst he
   exact .inl ⟨[], by simpa using h1.symm, by simpa using h2.symm⟩
  ·exact .inr ⟨e, he, h1, h2⟩
theorem drop_at {a e : List Int} {k : Nat} (h : u.drop k = a ++ e) (hk : k ≤ u.length) : k + a.length ≤ u.length ∧ (u.drop k).take a.length = a ∧ u.drop (k + a.length) = e := by
 have h1 := congrArg List.length h
 rw [List.length_drop, List.length_append] at h1
 refine ⟨by omega, by rw [h, List.take_left], ?_⟩
 rw [← List.drop_drop, h, List.drop_left]
theorem Fine.next (h : Fine g gd em u sets) (K : Knows g gd em) {form z : List Int} (hy : Yd g form z) : ∀ (x : It) (k : Nat) (rest : List Int) (t : Int) (z' : List Int), x ∈ sets.getD k [] → (rgt g x.1).drop x.2.1 = form ++ rest → k ≤ u.length → z = u.drop k ++ t :: z' → ∃ y ∈ sets.getD u.length [], nx g y = some (-t - 1) := by
 induction hy with
 | nil => intro x k rest t z' _ _ _ hz; simp at hz
 | @term s rest' w hs hk ih =>
  intro x k rest t z' hx hd hl hz
  obtain ⟨h1, h2⟩ := nx_drop hd
  by_cases hkl : k < u.length
  ·rw [List.drop_eq_getElem_cons hkl, List.cons_append] at hz
   injection hz with e1 e2
   exact ih (upI x) (k + 1) rest t z' (h.scn k x hkl hx (by rw [h1, ← e1]; congr 1; omega)) h2 (by omega) e2
  ·have : k = u.length := by omega
   subst this
   rw [List.drop_length, List.nil_append] at hz
   injection hz with e1 e2
   exact ⟨x, hx, by rw [h1, ← e1]; congr 1; omega⟩
 | @var i hi rest' a b hxa hkb ih1 ih2 =>
  intro x k rest t z' hx hd hl hz
  obtain ⟨h1, h2⟩ := nx_drop hd
  have h0 : 0 ≤ g.rules[i].left := K.hg.left0 _ (List.getElem_mem hi)
  rcases app_cases hz with ⟨e, h3, h4⟩ | ⟨e, he, h3, h4⟩
  ·obtain ⟨d1, d2, d3⟩ := drop_at h3 hl
   exact ih2 (upI x) (k + a.length) rest t z' (h.adv K hi hxa hx h1 d1 d2) h2 d1 (by rw [d3]; exact h4)
  ·have hp : (i, 0, k) ∈ sets.getD k [] := h.prd k x _ hx h1 h0 i hi (lft_eq hi) (K.gd i hi (by rw [rgt_eq hi]; exact hxa.prd))
   cases e with
   | nil => exact absurd rfl he
   | cons t' e =>
    injection h4 with e1 e2
    subst e1
    exact ih1 (i, 0, k) k [] t e hp (by rw [List.append_nil]; show (rgt g i).drop 0 = _; rw [rgt_eq hi]; rfl) hl h3
end
end Go.AM
namespace Go.AM
section
variable {g : Gram} {gd em : List Bool} {u : List Int} {sets : List (List It)} {c : Nat → Nat} {b : Nat → Int}
theorem Fine.last (h : Fine g gd em u sets) : lastS sets = sets.getD u.length [] := by unfold lastS; rw [h.len]; rfl
theorem start_rule {w : List Int} (h : Yd g [0] w) : ∃ i, ∃ hi : i < g.rules.length, g.rules[i].left = 0 ∧ Yd g g.rules[i].right w := by
 have key : ∀ l z, Yd g l z → l = [0] → ∃ i, ∃ hi : i < g.rules.length, g.rules[i].left = 0 ∧ Yd g g.rules[i].right z := by
  intro l z h
  cases h with
  | nil => intro e; cases e
  | term h _ => intro e; injection e with e1 e2; omega
  | @var i hi rest a b x k =>
   intro e
   injection e with e1 e2
   subst e2
   cases k
   exact ⟨i, hi, e1, by rw [List.append_nil]; exact x⟩
 exact key _ _ h rfl
theorem Fine.start (h : Fine g gd em u sets) (K : Knows g gd em) {i : Nat} (hi : i < g.rules.length) (h0 : g.rules[i].left = 0) {w : List Int} (hy : Yd g g.rules[i].right w) : (i, 0, 0) ∈ sets.getD 0 [] :=
 h.st i hi (by rw [lft_eq hi]; exact h0) (K.gd i hi (by rw [rgt_eq hi]; exact hy.prd))
theorem acc_iff (h : Fine g gd em u sets) (K : Knows g gd em) : accB g sets = true ↔ Yd g [0] u := by
 unfold accB
 rw [h.last, List.any_eq_true]
 constructor
 ·rintro ⟨x, hx, hc⟩
  simp only [Bool.and_eq_true, decide_eq_true_eq, Option.isNone_iff_eq_none] at hc
  obtain ⟨⟨h1, h2⟩, h3⟩ := hc
  have hs := h.snd _ x hx
  rw [List.take_length, h2, List.drop_zero, nx_none h1] at hs
  have hlen := h.len
  have hxI : okI g u.length x := by
   have : sets[u.length]? = some (sets.getD u.length []) := by rw [List.getD_eq_getElem?_getD, List.getElem?_eq_getElem (by omega)]; rfl
   exact (h.ok.2 _ _ this).ok x hx
  have := yd_rule hxI.1 hs
  rwa [h3] at this
 ·intro hy
  obtain ⟨i, hi, h0, hr⟩ := start_rule hy
  have hp := h.pass K hr (i, 0, 0) 0 [] (h.start K hi h0 hr) (by rw [List.append_nil]; show (rgt g i).drop 0 = _; rw [rgt_eq hi]; rfl) (by omega) (by simp)
  rw [Nat.zero_add] at hp
  refine ⟨_, hp, ?_⟩
  simp only [Nat.zero_add, Bool.and_eq_true, decide_eq_true_eq, Option.isNone_iff_eq_none]
  exact ⟨⟨nx_end hi, trivial⟩, by rw [lft_eq hi]; exact h0⟩
theorem next_word (h : Fine g gd em u sets) (K : Knows g gd em) {t : Int} {v : List Int} (hy : Yd g [0] (u ++ t :: v)) : ∃ y ∈ sets.getD u.length [], nx g y = some (-t - 1) := by
 obtain ⟨i, hi, h0, hr⟩ := start_rule hy
 exact h.next K hr (i, 0, 0) 0 [] t v (h.start K hi h0 hr) (by rw [List.append_nil]; show (rgt g i).drop 0 = _; rw [rgt_eq hi]; rfl) (Nat.zero_le _) rfl
end
end Go.AM
namespace Go.AM
open Go.RowKit
def wz (P : Program) (all : Array Oper) (K : List Fk) (Q : AExit → St → Prop) : List Bool → List Oper → Fr → Nat → Heap → Prop
 | _, [], f, n, H => WK P .skip K ⟨f, n, H⟩ Q
 | b :: fl, o :: rest, f, n, H => w1 P b (wz P all K Q fl rest) o f n H (wantedA all f o)
 | [], o :: rest, f, n, H => w1 P true (wz P all K Q [] rest) o f n H (wantedA all f o)
theorem wz_sound {P : Program} {all : Array Oper} {K : List Fk} {Q : AExit → St → Prop} : ∀ (rest : List Oper) (fl : List Bool) (j : Nat), (∀ k : Nat, fl[k]? = some false → soloB all (j + k) = true) → ∀ (f : Fr) (n : Nat) (H : Heap), wz P all K Q fl rest f n H →
    ∃ s1 l, BS P (.ops all rest ⟨f, n, H⟩) (.log s1 l) ∧ (∀ (k : Nat) (r : Rec), l[k]? = some r → r.call = true → soloB all (j + k) = true ∨ ∀ x, x < r.pre.n → r.H x = r.pre.H x) ∧ WK P .skip K s1 Q := by
  intro rest
  induction rest with
  | nil =>
    intro fl j hfl f n H h
    refine ⟨⟨f, n, H⟩, [], .opsNil all _, (fun k r hr => by simp at hr), ?_⟩
    cases fl <;> exact h
  | cons o rest ih =>
    intro fl j hfl f n H h
    obtain ⟨b, fl', hfl', hb, h⟩ : ∃ b fl', (∀ k : Nat, fl'[k]? = some false → soloB all (j + 1 + k) = true) ∧ (b = false → soloB all j = true) ∧ w1 P b (wz P all K Q fl' rest) o f n H (wantedA all f o) := by
      cases fl with
      | nil => exact ⟨true, [], fun k hk => by simp at hk, fun e => (by cases e), h⟩
      | cons b fl => exact ⟨b, fl, fun k hk => by rw [show j + 1 + k = j + (k + 1) by omega]; exact hfl (k + 1) (by simpa using hk), fun e => hfl 0 (by subst e; rfl), h⟩
    have op : ∀ t, (∀ r, t = some r → aop P (evalA f) n H o = some r) → wantedA all f o = true → w3 (wz P all K Q fl' rest) f o.dst n H t →
        ∃ s1 l, BS P (.ops all (o :: rest) ⟨f, n, H⟩) (.log s1 l) ∧ (∀ (k : Nat) (r : Rec), l[k]? = some r → r.call = true → soloB all (j + k) = true ∨ ∀ x, x < r.pre.n → r.H x = r.pre.H x) ∧ WK P .skip K s1 Q := fun t ht hw h => by
      cases t with
      | none => cases h
      | some r =>
        obtain ⟨s1, l, h1, h2, h3⟩ := ih fl' (j + 1) hfl' _ _ _ h
        refine ⟨s1, _, .opsOp hw (ht r rfl) h1, fun k q hq hc => ?_, h3⟩
        cases k with
        | zero => simp at hq; subst hq; cases hc
        | succ k => rw [show j + (k + 1) = j + 1 + k by omega]; exact h2 k q (by simpa using hq) hc
    cases hw : wantedA all f o with
    | false =>
      rw [hw] at h
      obtain ⟨s1, l, h1, h2, h3⟩ := ih fl' (j + 1) hfl' _ _ _ h
      refine ⟨s1, _, .opsSkip hw h1, fun k q hq hc => ?_, h3⟩
      cases k with
      | zero => simp at hq; subst hq; cases hc
      | succ k => rw [show j + (k + 1) = j + 1 + k by omega]; exact h2 k q (by simpa using hq) hc
    | true =>
      rw [hw] at h
      simp only [w1] at h
      cases hg : acallee (evalA f) o with
      | none => rw [hg] at h; exact op _ (fun r hr => top_sound hr) hw h
      | some c =>
        obtain ⟨g, args⟩ := c
        rw [hg] at h
        rcases h with h | ⟨v, n1, H1, hbs, hf, h⟩
        · exact op _ (fun r hr => hr) hw h
        · obtain ⟨s1, l, h1, h2, h3⟩ := ih fl' (j + 1) hfl' _ _ _ h
          refine ⟨s1, _, .opsCall hw hg hbs h1, fun k q hq hc => ?_, h3⟩
          cases k with
          | zero =>
            simp at hq; subst hq
            cases b with
            | false => exact .inl (hb rfl)
            | true => exact .inr (hf rfl)
          | succ k => rw [show j + (k + 1) = j + 1 + k by omega]; exact h2 k q (by simpa using hq) hc
def soloFl (ops : Array Oper) (fl : List Bool) : Bool := (List.range fl.length).all fun k => (fl.getD k true) || soloB ops k
theorem WK.rgs {P : Program} {K : List Fk} {Q : AExit → St → Prop} {f : Fr} {n : Nat} {H : Heap} {id : Nat} {ops : Array Oper} (fl : List Bool) (hfl : soloFl ops fl = true) (hp : (sPairs ops).isEmpty = true) (h : wz P ops K Q fl ops.toList f n H) :
  WK P (.region id ops true) K ⟨f, n, H⟩ Q := by
 obtain ⟨s1, l, h1, h2, h3⟩ := wz_sound ops.toList fl 0 (by
  intro k hk
  have hlt := (List.getElem?_eq_some_iff.1 hk).1
  have := List.all_eq_true.1 hfl k (List.mem_range.2 hlt)
  rw [List.getD_eq_getElem?_getD, hk] at this
  rw [Nat.zero_add]
  simpa using this) _ _ _ h
 refine WK.imp (d := .skip) (t := s1) (fun e s2 h => ?_) h3
 cases h
 refine .regionDraw h1 ⟨fun p hp' => ?_, fun k r e hcl => by have := h2 k r e hcl; rwa [Nat.zero_add] at this⟩
 rw [List.isEmpty_iff.1 hp] at hp'; cases hp'
end Go.AM
namespace Go.AM
open Go.RowKit
def sbnd (d : Nat) : Option Value → Option Nat
 | none => some d
 | some (.int _ i) => if 0 ≤ i then some i.toNat else none
 | _ => none
def tss2 (s : ByteArray) (alt : Option Res) : Option TypeDesc → Option Nat → Option Nat → Option Res
 | some .string, some l, some h => if l ≤ h ∧ h ≤ s.size then some { v := .string (s.extract l h) } else alt
 | _, _, _ => alt
def tss (P : Program) (t : TypeId) (alt : Option Res) (lo hi : Option Value) : Value → Option Res
 | .string s => tss2 s alt (P.underlying t) (sbnd 0 lo) (sbnd s.size hi)
 | _ => alt
end Go.AM
namespace Go.AM
end Go.AM
namespace Go.AM
open Go.RowKit
structure WA (N : List (List Int)) (R : List Int) : Prop where
 n : N.length ≤ maxL
 r : R.length ≤ maxL
 row : ∀ l, l ∈ N → l.length ≤ maxL ∧ ∀ y, y ∈ l → inI y
 rule : ∀ y, y ∈ R → inI y
end Go.AM
namespace Go.AM.Mini
def at1 (R : List Int) (s : Nat) : Int := R.getD s (-1)
def at2 (N : List (List Int)) (s t : Nat) : Int := at1 (N.getD s []) t
structure Ok (N : List (List Int)) (R : List Int) (w : Nat) : Prop where
 pos : 0 < N.length
 len : N.length = R.length
 wpos : 0 < w
 row : ∀ s, s < N.length → (N.getD s []).length = w
 rule : ∀ s, s < N.length → -1 ≤ at1 R s
 lo : ∀ s, s < N.length → ∀ t, t < w → -1 ≤ at2 N s t
 hi : ∀ s, s < N.length → ∀ t, t < w → at2 N s t < N.length
 fin : ∀ s, s < N.length → ∀ t, t < w → 0 ≤ at2 N s t → at1 R s < 0
structure Bis (N : List (List Int)) (R : List Int) (N' : List (List Int)) (R' : List Int) (w : Nat) (B : Nat → Nat → Prop) : Prop where
 rule : ∀ s u, B s u → at1 R s = at1 R' u
 sgn : ∀ s u, B s u → ∀ t, t < w → (at2 N s t < 0 ↔ at2 N' u t < 0)
 go : ∀ s u, B s u → ∀ t, t < w → 0 ≤ at2 N s t → B (at2 N s t).toNat (at2 N' u t).toNat
def Sim (N : List (List Int)) (R : List Int) (N' : List (List Int)) (R' : List Int) (w : Nat) (s u : Nat) : Prop := ∃ B, Bis N R N' R' w B ∧ B s u
section
variable {N N' N'' : List (List Int)} {R R' R'' : List Int} {w : Nat}
end
theorem erase_len {α : Type} [BEq α] [LawfulBEq α] {l : List α} {a : α} (h : a ∈ l) : (l.erase a).length + 1 = l.length := by
 rw [List.length_erase_of_mem h]
 have := List.length_pos_of_mem h
 omega
theorem sub_len {α : Type} [BEq α] [LawfulBEq α] : ∀ {l m : List α}, l.Nodup → (∀ x, x ∈ l → x ∈ m) → l.length ≤ m.length := by
 intro l
 induction l with
 | nil => intro m _ _; simp
 | cons a l ih =>
  intro m hn hs
  rw [List.nodup_cons] at hn
  have ha := hs a (List.mem_cons_self ..)
  have := ih (m := m.erase a) hn.2 (fun x hx => by
   have hne : x ≠ a := fun e => hn.1 (e ▸ hx)
   exact (List.mem_erase_of_ne hne).2 (hs x (List.mem_cons_of_mem _ hx)))
  have h2 := erase_len ha
  simp only [List.length_cons]; omega
section
variable {κ : Type} [DecidableEq κ]
def known (f : Nat → κ) : Nat → List κ
 | 0 => []
 | s + 1 => if f s ∈ known f s then known f s else known f s ++ [f s]
def num (f : Nat → κ) (n s : Nat) : Nat := (known f n).idxOf (f s)
end
def tgt (K : List Int) (x : Int) : Int := if 0 ≤ x then at1 K x.toNat else -1
def key (N : List (List Int)) (R K : List Int) (s : Nat) : List Int := at1 K s :: at1 R s :: (N.getD s []).map (tgt K)
def next (N : List (List Int)) (R K : List Int) : List Int := (List.range N.length).map fun s => ((num (key N R K) N.length s : Nat) : Int)
structure Rnd (N : List (List Int)) (R : List Int) (w : Nat) (K : List Int) (c : Nat) : Prop where
 len : K.length = N.length
 same : ∀ s u, s < N.length → u < N.length → Sim N R N R w s u → at1 K s = at1 K u
 nn : ∀ s, s < N.length → 0 ≤ at1 K s
 all : ∀ v, v < c → ∃ s, s < N.length ∧ at1 K s = (v : Int)
end Go.AM.Mini
namespace Go.AM.Mini
def lstep (kf : Nat → Int) (x : Int) (fr : List Nat) : Int × List Nat :=
 if x < 0 then (-1, fr) else if kf x.toNat ∈ fr.map kf then ((((fr.map kf).idxOf (kf x.toNat) : Nat) : Int), fr) else ((fr.length : Int), fr ++ [x.toNat])
def lrow (kf : Nat → Int) : List Int → List Nat → List Int × List Nat
 | [], fr => ([], fr)
 | x :: xs, fr => ((lstep kf x fr).1 :: (lrow kf xs (lstep kf x fr).2).1, (lrow kf xs (lstep kf x fr).2).2)
def liter (N : List (List Int)) (kf : Nat → Int) : Nat → List Nat × List (List Int)
 | 0 => ([0], [])
 | i + 1 => ((lrow kf (N.getD ((liter N kf i).1.getD i 0) []) (liter N kf i).1).2, (liter N kf i).2 ++ [(lrow kf (N.getD ((liter N kf i).1.getD i 0) []) (liter N kf i).1).1])
inductive Come (N : List (List Int)) (w : Nat) : Nat → Prop where
 | zero : Come N w 0
 | step {s t : Nat} : Come N w s → t < w → 0 ≤ at2 N s t → Come N w (at2 N s t).toNat
structure Fr (N : List (List Int)) (w : Nat) (kf : Nat → Int) (fr : List Nat) : Prop where
 zero : ∃ r, fr = 0 :: r
 lt : ∀ s, s ∈ fr → s < N.length
 nd : (fr.map kf).Nodup
 come : ∀ s, s ∈ fr → Come N w s
def Means (kf : Nat → Int) (x : Int) (fr : List Nat) (y : Int) : Prop :=
 (x < 0 → y = -1) ∧ (0 ≤ x → ∃ j : Nat, y = (j : Int) ∧ ∃ s, fr[j]? = some s ∧ kf s = kf x.toNat)
structure Lt (N : List (List Int)) (w : Nat) (kf : Nat → Int) (i : Nat) (fr : List Nat) (rows : List (List Int)) : Prop where
 st : Fr N w kf fr
 len : rows.length = i
 le : i ≤ fr.length
 wd : ∀ j, j < i → (rows.getD j []).length = w
 mean : ∀ j, j < i → ∀ t, t < w → Means kf (at2 N (fr.getD j 0) t) fr (at2 rows j t)
section
variable {N : List (List Int)} {R : List Int} {w : Nat} {kf : Nat → Int} {fr : List Nat} {rows : List (List Int)}
def rls (R : List Int) (fr : List Nat) : List Int := fr.map (at1 R)
end
end Go.AM.Mini
namespace Go.AM.Mini
structure Iso (N : List (List Int)) (R : List Int) (N' : List (List Int)) (R' : List Int) (w : Nat) (π : Nat → Nat) : Prop where
 len : N'.length = N.length
 zero : π 0 = 0
 lt : ∀ s, s < N.length → π s < N.length
 rule : ∀ s, s < N.length → at1 R' (π s) = at1 R s
 to : ∀ s, s < N.length → ∀ t, t < w → (at2 N s t < 0 ∧ at2 N' (π s) t < 0) ∨ (0 ≤ at2 N s t ∧ at2 N' (π s) t = ((π (at2 N s t).toNat : Nat) : Int))
section
variable {N N' : List (List Int)} {R R' : List Int} {w : Nat} {π : Nat → Nat} {kf kg : Nat → Int}
structure Least (N : List (List Int)) (R : List Int) (w : Nat) (M : List (List Int)) (Q : List Int) : Prop where
 ex : ∃ (kf : Nat → Int) (m : Nat), (∀ s u, s < N.length → u < N.length → (kf s = kf u ↔ Sim N R N R w s u)) ∧ (∀ j, j < m → j < (liter N kf j).1.length) ∧ (liter N kf m).1.length = m ∧ M = (liter N kf m).2 ∧ Q = rls R (liter N kf m).1
end
end Go.AM.Mini
namespace Go.AM.Mini
end Go.AM.Mini
namespace Go.AM
open Go.RowKit
section
variable {κ : Type} [DecidableEq κ]
structure GK (P : Program) (kt : TypeId) (enc : κ → Value) (good : κ → Prop) : Prop where
 wide : wideK P kt = true
 ok : ∀ k, good k → flat (enc k) = true ∧ (keyOf P kt (enc k)).isSome = true
 inj : ∀ a b, good a → good b → enc a = enc b → a = b
variable {P : Program} {kt : TypeId} {enc : κ → Value} {good : κ → Prop}
theorem GK.veq (h : GK P kt enc good) {a b : κ} (ha : good a) (hb : good b) : veq (enc a) (enc b) = decide (a = b) := by
 by_cases e : a = b
 ·subst e
  rw [decide_eq_true rfl]
  exact veq_self h.wide (h.ok a ha).2
 ·rw [decide_eq_false e]
  cases hv : Go.AM.veq (enc a) (enc b) with
  | false => rfl
  | true => exact absurd (h.inj a b ha hb (veq_eq hv)) e
end
theorem gkI {P : Program} {kt : TypeId} (h : P.underlying kt = some (.int .i64)) : GK P kt (Value.int .i64) inI where
 wide := by unfold wideK baseK; rw [h]; simp
 ok := fun k hk => ⟨rfl, by
  have : (Lit.int .i64 k).wf = true := by
   unfold inI at hk
   simp [Lit.wf, IntKind.min, IntKind.max, IntKind.signed, IntKind.bits]; omega
  simp [keyOf, h, mapKey, this]⟩
 inj := fun a b _ _ e => by cases e; rfl
end Go.AM
namespace Go.AM
open Go.RowKit
section
variable {κ : Type} [DecidableEq κ]
variable {P : Program} {kt : TypeId} {enc : κ → Value} {good : κ → Prop}
end
end Go.AM
namespace Go.AM
open Go.RowKit
theorem aop_insert {P : Program} {n : Nat} {H : Heap} {ρ : Operand → Value} {d : Option Nat} {t : TypeId} {m k x : Operand} {ty : TypeId} {p : String} {af : Array Edge} {gd : Option (Nat × Bool)} :
  aop P ρ n H ⟨d, .insert t m k x, ty, p, af, gd⟩ = amapset P t H (ρ m) (ρ k) (ρ x) := rfl
theorem nodup_bnd {l : List Nat} (hn : l.Nodup) {k : Nat} (h : ∀ x, x ∈ l → x ≤ k) : l.length ≤ k + 1 := by
 have sub : ∀ {l m : List Nat}, l.Nodup → (∀ x, x ∈ l → x ∈ m) → l.length ≤ m.length := by
  intro l
  induction l with
  | nil => intro m _ _; exact Nat.zero_le _
  | cons a l ih =>
   intro m hl hs
   have ha := hs a (List.mem_cons_self ..)
   have h1 : (m.erase a).length + 1 = m.length := by rw [List.length_erase_of_mem ha]; have := List.length_pos_of_mem ha; omega
   have := ih (m := m.erase a) (List.nodup_cons.1 hl).2 fun x hx => by
    refine (List.mem_erase_of_ne ?_).2 (hs x (List.mem_cons_of_mem _ hx))
    rintro rfl
    exact (List.nodup_cons.1 hl).1 hx
   rw [List.length_cons]
   omega
 have := sub hn (m := List.range (k + 1)) fun x hx => List.mem_range.2 (by have := h x hx; omega)
 simpa using this
section
variable {κ : Type} [DecidableEq κ]
def vE (enc : κ → Value) (val : κ → Value) : List κ → Nat → List MapEntry
 | [], _ => []
 | k :: ks, j => ⟨enc k, val k, j⟩ :: vE enc val ks (j + 1)
theorem vE_congr (enc : κ → Value) {val val' : κ → Value} : ∀ (ks : List κ) (j : Nat), (∀ k, k ∈ ks → val k = val' k) → vE enc val ks j = vE enc val' ks j
 | [], _, _ => rfl
 | k :: ks, j, h => by
  show _ :: vE enc val ks (j + 1) = _ :: vE enc val' ks (j + 1)
  rw [h k (List.mem_cons_self ..), vE_congr enc ks (j + 1) fun a ha => h a (List.mem_cons_of_mem _ ha)]
theorem vE_len (enc : κ → Value) (val : κ → Value) : ∀ (ks : List κ) (j : Nat), (vE enc val ks j).length = ks.length
 | [], _ => rfl
 | _ :: ks, j => by simp [vE, vE_len enc val ks]
theorem vE_snoc (enc : κ → Value) (val : κ → Value) (k : κ) : ∀ (ks : List κ) (j : Nat), vE enc val (ks ++ [k]) j = vE enc val ks j ++ [⟨enc k, val k, j + ks.length⟩]
 | [], j => rfl
 | a :: ks, j => by
  show _ :: vE enc val (ks ++ [k]) (j + 1) = _
  rw [vE_snoc enc val k ks]
  simp [vE, Nat.add_assoc, Nat.add_comm 1]
theorem vE_at (enc : κ → Value) (val : κ → Value) : ∀ (ks : List κ) (j i : Nat), (vE enc val ks j)[i]? = ks[i]?.map fun k => ⟨enc k, val k, j + i⟩
 | [], _, _ => rfl
 | a :: ks, j, 0 => rfl
 | a :: ks, j, i + 1 => by
  show (vE enc val ks (j + 1))[i]? = _
  rw [vE_at enc val ks]
  simp [Nat.add_assoc, Nat.add_comm 1]
theorem vE_mem {enc : κ → Value} {val : κ → Value} {ks : List κ} {e : MapEntry} (h : e ∈ vE enc val ks 0) : ∃ i k, ks[i]? = some k ∧ e = ⟨enc k, val k, i⟩ := by
 obtain ⟨i, hi, rfl⟩ := List.getElem_of_mem h
 have hl : i < ks.length := by rwa [vE_len] at hi
 have h1 := vE_at enc val ks 0 i
 rw [List.getElem?_eq_getElem hi, List.getElem?_eq_getElem hl] at h1
 exact ⟨i, ks[i], List.getElem?_eq_getElem hl, by simpa using h1⟩
theorem vE_in {enc : κ → Value} {val : κ → Value} {ks : List κ} {i : Nat} {k : κ} (h : ks[i]? = some k) : (⟨enc k, val k, i⟩ : MapEntry) ∈ vE enc val ks 0 := by
 have h1 := vE_at enc val ks 0 i
 rw [h] at h1
 exact List.mem_of_getElem? (by simpa using h1)
theorem vE_born (enc : κ → Value) (val : κ → Value) : ∀ (ks : List κ) (j : Nat), (vE enc val ks j).map (·.born) = List.range' j ks.length
 | [], _ => rfl
 | k :: ks, j => by
  show j :: (vE enc val ks (j + 1)).map (·.born) = _
  rw [vE_born enc val ks, List.length_cons, List.range'_succ]
theorem vE_nodup (enc : κ → Value) (val : κ → Value) (ks : List κ) : ((vE enc val ks 0).map (·.born)).Nodup := by
 rw [vE_born]
 exact List.nodup_range'
theorem vE_lt {enc : κ → Value} {val : κ → Value} {ks : List κ} : ∀ e ∈ vE enc val ks 0, e.born < ks.length := fun e he => by
 obtain ⟨i, k, h, rfl⟩ := vE_mem he
 exact (List.getElem?_eq_some_iff.1 h).1
variable {P : Program} {kt : TypeId} {enc : κ → Value} {val : κ → Value} {good : κ → Prop}
theorem GK.vidx (h : GK P kt enc good) {k : κ} (hk : good k) : ∀ (ks : List κ) (j : Nat), (∀ a, a ∈ ks → good a) → ((vE enc val ks j).findIdx? fun e => Go.AM.veq e.key (enc k)) = if k ∈ ks then some (ks.idxOf k) else none
 | [], _, _ => rfl
 | a :: ks, j, hg => by
  show (List.findIdx? _ (_ :: vE enc val ks (j + 1))) = _
  rw [List.findIdx?_cons]
  show (if Go.AM.veq (enc a) (enc k) = true then some 0 else Option.map (fun i => i + 1) (List.findIdx? _ (vE enc val ks (j + 1)))) = _
  rw [h.veq (hg a (List.mem_cons_self ..)) hk, h.vidx hk ks (j + 1) fun b hb => hg b (List.mem_cons_of_mem _ hb)]
  by_cases e : a = k
  ·subst e; simp
  ·have e' : ¬ k = a := fun x => e x.symm
   have : (a == k) = false := by simpa using e
   simp only [decide_eq_false e, List.mem_cons, e', false_or, List.idxOf_cons, this, cond_false]
   by_cases hm : k ∈ ks <;> simp [hm]
theorem GK.vfind (h : GK P kt enc good) {k : κ} (hk : good k) {ks : List κ} (hg : ∀ a, a ∈ ks → good a) : afind P kt (enc k) (vE enc val ks 0) = some (if k ∈ ks then some (ks.idxOf k) else none) := by
 unfold afind
 rw [if_pos ⟨h.wide, (h.ok k hk).1, (h.ok k hk).2⟩, h.vidx hk ks 0 hg]
theorem idx_at {ks : List κ} {k : κ} (hm : k ∈ ks) : ks[ks.idxOf k]? = some k := by
 have hl : ks.idxOf k < ks.length := List.idxOf_lt_length_of_mem hm
 rw [List.getElem?_eq_getElem hl, List.getElem_idxOf hl]
theorem GK.vyes (h : GK P kt enc good) {k : κ} (hk : good k) {ks : List κ} (hg : ∀ a, a ∈ ks → good a) (hm : k ∈ ks) {H : Heap} {y c : Nat} {t et : TypeId} (ht : P.underlying t = some (.map kt et)) (hy : H y = .map (vE enc val ks 0) c kt) (ok : Bool) :
  alookup P t H (.map (some y)) (enc k) ok = some { v := if ok then .tuple #[val k, .bool true] else val k, rd := [y] } := by
 unfold alookup
 simp only [ht, hy, if_true, h.vfind hk hg, hm, vE_at, idx_at hm, Option.map_some, Nat.zero_add]
theorem GK.vno (h : GK P kt enc good) {k : κ} (hk : good k) {ks : List κ} (hg : ∀ a, a ∈ ks → good a) (hm : k ∉ ks) {H : Heap} {y c : Nat} {t et : TypeId} (ht : P.underlying t = some (.map kt et)) {z : Value} (hz : (P.info? et).bind (·.zero) = some z) (hs : still z = true)
  (hy : H y = .map (vE enc val ks 0) c kt) (ok : Bool) :
  alookup P t H (.map (some y)) (enc k) ok = some { v := if ok then .tuple #[z, .bool false] else z, rd := [y] } := by
 unfold alookup
 simp only [ht, hy, if_true, h.vfind hk hg, hm, if_false, hz, hs]
theorem GK.vput (h : GK P kt enc good) {k : κ} (hk : good k) {ks : List κ} (hg : ∀ a, a ∈ ks → good a) (hm : k ∉ ks) {H : Heap} {y : Nat} {t et : TypeId} (ht : P.underlying t = some (.map kt et)) (hy : H y = .map (vE enc val ks 0) ks.length kt) {val' : κ → Value}
  (hv : ∀ a, a ∈ ks → val a = val' a) : amapset P t H (.map (some y)) (enc k) (val' k) = some { v := undef, wr := some (y, .map (vE enc val' (ks ++ [k]) 0) (ks ++ [k]).length kt) } := by
 unfold amapset
 simp only [ht, hy, if_true, h.vfind hk hg, hm, if_false, vE_snoc, Nat.zero_add, List.length_append, List.length_singleton]
 rw [vE_congr enc ks 0 hv]
theorem GK.vsame (h : GK P kt enc good) {k : κ} (hk : good k) {ks : List κ} (hg : ∀ a, a ∈ ks → good a) (hm : k ∈ ks) {H : Heap} {y : Nat} {t et : TypeId} (ht : P.underlying t = some (.map kt et)) (hy : H y = .map (vE enc val ks 0) ks.length kt) :
  amapset P t H (.map (some y)) (enc k) (val k) = some { v := undef, wr := some (y, .map (vE enc val ks 0) ks.length kt) } := by
 have e : ((vE enc val ks 0).modify (ks.idxOf k) fun e => { e with val := val k }) = vE enc val ks 0 := by
  apply List.ext_getElem?
  intro q
  rw [List.getElem?_modify]
  by_cases hq : ks.idxOf k = q
  ·subst hq
   rw [vE_at, idx_at hm]
   simp
  ·simp [hq]
 unfold amapset
 simp only [ht, hy, if_true, h.vfind hk hg, hm, e]
end
end Go.AM
namespace Go.AM.Fo
variable {g : Gram}
theorem rgF_eq {i : Nat} (h : i < g.rules.length) : rgt g i = g.rules[i].right := by unfold rgt; rw [List.getElem?_eq_getElem h]; rfl
theorem lfF_eq {i : Nat} (h : i < g.rules.length) : lft g i = g.rules[i].left := by unfold lft; rw [List.getElem?_eq_getElem h]; rfl
inductive Dv (g : Gram) : List Int → List Int → List Int → Prop
 | nil : Dv g [] [] []
 | term {s : Int} {l d w : List Int} (h : s < 0) (k : Dv g l d w) : Dv g (s :: l) d ((-s - 1) :: w)
 | var {i : Nat} {l d1 d2 w1 w2 : List Int} (h : i < g.rules.length) (x : Dv g (rgt g i) d1 w1) (k : Dv g l d2 w2) : Dv g (lft g i :: l) ((i : Int) :: (d1 ++ d2)) (w1 ++ w2)
theorem Dv.one {i : Nat} {d w : List Int} (h : i < g.rules.length) (x : Dv g (rgt g i) d w) : Dv g [lft g i] ((i : Int) :: d) w := by
 have := Dv.var h x .nil
 simpa using this
theorem Dv.append {a b d e u v : List Int} (h : Dv g a d u) (k : Dv g b e v) : Dv g (a ++ b) (d ++ e) (u ++ v) := by
 induction h with
 | nil => exact k
 | term h _ ih => exact .term h ih
 | @var i l d1 d2 w1 w2 h x _ _ ih =>
  rw [List.cons_append, List.append_assoc, List.cons_append, List.append_assoc]
  exact .var h x ih
theorem Dv.pos (hg : InG g) {l d w : List Int} (h : Dv g l d w) : ∀ t ∈ w, 0 ≤ t := by
 induction h with
 | nil => intro t ht; cases ht
 | term h _ ih =>
  intro t ht
  rcases List.mem_cons.1 ht with rfl | ht
  ·omega
  ·exact ih t ht
 | var h _ _ ih1 ih2 =>
  intro t ht
  rcases List.mem_append.1 ht with ht | ht
  ·exact ih1 t ht
  ·exact ih2 t ht
theorem lft0 (hg : InG g) {i : Nat} (h : i < g.rules.length) : 0 ≤ lft g i := by rw [lfF_eq h]; exact hg.left0 _ (List.getElem_mem h)
theorem Dv.var_inv {v : Int} {l d w : List Int} (h0 : 0 ≤ v) (h : Dv g (v :: l) d w) : ∃ (i : Nat) (d1 d2 w1 w2 : List Int), i < g.rules.length ∧ lft g i = v ∧ d = (i : Int) :: (d1 ++ d2) ∧ w = w1 ++ w2 ∧ Dv g (rgt g i) d1 w1 ∧ Dv g l d2 w2 := by
 generalize hl : v :: l = L at h
 cases h with
 | nil => cases hl
 | term h _ => cases hl; omega
 | @var i _ d1 d2 w1 w2 h x k => cases hl; exact ⟨i, d1, d2, w1, w2, h, rfl, rfl, rfl, x, k⟩
theorem Dv.nil_inv {d w : List Int} (h : Dv g [] d w) : d = [] ∧ w = [] := by
 generalize hl : ([] : List Int) = L at h
 cases h with
 | nil => exact ⟨rfl, rfl⟩
 | term => cases hl
 | var => cases hl
theorem Dv.term_inv {s : Int} {l d w : List Int} (hs : s < 0) (hg : InG g) (h : Dv g (s :: l) d w) : ∃ w', w = (-s - 1) :: w' ∧ Dv g l d w' := by
 generalize hl : s :: l = L at h
 cases h with
 | nil => cases hl
 | term _ k => cases hl; exact ⟨_, rfl, k⟩
 | var h _ _ => cases hl; have := lft0 hg h; omega
theorem Dv.one_inv {v : Int} {d w : List Int} (h0 : 0 ≤ v) (h : Dv g [v] d w) : ∃ (i : Nat) (e : List Int), i < g.rules.length ∧ lft g i = v ∧ d = (i : Int) :: e ∧ Dv g (rgt g i) e w := by
 obtain ⟨i, d1, d2, w1, w2, h1, h2, rfl, rfl, h3, h4⟩ := h.var_inv h0
 obtain ⟨rfl, rfl⟩ := h4.nil_inv
 exact ⟨i, d1, h1, h2, by simp, by simpa using h3⟩
theorem Dv.pre (hg : InG g) {l d w : List Int} (h : Dv g l d w) : ∀ {d' w' x x' : List Int}, Dv g l d' w' → d ++ x = d' ++ x' → d = d' ∧ w = w' := by
 induction h with
 | nil => intro d' w' x x' h' e; obtain ⟨rfl, rfl⟩ := h'.nil_inv; exact ⟨rfl, rfl⟩
 | term h _ ih =>
  intro d' w' x x' h' e
  obtain ⟨w2, rfl, k⟩ := h'.term_inv h hg
  obtain ⟨rfl, rfl⟩ := ih k e
  exact ⟨rfl, rfl⟩
 | @var i l d1 d2 w1 w2 h _ _ ih1 ih2 =>
  intro d' w' x x' h' e
  obtain ⟨j, e1, e2, u1, u2, hj, hl, rfl, rfl, k1, k2⟩ := h'.var_inv (lft0 hg h)
  simp only [List.cons_append, List.cons.injEq, List.append_assoc] at e
  obtain ⟨eij, e⟩ := e
  obtain rfl : i = j := by omega
  obtain ⟨rfl, rfl⟩ := ih1 k1 e
  obtain ⟨rfl, rfl⟩ := ih2 k2 (List.append_cancel_left e)
  exact ⟨rfl, rfl⟩
def trm (w : List Int) : List Int := w.map fun t => -t - 1
theorem trm_trm (w : List Int) : trm (trm w) = w := by
 unfold trm
 rw [List.map_map]
 conv => rhs; rw [← List.map_id w]
 apply List.map_congr_left
 intro t _
 simp only [Function.comp, id]
 omega
theorem trm_neg {w : List Int} (h : ∀ t ∈ w, 0 ≤ t) : ∀ s ∈ trm w, s < 0 := by
 intro s hs
 obtain ⟨t, ht, rfl⟩ := List.mem_map.1 hs
 have := h t ht
 show -t - 1 < 0
 omega
theorem Dv.replay (hg : InG g) {l d w : List Int} (h : Dv g l d w) : ∀ (t F rest : List Int) (k : Nat), (∀ s ∈ t, s < 0) → replayS g (t ++ l ++ F) (d ++ rest) k = replayS g (t ++ trm w ++ F) rest (k + d.length) := by
 induction h with
 | nil => intro t F rest k _; rfl
 | @term s l d w hs _ ih =>
  intro t F rest k ht
  have := ih (t ++ [s]) F rest k (fun x hx => by
   rcases List.mem_append.1 hx with hx | hx
   ·exact ht x hx
   ·have : x = s := by simpa using hx
    omega)
  have e : trm ((-s - 1) :: w) = s :: trm w := by unfold trm; rw [List.map_cons]; congr 1; omega
  rw [e]
  simpa using this
 | @var i l d1 d2 w1 w2 hi x _ ih1 ih2 =>
  intro t F rest k ht
  have e1 : t ++ (lft g i :: l) ++ F = t ++ g.rules[i].left :: (l ++ F) := by rw [lfF_eq hi]; simp
  have e2 : ((i : Int) :: (d1 ++ d2)) ++ rest = (i : Int) :: (d1 ++ (d2 ++ rest)) := by simp
  have hs := step_at hg ht hi (rest := l ++ F)
  rw [e1, e2]
  simp only [replayS, hs, if_true]
  rw [← rgF_eq hi, ih1 t (l ++ F) (d2 ++ rest) (k + 1) ht]
  have hw1 := trm_neg (x.pos hg)
  have := ih2 (t ++ trm w1) F rest (k + 1 + d1.length) (fun s hs => by
   rcases List.mem_append.1 hs with hs | hs
   ·exact ht s hs
   ·exact hw1 s hs)
  have e3 : t ++ trm w1 ++ (l ++ F) = t ++ trm w1 ++ l ++ F := by simp
  have e4 : t ++ trm (w1 ++ w2) ++ F = t ++ trm w1 ++ trm w2 ++ F := by unfold trm; simp
  rw [e3, this, e4]
  congr 1
  simp; omega
abbrev Nd := Int × Nat × Nat
abbrev Way := Nat × List Nat
def sub (w : List Int) (a b : Nat) : List Int := (w.drop a).take (b - a)
theorem sub_len {w : List Int} {a b : Nat} (h1 : a ≤ b) (h2 : b ≤ w.length) : (sub w a b).length = b - a := by unfold sub; simp; omega
theorem sub_nil (w : List Int) (a : Nat) : sub w a a = [] := by unfold sub; simp
theorem sub_append {w : List Int} {a c b : Nat} (h1 : a ≤ c) (h2 : c ≤ b) : sub w a c ++ sub w c b = sub w a b := by
 unfold sub
 have e : w.drop c = (w.drop a).drop (c - a) := by rw [List.drop_drop]; congr 1; omega
 rw [e, show b - a = (c - a) + (b - c) by omega, List.take_add]
theorem sub_cons {w : List Int} {a b : Nat} (h1 : a < b) (h2 : b ≤ w.length) : sub w a b = w.getD a 0 :: sub w (a + 1) b := by
 have h3 : a < w.length := by omega
 unfold sub
 rw [List.drop_eq_getElem_cons h3, show b - a = (b - (a + 1)) + 1 by omega, List.take_succ_cons]
 simp [List.getD, List.getElem?_eq_getElem h3]
theorem sub_all (w : List Int) : sub w 0 w.length = w := by unfold sub; simp
def fit (w : List Int) (rd : Nd → Nat) (ah : Nat) (s : Int) (a b : Nat) : Bool :=
 if 0 ≤ s then decide (0 < rd (s, a, b)) && (decide (ah = 0) || decide (rd (s, a, b) < ah)) else decide (b = a + 1) && decide (w.getD a 0 = -s - 1)
def Seg (w : List Int) (rd : Nd → Nat) (ah : Nat) : List Int → Nat → List Nat → Nat → Prop
 | [], a, [], b => a = b
 | s :: ss, a, c :: cs, b => a ≤ c ∧ fit w rd ah s a c = true ∧ Seg w rd ah ss c cs b
 | _, _, _, _ => False
theorem Seg.le {w : List Int} {rd : Nd → Nat} {ah : Nat} : ∀ {ss : List Int} {a : Nat} {cs : List Nat} {b : Nat}, Seg w rd ah ss a cs b → a ≤ b
 | [], a, [], b, h => Nat.le_of_eq h
 | [], a, _ :: _, b, h => h.elim
 | _ :: _, a, [], b, h => h.elim
 | s :: ss, a, c :: cs, b, h => Nat.le_trans h.1 (Seg.le h.2.2)
theorem Seg.len {w : List Int} {rd : Nd → Nat} {ah : Nat} : ∀ {ss : List Int} {a : Nat} {cs : List Nat} {b : Nat}, Seg w rd ah ss a cs b → cs.length = ss.length
 | [], a, [], b, h => rfl
 | [], a, _ :: _, b, h => h.elim
 | _ :: _, a, [], b, h => h.elim
 | s :: ss, a, c :: cs, b, h => by rw [List.length_cons, List.length_cons, Seg.len h.2.2]
theorem fit_weak {w : List Int} {rd : Nd → Nat} {ah : Nat} {s : Int} {a b : Nat} (h : fit w rd ah s a b = true) : fit w rd 0 s a b = true := by
 unfold fit at h ⊢
 split
 ·rename_i hs; rw [if_pos hs] at h; simp at h ⊢; exact h.1
 ·rename_i hs; rw [if_neg hs] at h; exact h
theorem Seg.weak {w : List Int} {rd : Nd → Nat} {ah : Nat} : ∀ {ss : List Int} {a : Nat} {cs : List Nat} {b : Nat}, Seg w rd ah ss a cs b → Seg w rd 0 ss a cs b
 | [], a, [], b, h => h
 | [], a, _ :: _, b, h => h.elim
 | _ :: _, a, [], b, h => h.elim
 | s :: ss, a, c :: cs, b, h => ⟨h.1, fit_weak h.2.1, Seg.weak h.2.2⟩
def enum (w : List Int) (rd : Nd → Nat) (ah : Nat) : List Int → Nat → Nat → List (List Nat)
 | [], a, b => if a = b then [[]] else []
 | s :: ss, a, b => (List.range' a (b + 1 - a)).flatMap fun c => if fit w rd ah s a c = true then (enum w rd ah ss c b).map (c :: ·) else []
theorem mem_enum {w : List Int} {rd : Nd → Nat} {ah : Nat} : ∀ {ss : List Int} {a b : Nat} {cs : List Nat}, cs ∈ enum w rd ah ss a b ↔ Seg w rd ah ss a cs b
 | [], a, b, cs => by
  unfold enum
  by_cases e : a = b
  ·rw [if_pos e]
   cases cs with
   | nil => simp [Seg, e]
   | cons => simp [Seg]
  ·rw [if_neg e]
   cases cs with
   | nil => simp [Seg, e]
   | cons => simp [Seg]
 | s :: ss, a, b, cs => by
  unfold enum
  rw [List.mem_flatMap]
  constructor
  ·rintro ⟨c, hc, h⟩
   split at h
   ·rename_i hf
    obtain ⟨ds, hd, rfl⟩ := List.mem_map.1 h
    have := List.mem_range'.1 hc
    obtain ⟨i, hi, rfl⟩ := this
    exact ⟨by omega, hf, mem_enum.1 hd⟩
   ·cases h
  ·intro h
   cases cs with
   | nil => exact h.elim
   | cons c cs =>
    have h1 := h.1
    have h2 := Seg.le h.2.2
    refine ⟨c, List.mem_range'.2 ⟨c - a, by omega, by omega⟩, ?_⟩
    rw [if_pos h.2.1]
    exact List.mem_map.2 ⟨cs, mem_enum.2 h.2.2, rfl⟩
theorem enum_nodup {w : List Int} {rd : Nd → Nat} {ah : Nat} : ∀ (ss : List Int) (a b : Nat), (enum w rd ah ss a b).Nodup
 | [], a, b => by unfold enum; split <;> simp
 | s :: ss, a, b => by
  unfold enum
  rw [List.nodup_iff_pairwise_ne, List.pairwise_flatMap]
  refine ⟨fun c _ => ?_, ?_⟩
  ·split
   ·rw [List.pairwise_map]
    exact (List.nodup_iff_pairwise_ne.1 (enum_nodup ss c b)).imp fun h e => h (List.cons.inj e).2
   ·exact .nil
  ·have := List.pairwise_lt_range' (s := a) (n := b + 1 - a)
   refine this.imp fun {c d} hcd x hx y hy e => ?_
   split at hx
   ·split at hy
    ·obtain ⟨_, _, rfl⟩ := List.mem_map.1 hx
     obtain ⟨_, _, rfl⟩ := List.mem_map.1 hy
     have := (List.cons.inj e).1
     omega
    ·cases hy
   ·cases hx
def ofv (g : Gram) (v : Int) : List Nat := (List.range g.rules.length).filter fun r => decide (lft g r = v)
def waysL (g : Gram) (w : List Int) (rd : Nd → Nat) (ah : Nat) (x : Nd) : List Way := (ofv g x.1).flatMap fun r => (enum w rd ah (rgt g r) x.2.1 x.2.2).map fun cs => (r, cs)
theorem mem_ways {w : List Int} {rd : Nd → Nat} {ah : Nat} {x : Nd} {y : Way} : y ∈ waysL g w rd ah x ↔ y.1 < g.rules.length ∧ lft g y.1 = x.1 ∧ Seg w rd ah (rgt g y.1) x.2.1 y.2 x.2.2 := by
 unfold waysL ofv
 rw [List.mem_flatMap]
 constructor
 ·rintro ⟨r, hr, h⟩
  obtain ⟨cs, hc, rfl⟩ := List.mem_map.1 h
  obtain ⟨h1, h2⟩ := List.mem_filter.1 hr
  exact ⟨List.mem_range.1 h1, of_decide_eq_true h2, mem_enum.1 hc⟩
 ·rintro ⟨h1, h2, h3⟩
  exact ⟨y.1, List.mem_filter.2 ⟨List.mem_range.2 h1, decide_eq_true h2⟩, List.mem_map.2 ⟨y.2, mem_enum.2 h3, rfl⟩⟩
theorem ways_nodup (w : List Int) (rd : Nd → Nat) (ah : Nat) (x : Nd) : (waysL g w rd ah x).Nodup := by
 unfold waysL
 rw [List.nodup_iff_pairwise_ne, List.pairwise_flatMap]
 refine ⟨fun r _ => ?_, ?_⟩
 ·rw [List.pairwise_map]
  exact (List.nodup_iff_pairwise_ne.1 (enum_nodup _ _ _)).imp fun h e => h (Prod.mk.inj e).2
 ·have : (ofv g x.1).Pairwise (· < ·) := List.Pairwise.filter _ List.pairwise_lt_range
  refine this.imp fun {c d} hcd p hp q hq e => ?_
  obtain ⟨_, _, rfl⟩ := List.mem_map.1 hp
  obtain ⟨_, _, rfl⟩ := List.mem_map.1 hq
  have := (Prod.mk.inj e).1
  omega
structure FoOK (g : Gram) (w : List Int) (rd : Nd → Nat) : Prop where
 val : ∀ x, rd x ≠ 0 → 0 ≤ x.1 ∧ x.2.1 ≤ x.2.2 ∧ x.2.2 ≤ w.length
 sound : ∀ x, rd x ≠ 0 → ∃ y, y ∈ waysL g w rd (rd x) x
 compl : ∀ x y, x.2.1 ≤ x.2.2 → x.2.2 ≤ w.length → y ∈ waysL g w rd 0 x → rd x ≠ 0
inductive DvL (g : Gram) (w : List Int) : List Int → Nat → List Nat → List Int → Prop
 | nil (a : Nat) : DvL g w [] a [] []
 | term {s : Int} {ss : List Int} {a c : Nat} {cs : List Nat} {d : List Int} (h : s < 0) (k : DvL g w ss c cs d) : DvL g w (s :: ss) a (c :: cs) d
 | var {s : Int} {ss : List Int} {a c : Nat} {cs : List Nat} {d1 d2 : List Int} (h : 0 ≤ s) (x : Dv g [s] d1 (sub w a c)) (k : DvL g w ss c cs d2) : DvL g w (s :: ss) a (c :: cs) (d1 ++ d2)
theorem DvL.dv {w : List Int} {rd : Nd → Nat} {ah : Nat} {ss : List Int} {a : Nat} {cs : List Nat} {d : List Int} (h : DvL g w ss a cs d) : ∀ {b : Nat}, b ≤ w.length → Seg w rd ah ss a cs b → Dv g ss d (sub w a b) := by
 induction h with
 | nil a => intro b hb hs; have : a = b := hs; subst this; rw [sub_nil]; exact .nil
 | @term s ss a c cs d h _ ih =>
  intro b hb hs
  obtain ⟨h1, h2, h3⟩ := hs
  have hcb := Seg.le h3
  unfold fit at h2
  rw [if_neg (by omega)] at h2
  simp only [Bool.and_eq_true, decide_eq_true_eq] at h2
  obtain ⟨rfl, h4⟩ := h2
  rw [sub_cons (by omega) hb, h4]
  exact .term h (ih hb h3)
 | @var s ss a c cs d1 d2 h x _ ih =>
  intro b hb hs
  obtain ⟨h1, h2, h3⟩ := hs
  rw [← sub_append h1 (Seg.le h3)]
  exact x.append (ih hb h3)
theorem FoOK.lay {w : List Int} {rd : Nd → Nat} (fo : FoOK g w rd) (hg : InG g) {l d u : List Int} (h : Dv g l d u) : ∀ {a b : Nat}, a ≤ b → b ≤ w.length → u = sub w a b → ∃ cs, Seg w rd 0 l a cs b ∧ DvL g w l a cs d := by
 induction h with
 | nil =>
  intro a b h1 h2 e
  have := congrArg List.length e
  rw [sub_len h1 h2] at this
  simp at this
  exact ⟨[], by show a = b; omega, .nil a⟩
 | @term s l d u hs _ ih =>
  intro a b h1 h2 e
  have hlt : a < b := by
   have := congrArg List.length e
   rw [sub_len h1 h2] at this
   simp at this
   omega
  rw [sub_cons hlt h2] at e
  obtain ⟨e1, e2⟩ := List.cons.inj e
  obtain ⟨cs, h3, h4⟩ := ih (by omega) h2 e2
  refine ⟨(a + 1) :: cs, ⟨by omega, ?_, h3⟩, .term hs h4⟩
  unfold fit
  rw [if_neg (by omega), ← e1]
  simp
 | @var i l d1 d2 w1 w2 hi x k ih1 ih2 =>
  intro a b h1 h2 e
  have hl := congrArg List.length e
  rw [sub_len h1 h2, List.length_append] at hl
  have hc1 : a ≤ a + w1.length := by omega
  have hc2 : a + w1.length ≤ b := by omega
  rw [← sub_append hc1 hc2] at e
  have hlen : w1.length = (sub w a (a + w1.length)).length := by rw [sub_len hc1 (by omega)]; omega
  obtain ⟨e1, e2⟩ := List.append_inj e hlen
  obtain ⟨cs1, h3, h4⟩ := ih1 hc1 (by omega) e1
  obtain ⟨cs2, h5, h6⟩ := ih2 hc2 h2 e2
  have h0 := lft0 hg hi
  have hrd : rd (lft g i, a, a + w1.length) ≠ 0 := fo.compl (lft g i, a, a + w1.length) (i, cs1) hc1 (by show a + w1.length ≤ w.length; omega) (mem_ways.2 ⟨hi, rfl, h3⟩)
  refine ⟨(a + w1.length) :: cs2, ⟨hc1, ?_, h5⟩, ?_⟩
  ·unfold fit
   rw [if_pos h0]
   simp
   omega
  ·have hx : Dv g [lft g i] ((i : Int) :: d1) (sub w a (a + w1.length)) := by rw [← e1]; exact .one hi x
   have := DvL.var h0 hx h6
   simpa using this
theorem FoOK.ways {w : List Int} {rd : Nd → Nat} (fo : FoOK g w rd) (hg : InG g) {x : Nd} (h0 : 0 ≤ x.1) (h1 : x.2.1 ≤ x.2.2) (h2 : x.2.2 ≤ w.length) {d : List Int} :
  Dv g [x.1] d (sub w x.2.1 x.2.2) ↔ ∃ y e, y ∈ waysL g w rd 0 x ∧ d = (y.1 : Int) :: e ∧ DvL g w (rgt g y.1) x.2.1 y.2 e := by
 constructor
 ·intro h
  obtain ⟨i, e, hi, hl, rfl, h3⟩ := h.one_inv h0
  obtain ⟨cs, h4, h5⟩ := fo.lay hg h3 h1 h2 rfl
  exact ⟨(i, cs), e, mem_ways.2 ⟨hi, hl, h4⟩, rfl, h5⟩
 ·rintro ⟨y, e, hy, rfl, h3⟩
  obtain ⟨h4, h5, h6⟩ := mem_ways.1 hy
  rw [← h5]
  exact .one h4 (h3.dv h2 h6)
theorem FoOK.has {w : List Int} {rd : Nd → Nat} (fo : FoOK g w rd) (hg : InG g) {x : Nd} (h0 : 0 ≤ x.1) (h1 : x.2.1 ≤ x.2.2) (h2 : x.2.2 ≤ w.length) {d : List Int} (h : Dv g [x.1] d (sub w x.2.1 x.2.2)) : rd x ≠ 0 := by
 obtain ⟨y, e, hy, _⟩ := (fo.ways hg h0 h1 h2).1 h
 exact fo.compl x y h1 h2 hy
end Go.AM.Fo
namespace Go.AM.Fo
variable {g : Gram} {w : List Int} {rd : Nd → Nat}
def kid1 (s : Int) (a c : Nat) : Nd := (if 0 ≤ s then s else -1, a, c)
def kidsL : List Int → Nat → List Nat → List Nd
 | s :: ss, a, c :: cs => kid1 s a c :: kidsL ss c cs
 | _, _, _ => []
theorem kids_len : ∀ (ss : List Int) (a : Nat) (cs : List Nat), cs.length = ss.length → (kidsL ss a cs).length = ss.length
 | [], _, _, _ => rfl
 | s :: ss, a, [], h => by simp at h
 | s :: ss, a, c :: cs, h => by
  show (kidsL ss c cs).length + 1 = ss.length + 1
  rw [kids_len ss c cs (by simpa using h)]
def partsL (f : Nat → Nd → List Int) : Nat → List Nd → List Int
 | _, [] => []
 | j, y :: ys => f j y ++ partsL f (j + 1) ys
theorem parts_congr {f f' : Nat → Nd → List Int} : ∀ (ys : List Nd) (j : Nat), (∀ i y, ys[i]? = some y → f (j + i) y = f' (j + i) y) → partsL f j ys = partsL f' j ys
 | [], _, _ => rfl
 | y :: ys, j, h => by
  have h1 : f j y = f' j y := h 0 y rfl
  have h2 : partsL f (j + 1) ys = partsL f' (j + 1) ys := parts_congr ys (j + 1) fun i z hz => by
   have := h (i + 1) z (by simpa using hz)
   rwa [show j + (i + 1) = j + 1 + i by omega] at this
  show f j y ++ partsL f (j + 1) ys = f' j y ++ partsL f' (j + 1) ys
  rw [h1, h2]
theorem parts_snoc (f : Nat → Nd → List Int) (y : Nd) : ∀ (ys : List Nd) (j : Nat), partsL f j (ys ++ [y]) = partsL f j ys ++ f (j + ys.length) y
 | [], j => by simp [partsL]
 | z :: ys, j => by
  show f j z ++ partsL f (j + 1) (ys ++ [y]) = (f j z ++ partsL f (j + 1) ys) ++ _
  rw [parts_snoc f y ys, List.append_assoc, List.length_cons, show j + 1 + ys.length = j + (ys.length + 1) by omega]
def plk (g : Gram) (w : List Int) (rd : Nd → Nat) : Nat → Nd → List Int
 | 0, _ => []
 | k + 1, x => match waysL g w rd (rd x) x with
  | [] => []
  | y :: _ => (y.1 : Int) :: partsL (fun _ z => if 0 ≤ z.1 then plk g w rd k z else []) 0 (kidsL (rgt g y.1) x.2.1 y.2)
def pl (g : Gram) (w : List Int) (rd : Nd → Nat) (x : Nd) : List Int := plk g w rd (rd x) x
def byF (g : Gram) (w : List Int) (rd : Nd → Nat) (wh : Int) (own : List Int) (i : Nat) (z : Nd) : List Int := if (i : Int) = wh then own else if 0 ≤ z.1 then pl g w rd z else []
def byL (g : Gram) (w : List Int) (rd : Nd → Nat) (x : Nd) (y : Way) (wh : Int) (own : List Int) : List Int := (y.1 : Int) :: partsL (byF g w rd wh own) 0 (kidsL (rgt g y.1) x.2.1 y.2)
theorem Seg.kid {ah : Nat} : ∀ {ss : List Int} {a : Nat} {cs : List Nat} {b : Nat}, Seg w rd ah ss a cs b → ∀ (i : Nat) (z : Nd), (kidsL ss a cs)[i]? = some z → a ≤ z.2.1 ∧ z.2.1 ≤ z.2.2 ∧ z.2.2 ≤ b ∧
  ((0 ≤ z.1 ∧ ss[i]? = some z.1 ∧ 0 < rd z ∧ (ah = 0 ∨ rd z < ah)) ∨ (z.1 = -1 ∧ z.2.2 = z.2.1 + 1 ∧ ∃ s, ss[i]? = some s ∧ s < 0))
 | [], a, [], b, h, i, z, hz => by simp [kidsL] at hz
 | [], a, _ :: _, b, h, i, z, hz => h.elim
 | _ :: _, a, [], b, h, i, z, hz => h.elim
 | s :: ss, a, c :: cs, b, h, i, z, hz => by
  obtain ⟨h1, h2, h3⟩ := h
  have hcb := Seg.le h3
  cases i with
  | zero =>
   simp [kidsL] at hz
   subst hz
   unfold kid1
   refine ⟨Nat.le_refl _, h1, hcb, ?_⟩
   unfold fit at h2
   by_cases hs : 0 ≤ s
   ·rw [if_pos hs] at h2
    simp at h2
    left
    simp only [if_pos hs]
    exact ⟨hs, by simp, h2.1, h2.2⟩
   ·rw [if_neg hs] at h2
    simp at h2
    right
    simp only [if_neg hs]
    exact ⟨by simp, h2.1, s, by simp, by omega⟩
  | succ i =>
   have hz' : (kidsL ss c cs)[i]? = some z := by simpa [kidsL] using hz
   obtain ⟨k1, k2, k3, k4⟩ := Seg.kid h3 i z hz'
   refine ⟨by omega, k2, k3, ?_⟩
   rcases k4 with k4 | k4
   ·left; simpa using k4
   ·right; simpa using k4
theorem plk_eq (hval : ∀ x, rd x ≠ 0 → True) : ∀ (k : Nat) (x : Nd), rd x ≠ 0 → rd x ≤ k → plk g w rd k x = pl g w rd x := by
 intro k
 induction k using Nat.strongRecOn with
 | ind k ih =>
  intro x h0 hk
  obtain ⟨m, hm⟩ : ∃ m, rd x = m + 1 := ⟨rd x - 1, by omega⟩
  obtain ⟨k', rfl⟩ : ∃ k', k = k' + 1 := ⟨k - 1, by omega⟩
  unfold pl
  rw [hm]
  unfold plk
  rw [hm]
  have hmem : ∀ y, y ∈ waysL g w rd (m + 1) x → Seg w rd (m + 1) (rgt g y.1) x.2.1 y.2 x.2.2 := fun y hy => (mem_ways.1 hy).2.2
  cases hL : waysL g w rd (m + 1) x with
  | nil => rfl
  | cons y ys =>
   simp only
   have hs := hmem y (by rw [hL]; exact List.mem_cons_self ..)
   congr 1
   apply parts_congr
   intro i z hz
   obtain ⟨_, _, _, hk4⟩ := Seg.kid hs i z hz
   rcases hk4 with ⟨z0, _, z1, z2⟩ | ⟨z0, _⟩
   ·simp only [if_pos z0]
    have hlt : rd z < m + 1 := by omega
    rw [ih k' (by omega) z (by omega) (by omega)]
    by_cases hkm : m < k' + 1
    ·rw [ih m (by omega) z (by omega) (by omega)]
    ·omega
   ·have : ¬ (0 ≤ z.1) := by omega
    simp only [if_neg this]
theorem pl_eq {x : Nd} (h0 : rd x ≠ 0) {y : Way} {ys : List Way} (hL : waysL g w rd (rd x) x = y :: ys) : pl g w rd x = byL g w rd x y (-1) [] := by
 obtain ⟨m, hm⟩ : ∃ m, rd x = m + 1 := ⟨rd x - 1, by omega⟩
 have hs := (mem_ways.1 (show y ∈ waysL g w rd (rd x) x by rw [hL]; exact List.mem_cons_self ..)).2.2
 unfold pl
 rw [hm]
 unfold plk
 rw [hL]
 simp only
 unfold byL
 congr 1
 apply parts_congr
 intro i z hz
 obtain ⟨_, _, _, hk4⟩ := Seg.kid hs i z hz
 unfold byF
 have hne : ¬ (((0 + i : Nat) : Int) = -1) := by omega
 rw [if_neg hne]
 rcases hk4 with ⟨z0, _, z1, z2⟩ | ⟨z0, _⟩
 ·rw [if_pos z0, if_pos z0]
  exact plk_eq (fun _ _ => trivial) m z (by omega) (by omega)
 ·have h1 : ¬ (0 ≤ z.1) := by omega
  rw [if_neg h1, if_neg h1]
theorem parts_dv {ah : Nat} {f : Nat → Nd → List Int} : ∀ {ss : List Int} {a : Nat} {cs : List Nat} {b : Nat} (j : Nat), Seg w rd ah ss a cs b →
  (∀ i z, (kidsL ss a cs)[i]? = some z → (0 ≤ z.1 → Dv g [z.1] (f (j + i) z) (sub w z.2.1 z.2.2)) ∧ (z.1 < 0 → f (j + i) z = [])) → DvL g w ss a cs (partsL f j (kidsL ss a cs))
 | [], a, [], b, j, h, hf => .nil a
 | [], a, _ :: _, b, j, h, hf => h.elim
 | _ :: _, a, [], b, j, h, hf => h.elim
 | s :: ss, a, c :: cs, b, j, h, hf => by
  obtain ⟨h1, h2, h3⟩ := h
  have hr := parts_dv (f := f) (j + 1) h3 fun i z hz => by
   have := hf (i + 1) z (by simpa [kidsL] using hz)
   rwa [show j + (i + 1) = j + 1 + i by omega] at this
  have hf0 := hf 0 (kid1 s a c) rfl
  rw [Nat.add_zero] at hf0
  obtain ⟨k1, k2⟩ := hf0
  show DvL g w (s :: ss) a (c :: cs) (f j (kid1 s a c) ++ partsL f (j + 1) (kidsL ss c cs))
  unfold kid1 at k1 k2 ⊢
  by_cases hs : 0 ≤ s
  ·simp only [if_pos hs] at k1 k2 ⊢
   exact .var hs (k1 hs) hr
  ·simp only [if_neg hs] at k1 k2 ⊢
   rw [k2 (by omega)]
   exact .term (by omega) hr
theorem FoOK.pl_dv (fo : FoOK g w rd) (hg : InG g) : ∀ (k : Nat) (x : Nd), rd x ≤ k → rd x ≠ 0 → Dv g [x.1] (pl g w rd x) (sub w x.2.1 x.2.2) := by
 intro k
 induction k with
 | zero => intro x h h0; omega
 | succ k ih =>
  intro x h h0
  obtain ⟨v1, v2, v3⟩ := fo.val x h0
  obtain ⟨y, hy⟩ := fo.sound x h0
  cases hL : waysL g w rd (rd x) x with
  | nil => rw [hL] at hy; cases hy
  | cons y ys =>
   rw [pl_eq h0 hL]
   have hm := mem_ways.1 (show y ∈ waysL g w rd (rd x) x by rw [hL]; exact List.mem_cons_self ..)
   refine (fo.ways hg v1 v2 v3).2 ⟨y, _, mem_ways.2 ⟨hm.1, hm.2.1, hm.2.2.weak⟩, rfl, parts_dv 0 hm.2.2 fun i z hz => ?_⟩
   obtain ⟨_, _, _, hk4⟩ := Seg.kid hm.2.2 i z hz
   unfold byF
   rw [if_neg (by omega)]
   rcases hk4 with ⟨z0, _, z1, z2⟩ | ⟨z0, _⟩
   ·exact ⟨fun _ => by rw [if_pos z0]; exact ih z (by omega) (by omega), fun h => by omega⟩
   ·exact ⟨fun h => by omega, fun _ => by rw [if_neg (by omega)]⟩
theorem FoOK.by_dv (fo : FoOK g w rd) (hg : InG g) {x : Nd} (h0 : rd x ≠ 0) {y : Way} (hy : y ∈ waysL g w rd 0 x) {wh : Int} {own : List Int}
  (hown : ∀ (i : Nat) z, (i : Int) = wh → (kidsL (rgt g y.1) x.2.1 y.2)[i]? = some z → 0 ≤ z.1 ∧ Dv g [z.1] own (sub w z.2.1 z.2.2)) : Dv g [x.1] (byL g w rd x y wh own) (sub w x.2.1 x.2.2) := by
 obtain ⟨v1, v2, v3⟩ := fo.val x h0
 have hm := mem_ways.1 hy
 refine (fo.ways hg v1 v2 v3).2 ⟨y, _, hy, rfl, parts_dv 0 hm.2.2 fun i z hz => ?_⟩
 obtain ⟨_, _, _, hk4⟩ := Seg.kid hm.2.2 i z hz
 unfold byF
 rw [Nat.zero_add]
 by_cases e : (i : Int) = wh
 ·rw [if_pos e]
  obtain ⟨o1, o2⟩ := hown i z e hz
  exact ⟨fun _ => o2, fun h => by omega⟩
 ·rw [if_neg e]
  rcases hk4 with ⟨z0, _, z1, z2⟩ | ⟨z0, _⟩
  ·exact ⟨fun _ => by rw [if_pos z0]; exact fo.pl_dv hg _ z (Nat.le_refl _) (by omega), fun h => by omega⟩
  ·exact ⟨fun h => by omega, fun _ => by rw [if_neg (by omega)]⟩
theorem seg_uniq (hg : InG g) : ∀ {ss : List Int} {a b b' : Nat} {cs cs' : List Nat} {d d' x x' : List Int}, b ≤ w.length → b' ≤ w.length → Seg w rd 0 ss a cs b → Seg w rd 0 ss a cs' b' → DvL g w ss a cs d → DvL g w ss a cs' d' → d ++ x = d' ++ x' → cs = cs'
 | [], a, b, b', [], [], d, d', x, x', hb, hb', h, h', k, k', e => rfl
 | [], a, b, b', _ :: _, _, d, d', x, x', hb, hb', h, h', k, k', e => h.elim
 | [], a, b, b', [], _ :: _, d, d', x, x', hb, hb', h, h', k, k', e => h'.elim
 | _ :: _, a, b, b', [], _, d, d', x, x', hb, hb', h, h', k, k', e => h.elim
 | _ :: _, a, b, b', _ :: _, [], d, d', x, x', hb, hb', h, h', k, k', e => h'.elim
 | s :: ss, a, b, b', c :: cs, c' :: cs', d, d', x, x', hb, hb', h, h', k, k', e => by
  obtain ⟨h1, h2, h3⟩ := h
  obtain ⟨h1', h2', h3'⟩ := h'
  have hcb := Seg.le h3
  have hcb' := Seg.le h3'
  cases k with
  | term hs k =>
   cases k' with
   | term _ k' =>
    unfold fit at h2 h2'
    rw [if_neg (by omega)] at h2 h2'
    simp at h2 h2'
    obtain ⟨rfl, _⟩ := h2
    obtain ⟨rfl, _⟩ := h2'
    rw [seg_uniq hg hb hb' h3 h3' k k' e]
   | var hs' _ _ => omega
  | @var _ _ _ _ _ d1 d2 hs x1 k =>
   cases k' with
   | term hs' _ => omega
   | @var _ _ _ _ _ e1 e2 _ x2 k' =>
    simp only [List.append_assoc] at e
    obtain ⟨rfl, e3⟩ := x1.pre hg x2 e
    have hl := congrArg List.length e3
    rw [sub_len h1 (by omega), sub_len h1' (by omega)] at hl
    obtain rfl : c = c' := by omega
    rw [seg_uniq hg hb hb' h3 h3' k k' (List.append_cancel_left e)]
theorem by_unlike (fo : FoOK g w rd) (hg : InG g) {x : Nd} (h0 : rd x ≠ 0) {y y' : Way} (hy : y ∈ waysL g w rd 0 x) (hy' : y' ∈ waysL g w rd 0 x) (hne : y ≠ y') : byL g w rd x y (-1) [] ≠ byL g w rd x y' (-1) [] := by
 intro e
 obtain ⟨v1, v2, v3⟩ := fo.val x h0
 have hm := mem_ways.1 hy
 have hm' := mem_ways.1 hy'
 have key : ∀ y, y ∈ waysL g w rd 0 x → DvL g w (rgt g y.1) x.2.1 y.2 (partsL (byF g w rd (-1) []) 0 (kidsL (rgt g y.1) x.2.1 y.2)) := fun y hy => by
  have hm := mem_ways.1 hy
  refine parts_dv 0 hm.2.2 fun i z hz => ?_
  obtain ⟨_, _, _, hk4⟩ := Seg.kid hm.2.2 i z hz
  unfold byF
  rw [if_neg (by omega)]
  rcases hk4 with ⟨z0, _, z1, z2⟩ | ⟨z0, _⟩
  ·exact ⟨fun _ => by rw [if_pos z0]; exact fo.pl_dv hg _ z (Nat.le_refl _) (by omega), fun h => by omega⟩
  ·exact ⟨fun h => by omega, fun _ => by rw [if_neg (by omega)]⟩
 unfold byL at e
 obtain ⟨e1, e2⟩ := List.cons.inj e
 have k1 := key y hy
 have k2 := key y' hy'
 obtain ⟨r, cs⟩ := y
 obtain ⟨r', cs'⟩ := y'
 simp only at e1 e2 hm hm' k1 k2
 obtain rfl : r = r' := by omega
 have := seg_uniq hg v3 v3 hm.2.2 hm'.2.2 k1 k2 (x := []) (x' := []) (by rw [List.append_nil, List.append_nil]; exact e2)
 exact hne (by rw [this])
theorem parts_own (wh : Nat) {own own' : List Int} : ∀ (ys : List Nd) (j : Nat), j ≤ wh → wh < j + ys.length → partsL (byF g w rd wh own) j ys = partsL (byF g w rd wh own') j ys → own = own'
  | [], j, h1, h2, _ => by simp at h2; omega
  | y :: ys, j, h1, h2, e => by
    have e : byF g w rd wh own j y ++ partsL (byF g w rd wh own) (j + 1) ys = byF g w rd wh own' j y ++ partsL (byF g w rd wh own') (j + 1) ys := e
    by_cases hj : j = wh
    · subst hj
      have h3 : partsL (byF g w rd j own) (j + 1) ys = partsL (byF g w rd j own') (j + 1) ys := parts_congr ys (j + 1) fun i z _ => by
        have h4 : ¬ (((j + 1 + i : Nat) : Int) = (j : Int)) := by omega
        unfold byF; rw [if_neg h4, if_neg h4]
      rw [h3] at e
      have := List.append_cancel_right e
      unfold byF at this
      simpa using this
    · have h3 : byF g w rd wh own j y = byF g w rd wh own' j y := by
        have h4 : ¬ ((j : Int) = (wh : Int)) := by omega
        unfold byF; rw [if_neg h4, if_neg h4]
      rw [h3] at e
      exact parts_own wh ys (j + 1) (by omega) (by simp at h2; omega) (List.append_cancel_left e)
theorem by_own {x : Nd} {y : Way} {wh : Nat} {own own' : List Int} (hw : wh < (kidsL (rgt g y.1) x.2.1 y.2).length) (h : own ≠ own') : byL g w rd x y wh own ≠ byL g w rd x y wh own' := by
 intro e
 unfold byL at e
 exact h (parts_own wh _ 0 (Nat.zero_le _) (by omega) (List.cons.inj e).2)
theorem FoOK.uniq (fo : FoOK g w rd) (hg : InG g) {R : Nd → Prop} (hR : ∀ x, R x → rd x ≠ 0 ∧ ∃ y, waysL g w rd 0 x = [y] ∧ ∀ z ∈ kidsL (rgt g y.1) x.2.1 y.2, 0 ≤ z.1 → R z) :
  ∀ (n : Nat) (x : Nd) (d d' : List Int), R x → d.length ≤ n → Dv g [x.1] d (sub w x.2.1 x.2.2) → Dv g [x.1] d' (sub w x.2.1 x.2.2) → d = d' := by
 intro n
 induction n with
 | zero =>
  intro x d d' hx hn h _
  obtain ⟨v1, _, _⟩ := fo.val x (hR x hx).1
  obtain ⟨i, e, _, _, rfl, _⟩ := h.one_inv v1
  simp at hn
 | succ n ih =>
  intro x d d' hx hn h h'
  obtain ⟨h0, y, hy, hk⟩ := hR x hx
  obtain ⟨v1, v2, v3⟩ := fo.val x h0
  obtain ⟨y1, e, m1, rfl, k1⟩ := (fo.ways hg v1 v2 v3).1 h
  obtain ⟨y2, e', m2, rfl, k2⟩ := (fo.ways hg v1 v2 v3).1 h'
  rw [hy] at m1 m2
  obtain rfl : y1 = y := by simpa using m1
  obtain rfl : y2 = y1 := by simpa using m2
  congr 1
  have hn' : e.length ≤ n := by simpa using hn
  have key : ∀ (ss : List Int) (a : Nat) (cs : List Nat) (e e' : List Int), (∀ z ∈ kidsL ss a cs, 0 ≤ z.1 → R z) → e.length ≤ n → DvL g w ss a cs e → DvL g w ss a cs e' → e = e' := by
   intro ss
   induction ss with
   | nil => intro a cs e e' _ _ k k'; cases k; cases k'; rfl
   | cons s ss ihs =>
    intro a cs e e' hz hl k k'
    cases k with
    | @term _ _ _ c cs _ hs k =>
     cases k' with
     | term _ k' => exact ihs c cs _ _ (fun z hzz => hz z (by simp [kidsL, hzz])) hl k k'
     | var hs' _ _ => omega
    | @var _ _ _ c cs d1 d2 hs x1 k =>
     cases k' with
     | term hs' _ => omega
     | @var _ _ _ _ _ e1 e2 _ x2 k' =>
      rw [List.length_append] at hl
      have hRz : R (s, a, c) := by
       have := hz (kid1 s a c) (by simp [kidsL])
       unfold kid1 at this
       simp only [if_pos hs] at this
       exact this hs
      rw [ih (s, a, c) d1 e1 hRz (by omega) x1 x2, ihs c cs d2 e2 (fun z hzz => hz z (by simp [kidsL, hzz])) (by omega) k k']
  exact key _ _ _ e e' hk hn' k1 k2
end Go.AM.Fo
namespace Go.AM.Fo
variable {g : Gram} {w : List Int} {rd : Nd → Nat}
def vM : Nat := 16777216
def vV : Nat := 2396745
def tT : Nat → Nat
 | 0 => 0
 | d + 1 => 1 + 8 * tT d
theorem tT_mono : ∀ {a b : Nat}, a ≤ b → tT a ≤ tT b
 | 0, _, _ => Nat.zero_le _
 | a + 1, 0, h => by omega
 | a + 1, b + 1, h => by
  have := tT_mono (a := a) (b := b) (by omega)
  show 1 + 8 * tT a ≤ 1 + 8 * tT b
  omega
theorem tT_8 : tT 8 = vV := rfl
def dn (rd : Nd → Nat) (x : Nd) : Nat := (List.range 8).countP fun (u : Nat) => decide (rd ((u : Int), x.2.1, x.2.2) ≠ 0) && decide (rd ((u : Int), x.2.1, x.2.2) ≤ rd x)
theorem dn_le (x : Nd) : dn rd x ≤ 8 := by have := List.countP_le_length (p := fun (u : Nat) => decide (rd ((u : Int), x.2.1, x.2.2) ≠ 0) && decide (rd ((u : Int), x.2.1, x.2.2) ≤ rd x)) (l := List.range 8); simpa [dn] using this
theorem countP_lt {α : Type} {p q : α → Bool} : ∀ {l : List α}, (∀ a ∈ l, p a = true → q a = true) → (∃ a ∈ l, q a = true ∧ p a = false) → l.countP p < l.countP q
 | [], _, h => by obtain ⟨a, ha, _⟩ := h; cases ha
 | x :: l, h, h' => by
  rw [List.countP_cons, List.countP_cons]
  have hle : l.countP p ≤ l.countP q := List.countP_mono_left fun a ha => h a (List.mem_cons_of_mem _ ha)
  obtain ⟨a, ha, h1, h2⟩ := h'
  rcases List.mem_cons.1 ha with rfl | ha
  ·rw [h1, h2]; simp; omega
  ·have ih := countP_lt (fun a ha => h a (List.mem_cons_of_mem _ ha)) ⟨a, ha, h1, h2⟩
   have hx := h x (List.mem_cons_self ..)
   cases hp : p x with
   | false => simp; omega
   | true => rw [hx hp]; simp; omega
theorem dn_lt {x z : Nd} (h0 : 0 ≤ x.1) (h8 : x.1 < 8) (hx : rd x ≠ 0) (h : rd z < rd x) (h1 : z.2 = x.2) : dn rd z < dn rd x := by
 unfold dn
 rw [h1]
 refine countP_lt (fun u _ hu => ?_) ⟨x.1.toNat, List.mem_range.2 (by omega), ?_, ?_⟩
 ·simp only [Bool.and_eq_true, decide_eq_true_eq] at hu ⊢
  exact ⟨hu.1, by omega⟩
 ·rw [Int.toNat_of_nonneg h0]
  simp only [Bool.and_eq_true, decide_eq_true_eq]
  exact ⟨hx, Nat.le_refl _⟩
 ·rw [Int.toNat_of_nonneg h0]
  have : ¬ rd (x.1, x.2.1, x.2.2) ≤ rd z := by show ¬ rd x ≤ rd z; omega
  simp [this]
theorem dn_pos {x : Nd} (h0 : 0 ≤ x.1) (h8 : x.1 < 8) (hx : rd x ≠ 0) : 0 < dn rd x := by
 unfold dn
 rw [List.countP_pos_iff]
 refine ⟨x.1.toNat, List.mem_range.2 (by omega), ?_⟩
 rw [Int.toNat_of_nonneg h0]
 simp only [Bool.and_eq_true, decide_eq_true_eq]
 exact ⟨hx, Nat.le_refl _⟩
section
variable {ah : Nat} {f : Nat → Nd → List Int}
theorem parts_U (b : Nat) : ∀ (ys : List Nd) (j : Nat), (∀ i z, ys[i]? = some z → (f (j + i) z).length ≤ b) → (partsL f j ys).length ≤ b * ys.length
 | [], _, _ => Nat.zero_le _
 | y :: ys, j, h => by
  have h1 := h 0 y rfl
  have h2 := parts_U b ys (j + 1) fun i z hz => by
   have := h (i + 1) z (by simpa using hz)
   rwa [show j + (i + 1) = j + 1 + i by omega] at this
  show (f j y ++ partsL f (j + 1) ys).length ≤ b * (ys.length + 1)
  rw [List.length_append, Nat.mul_succ]
  rw [Nat.add_zero] at h1
  omega
theorem parts_A : ∀ {ss : List Int} {a : Nat} {cs : List Nat} {b : Nat} (j : Nat), Seg w rd ah ss a cs b →
  (∀ i z, (kidsL ss a cs)[i]? = some z → (f (j + i) z).length ≤ 16 * vM * (z.2.2 - z.2.1) + vV) → (partsL f j (kidsL ss a cs)).length ≤ 16 * vM * (b - a) + vV * ss.length
 | [], a, [], b, j, h, hf => Nat.zero_le _
 | [], a, _ :: _, b, j, h, hf => h.elim
 | _ :: _, a, [], b, j, h, hf => h.elim
 | s :: ss, a, c :: cs, b, j, h, hf => by
  obtain ⟨h1, h2, h3⟩ := h
  have hcb := Seg.le h3
  have hr := parts_A (j + 1) h3 fun i z hz => by
   have := hf (i + 1) z (by simpa [kidsL] using hz)
   rwa [show j + (i + 1) = j + 1 + i by omega] at this
  have h0 := hf 0 (kid1 s a c) rfl
  rw [Nat.add_zero] at h0
  show (f j (kid1 s a c) ++ partsL f (j + 1) (kidsL ss c cs)).length ≤ _
  rw [List.length_append, List.length_cons]
  have h0' : (f j (kid1 s a c)).length ≤ 16 * vM * (c - a) + vV := h0
  unfold vM vV at *
  omega
theorem parts_O {own k : Nat} : ∀ {ss : List Int} {a : Nat} {cs : List Nat} {b : Nat} (j : Nat), Seg w rd ah ss a cs b → ∀ {zo : Nd}, (kidsL ss a cs)[k]? = some zo → (f (j + k) zo).length ≤ own →
  (∀ i z, i ≠ k → (kidsL ss a cs)[i]? = some z → (f (j + i) z).length ≤ 16 * vM * (z.2.2 - z.2.1) + vV) → (partsL f j (kidsL ss a cs)).length + 16 * vM * (zo.2.2 - zo.2.1) ≤ own + 16 * vM * (b - a) + vV * ss.length := by
 induction k with
 | zero =>
  intro ss a cs b j h zo hz ho hf
  cases ss with
  | nil => cases cs <;> simp [kidsL] at hz
  | cons s ss =>
   cases cs with
   | nil => exact h.elim
   | cons c cs =>
    obtain ⟨h1, h2, h3⟩ := h
    have hcb := Seg.le h3
    have hr := parts_A (f := f) (j + 1) h3 fun i z hz => by
     have := hf (i + 1) z (by omega) (by simpa [kidsL] using hz)
     rwa [show j + (i + 1) = j + 1 + i by omega] at this
    simp [kidsL] at hz
    subst hz
    rw [Nat.add_zero] at ho
    show (f j (kid1 s a c) ++ partsL f (j + 1) (kidsL ss c cs)).length + 16 * vM * (c - a) ≤ _
    rw [List.length_append, List.length_cons]
    unfold vM vV at *
    omega
 | succ k ih =>
  intro ss a cs b j h zo hz ho hf
  cases ss with
  | nil => cases cs <;> simp [kidsL] at hz
  | cons s ss =>
   cases cs with
   | nil => exact h.elim
   | cons c cs =>
    obtain ⟨h1, h2, h3⟩ := h
    have hcb := Seg.le h3
    have hr := ih (j + 1) h3 (zo := zo) (by simpa [kidsL] using hz) (by rwa [show j + 1 + k = j + (k + 1) by omega]) fun i z hi hz => by
     have := hf (i + 1) z (by omega) (by simpa [kidsL] using hz)
     rwa [show j + (i + 1) = j + 1 + i by omega] at this
    have h0 := hf 0 (kid1 s a c) (by omega) rfl
    rw [Nat.add_zero] at h0
    have h0' : (f j (kid1 s a c)).length ≤ 16 * vM * (c - a) + vV := h0
    show (f j (kid1 s a c) ++ partsL f (j + 1) (kidsL ss c cs)).length + _ ≤ _
    rw [List.length_append, List.length_cons]
    unfold vM vV at *
    omega
theorem parts_1 : ∀ {ss : List Int} {a : Nat} {cs : List Nat} {b : Nat} (j : Nat), Seg w rd ah ss a cs b → a < b →
    (∀ i z, (kidsL ss a cs)[i]? = some z → (z.2.1 = z.2.2 → (f (j + i) z).length ≤ vV) ∧ (z.2.1 < z.2.2 → (f (j + i) z).length + 8 * vM ≤ 16 * vM * (z.2.2 - z.2.1))) →
    (partsL f j (kidsL ss a cs)).length + 8 * vM + vV ≤ 16 * vM * (b - a) + vV * ss.length
  | [], a, [], b, j, h, hab, hf => by have : a = b := h; omega
  | [], a, _ :: _, b, j, h, hab, hf => h.elim
  | _ :: _, a, [], b, j, h, hab, hf => h.elim
  | s :: ss, a, c :: cs, b, j, h, hab, hf => by
    obtain ⟨h1, h2, h3⟩ := h
    have hcb := Seg.le h3
    have hf' : ∀ i z, (kidsL ss c cs)[i]? = some z → (z.2.1 = z.2.2 → (f (j + 1 + i) z).length ≤ vV) ∧ (z.2.1 < z.2.2 → (f (j + 1 + i) z).length + 8 * vM ≤ 16 * vM * (z.2.2 - z.2.1)) := fun i z hz => by
      have := hf (i + 1) z (by simpa [kidsL] using hz)
      rwa [show j + (i + 1) = j + 1 + i by omega] at this
    have h0 := hf 0 (kid1 s a c) rfl
    rw [Nat.add_zero] at h0
    obtain ⟨k1, k2⟩ := h0
    have k1 : a = c → (f j (kid1 s a c)).length ≤ vV := k1
    have k2 : a < c → (f j (kid1 s a c)).length + 8 * vM ≤ 16 * vM * (c - a) := k2
    show (f j (kid1 s a c) ++ partsL f (j + 1) (kidsL ss c cs)).length + 8 * vM + vV ≤ _
    rw [List.length_append, List.length_cons]
    by_cases hcb' : c < b
    · have hr := parts_1 (j + 1) h3 hcb' hf'
      by_cases hac : a = c
      · have := k1 hac
        unfold vM vV at *
        omega
      · have := k2 (by omega)
        unfold vM vV at *
        omega
    · have hr := parts_U (f := f) vV (kidsL ss c cs) (j + 1) fun i z hz => by
        obtain ⟨q1, q2, q3, _⟩ := Seg.kid h3 i z hz
        exact (hf' i z hz).1 (by omega)
      rw [kids_len ss c cs (Seg.len h3)] at hr
      have := k2 (by omega)
      unfold vM vV at *
      omega
theorem parts_2 : ∀ {ss : List Int} {a : Nat} {cs : List Nat} {b : Nat} (j : Nat), Seg w rd ah ss a cs b → a < b →
  (∀ i z, (kidsL ss a cs)[i]? = some z → z.2.2 - z.2.1 < b - a ∧ (z.2.1 = z.2.2 → (f (j + i) z).length ≤ vV) ∧ (z.2.1 < z.2.2 → (f (j + i) z).length + 8 * vM ≤ 16 * vM * (z.2.2 - z.2.1))) →
  (partsL f j (kidsL ss a cs)).length + 16 * vM + vV ≤ 16 * vM * (b - a) + vV * ss.length
 | [], a, [], b, j, h, hab, hf => by have : a = b := h; omega
 | [], a, _ :: _, b, j, h, hab, hf => h.elim
 | _ :: _, a, [], b, j, h, hab, hf => h.elim
 | s :: ss, a, c :: cs, b, j, h, hab, hf => by
  obtain ⟨h1, h2, h3⟩ := h
  have hcb := Seg.le h3
  have hf' : ∀ i z, (kidsL ss c cs)[i]? = some z → z.2.2 - z.2.1 < b - a ∧ (z.2.1 = z.2.2 → (f (j + 1 + i) z).length ≤ vV) ∧ (z.2.1 < z.2.2 → (f (j + 1 + i) z).length + 8 * vM ≤ 16 * vM * (z.2.2 - z.2.1)) := fun i z hz => by
   have := hf (i + 1) z (by simpa [kidsL] using hz)
   rwa [show j + (i + 1) = j + 1 + i by omega] at this
  have h0 := hf 0 (kid1 s a c) rfl
  rw [Nat.add_zero] at h0
  obtain ⟨k0, k1, k2⟩ := h0
  have k0 : c - a < b - a := k0
  have k1 : a = c → (f j (kid1 s a c)).length ≤ vV := k1
  have k2 : a < c → (f j (kid1 s a c)).length + 8 * vM ≤ 16 * vM * (c - a) := k2
  show (f j (kid1 s a c) ++ partsL f (j + 1) (kidsL ss c cs)).length + 16 * vM + vV ≤ _
  rw [List.length_append, List.length_cons]
  by_cases hac : a = c
  ·have := k1 hac
   subst hac
   have hr := parts_2 (j + 1) h3 hab hf'
   unfold vM vV at *
   omega
  ·have := k2 (by omega)
   have hr := parts_1 (j + 1) h3 (by omega) fun i z hz => (hf' i z hz).2
   unfold vM vV at *
   omega
theorem parts_3 {D : Nat} : ∀ {ss : List Int} {a : Nat} {cs : List Nat} {b : Nat} (j : Nat), Seg w rd ah ss a cs b → a < b → (∃ (i : Nat) (z : Nd), (kidsL ss a cs)[i]? = some z ∧ z.2.1 = a ∧ z.2.2 = b) →
    (∀ i z, (kidsL ss a cs)[i]? = some z → (z.2.1 = z.2.2 → (f (j + i) z).length ≤ vV) ∧ (z.2.1 = a → z.2.2 = b → (f (j + i) z).length ≤ D)) →
    (partsL f j (kidsL ss a cs)).length + vV ≤ D + vV * ss.length
  | [], a, [], b, j, h, hab, hx, hf => by have : a = b := h; omega
  | [], a, _ :: _, b, j, h, hab, hx, hf => h.elim
  | _ :: _, a, [], b, j, h, hab, hx, hf => h.elim
  | s :: ss, a, c :: cs, b, j, h, hab, hx, hf => by
    obtain ⟨h1, h2, h3⟩ := h
    have hcb := Seg.le h3
    have hf' : ∀ i z, (kidsL ss c cs)[i]? = some z → (z.2.1 = z.2.2 → (f (j + 1 + i) z).length ≤ vV) ∧ (z.2.1 = a → z.2.2 = b → (f (j + 1 + i) z).length ≤ D) := fun i z hz => by
      have := hf (i + 1) z (by simpa [kidsL] using hz)
      rwa [show j + (i + 1) = j + 1 + i by omega] at this
    have h0 := hf 0 (kid1 s a c) rfl
    rw [Nat.add_zero] at h0
    obtain ⟨k1, k2⟩ := h0
    have k1 : a = c → (f j (kid1 s a c)).length ≤ vV := k1
    have k2 : a = a → c = b → (f j (kid1 s a c)).length ≤ D := k2
    show (f j (kid1 s a c) ++ partsL f (j + 1) (kidsL ss c cs)).length + vV ≤ _
    rw [List.length_append, List.length_cons]
    by_cases hc : c = b
    · have hr := parts_U (f := f) vV (kidsL ss c cs) (j + 1) fun i z hz => by
        obtain ⟨q1, q2, q3, _⟩ := Seg.kid h3 i z hz
        exact (hf' i z hz).1 (by omega)
      rw [kids_len ss c cs (Seg.len h3)] at hr
      have := k2 rfl hc
      unfold vV at *
      omega
    · obtain ⟨i, z, hz, e1, e2⟩ := hx
      cases i with
      | zero =>
        simp [kidsL] at hz
        subst hz
        exact absurd e2 hc
      | succ i =>
        have hz' : (kidsL ss c cs)[i]? = some z := by simpa [kidsL] using hz
        obtain ⟨q1, _⟩ := Seg.kid h3 i z hz'
        obtain rfl : a = c := by omega
        have hr := parts_3 (D := D) (j + 1) h3 hab ⟨i, z, hz', e1, e2⟩ hf'
        have := k1 rfl
        unfold vV at *
        omega
end
structure Sml (g : Gram) (w : List Int) : Prop where
 vars : g.vars.length ≤ 8
 rgt : ∀ r, (rgt g r).length ≤ 8
 word : w.length ≤ 10
theorem way_kid8 (hg : InG g) {ah : Nat} {x : Nd} {y : Way} (sm : Sml g w) (hy : y ∈ waysL g w rd ah x) {z : Nd} (hz : z ∈ kidsL (rgt g y.1) x.2.1 y.2) : z.1 < 8 := by
 obtain ⟨i, hi, he⟩ := List.getElem_of_mem hz
 have hm := mem_ways.1 hy
 obtain ⟨_, _, _, h4⟩ := Seg.kid hm.2.2 i z (by rw [List.getElem?_eq_getElem hi, he])
 rcases h4 with ⟨_, h5, _⟩ | ⟨h5, _⟩
 ·have h6 := List.mem_of_getElem? h5
  rw [rgF_eq hm.1] at h6
  have := hg.right _ (List.getElem_mem hm.1) _ h6
  have := sm.vars
  omega
 ·omega
theorem FoOK.pl_len (fo : FoOK g w rd) (hg : InG g) (sm : Sml g w) : ∀ (k : Nat) (x : Nd), rd x ≤ k → rd x ≠ 0 → x.1 < 8 →
    (x.2.1 = x.2.2 → (pl g w rd x).length ≤ tT (dn rd x)) ∧ (x.2.1 < x.2.2 → (pl g w rd x).length + 16 * vM ≤ 16 * vM * (x.2.2 - x.2.1) + vM * dn rd x) := by
  intro k
  induction k with
  | zero => intro x h h0; omega
  | succ k ih =>
    intro x h h0 h8
    obtain ⟨v1, v2, v3⟩ := fo.val x h0
    obtain ⟨y, hy⟩ := fo.sound x h0
    cases hL : waysL g w rd (rd x) x with
    | nil => rw [hL] at hy; cases hy
    | cons y ys =>
      rw [pl_eq h0 hL]
      have hym : y ∈ waysL g w rd (rd x) x := by rw [hL]; exact List.mem_cons_self ..
      have hm := mem_ways.1 hym
      have hr8 := sm.rgt y.1
      have hd1 := dn_pos v1 h8 h0
      have hd8 := dn_le (rd := rd) x
      have kid : ∀ i z, (kidsL (rgt g y.1) x.2.1 y.2)[i]? = some z → x.2.1 ≤ z.2.1 ∧ z.2.1 ≤ z.2.2 ∧ z.2.2 ≤ x.2.2 ∧ ((0 ≤ z.1 ∧ rd z < rd x ∧ byF g w rd (-1) [] (0 + i) z = pl g w rd z ∧ (z.2.1 = z.2.2 → (pl g w rd z).length ≤ tT (dn rd z)) ∧ (z.2.1 < z.2.2 → (pl g w rd z).length + 16 * vM ≤ 16 * vM * (z.2.2 - z.2.1) + vM * dn rd z)) ∨ (z.1 = -1 ∧ z.2.2 = z.2.1 + 1 ∧ byF g w rd (-1) [] (0 + i) z = [])) := by
        intro i z hz
        obtain ⟨q1, q2, q3, q4⟩ := Seg.kid hm.2.2 i z hz
        refine ⟨q1, q2, q3, ?_⟩
        have hne : ¬ (((0 + i : Nat) : Int) = -1) := by omega
        unfold byF
        rw [if_neg hne]
        rcases q4 with ⟨z0, _, z1, z2⟩ | ⟨z0, z1, _⟩
        · left
          rw [if_pos z0]
          have := way_kid8 hg sm hym (List.mem_of_getElem? hz)
          exact ⟨z0, by omega, rfl, ih z (by omega) (by omega) this⟩
        · right
          have h1 : ¬ (0 ≤ z.1) := by omega
          rw [if_neg h1]
          exact ⟨z0, z1, rfl⟩
      unfold byL
      rw [List.length_cons]
      constructor
      · intro he
        have hu := parts_U (f := byF g w rd (-1) []) (tT (dn rd x - 1)) (kidsL (rgt g y.1) x.2.1 y.2) 0 fun i z hz => by
          obtain ⟨q1, q2, q3, q4⟩ := kid i z hz
          rcases q4 with ⟨z0, z1, z2, z3, _⟩ | ⟨_, z1, z2⟩
          · rw [z2]
            have hlt := dn_lt v1 h8 h0 z1 (Prod.ext (by omega) (by omega))
            exact Nat.le_trans (z3 (by omega)) (tT_mono (by omega))
          · rw [z2]; exact Nat.zero_le _
        rw [kids_len _ _ _ (Seg.len hm.2.2)] at hu
        obtain ⟨d, hd⟩ : ∃ d, dn rd x = d + 1 := ⟨dn rd x - 1, by omega⟩
        rw [hd] at hu ⊢
        show _ ≤ 1 + 8 * tT d
        have : tT (d + 1 - 1) * (rgt g y.1).length ≤ tT d * 8 := Nat.mul_le_mul (by simp) hr8
        omega
      · intro hlt
        have hz8 : ∀ z, tT (dn rd z) ≤ vV := fun z => by rw [← tT_8]; exact tT_mono (dn_le z)
        have hvr : vV * (rgt g y.1).length ≤ vV * 8 := Nat.mul_le_mul (Nat.le_refl _) hr8
        by_cases hx : ∃ (i : Nat) (z : Nd), (kidsL (rgt g y.1) x.2.1 y.2)[i]? = some z ∧ z.2.1 = x.2.1 ∧ z.2.2 = x.2.2
        · have h3 := parts_3 (f := byF g w rd (-1) []) (D := 16 * vM * (x.2.2 - x.2.1) + vM * dn rd x - 17 * vM) 0 hm.2.2 hlt hx fun i z hz => by
            obtain ⟨q1, q2, q3, q4⟩ := kid i z hz
            rcases q4 with ⟨z0, z1, z2, z3, z4⟩ | ⟨_, z1, z2⟩
            · rw [z2]
              refine ⟨fun e => Nat.le_trans (z3 e) (hz8 z), fun e1 e2 => ?_⟩
              have := z4 (by omega)
              have hdl := dn_lt v1 h8 h0 z1 (Prod.ext e1 e2)
              rw [e1, e2] at this
              unfold vM at *
              omega
            · rw [z2]; exact ⟨fun _ => Nat.zero_le _, fun _ _ => Nat.zero_le _⟩
          unfold vM vV at *
          omega
        · have h2 := parts_2 (f := byF g w rd (-1) []) 0 hm.2.2 hlt fun i z hz => by
            obtain ⟨q1, q2, q3, q4⟩ := kid i z hz
            have hsp : z.2.2 - z.2.1 < x.2.2 - x.2.1 := by
              rcases Nat.lt_or_ge (z.2.2 - z.2.1) (x.2.2 - x.2.1) with h | h
              · exact h
              · exact absurd ⟨i, z, hz, by omega, by omega⟩ hx
            refine ⟨hsp, ?_⟩
            rcases q4 with ⟨z0, z1, z2, z3, z4⟩ | ⟨_, z1, z2⟩
            · rw [z2]
              refine ⟨fun e => Nat.le_trans (z3 e) (hz8 z), fun e => ?_⟩
              have := z4 e
              have := dn_le (rd := rd) z
              unfold vM at *
              omega
            · rw [z2]
              refine ⟨fun _ => Nat.zero_le _, fun e => ?_⟩
              simp
              unfold vM
              omega
          unfold vM vV at *
          omega
theorem FoOK.pl_len2 (fo : FoOK g w rd) (hg : InG g) (sm : Sml g w) {x : Nd} (h0 : rd x ≠ 0) (h8 : x.1 < 8) : (pl g w rd x).length ≤ 16 * vM * (x.2.2 - x.2.1) + vV := by
 obtain ⟨v1, v2, v3⟩ := fo.val x h0
 obtain ⟨h1, h2⟩ := fo.pl_len hg sm _ x (Nat.le_refl _) h0 h8
 have hd := dn_le (rd := rd) x
 rcases Nat.lt_or_ge x.2.1 x.2.2 with h | h
 ·have := h2 h
  unfold vM vV at *
  omega
 ·have h3 := h1 (by omega)
  have := tT_mono hd
  rw [tT_8] at this
  omega
def vC : Nat := 19173961
theorem FoOK.by_len (fo : FoOK g w rd) (hg : InG g) (sm : Sml g w) {x : Nd} {y : Way} (hy : y ∈ waysL g w rd 0 x) : (byL g w rd x y (-1) []).length ≤ 16 * vM * (x.2.2 - x.2.1) + vC := by
 have hm := mem_ways.1 hy
 have hr8 := sm.rgt y.1
 have h1 := parts_A (f := byF g w rd (-1) []) 0 hm.2.2 fun i z hz => by
  obtain ⟨q1, q2, q3, q4⟩ := Seg.kid hm.2.2 i z hz
  have hne : ¬ (((0 + i : Nat) : Int) = -1) := by omega
  unfold byF
  rw [if_neg hne]
  rcases q4 with ⟨z0, _, z1, z2⟩ | ⟨z0, z1, _⟩
  ·rw [if_pos z0]; exact fo.pl_len2 hg sm (by omega) (way_kid8 hg sm hy (List.mem_of_getElem? hz))
  ·have h1 : ¬ (0 ≤ z.1) := by omega
   rw [if_neg h1]; exact Nat.zero_le _
 have hvr : vV * (rgt g y.1).length ≤ vV * 8 := Nat.mul_le_mul (Nat.le_refl _) hr8
 unfold byL
 rw [List.length_cons]
 unfold vM vV vC at *
 omega
theorem FoOK.by_len2 (fo : FoOK g w rd) (hg : InG g) (sm : Sml g w) {x : Nd} {y : Way} (hy : y ∈ waysL g w rd 0 x) {k : Nat} {z : Nd} (hz : (kidsL (rgt g y.1) x.2.1 y.2)[k]? = some z) (own : List Int) :
  (byL g w rd x y k own).length + 16 * vM * (z.2.2 - z.2.1) ≤ own.length + 16 * vM * (x.2.2 - x.2.1) + vC := by
 have hm := mem_ways.1 hy
 have hr8 := sm.rgt y.1
 have h1 := parts_O (own := own.length) (k := k) (f := byF g w rd k own) 0 hm.2.2 hz (by unfold byF; rw [if_pos (by omega)]; exact Nat.le_refl _) fun i z hi hz => by
  obtain ⟨q1, q2, q3, q4⟩ := Seg.kid hm.2.2 i z hz
  have hne : ¬ (((0 + i : Nat) : Int) = (k : Int)) := by omega
  unfold byF
  rw [if_neg hne]
  rcases q4 with ⟨z0, _, z1, z2⟩ | ⟨z0, z1, _⟩
  ·rw [if_pos z0]; exact fo.pl_len2 hg sm (by omega) (way_kid8 hg sm hy (List.mem_of_getElem? hz))
  ·have h1 : ¬ (0 ≤ z.1) := by omega
   rw [if_neg h1]; exact Nat.zero_le _
 have hvr : vV * (rgt g y.1).length ≤ vV * 8 := Nat.mul_le_mul (Nat.le_refl _) hr8
 unfold byL
 rw [List.length_cons]
 unfold vM vV vC at *
 omega
end Go.AM.Fo
namespace Go.AM.Fo
variable {g : Gram} {w : List Int} {rd rd' : Nd → Nat}
theorem Seg.upd {ah ah' : Nat} (h : ∀ z, 0 < rd z → (ah = 0 ∨ rd z < ah) → 0 < rd' z ∧ (ah' = 0 ∨ rd' z < ah')) : ∀ {ss : List Int} {a : Nat} {cs : List Nat} {b : Nat}, Seg w rd ah ss a cs b → Seg w rd' ah' ss a cs b
 | [], a, [], b, k => k
 | [], a, _ :: _, b, k => k.elim
 | _ :: _, a, [], b, k => k.elim
 | s :: ss, a, c :: cs, b, k => by
  refine ⟨k.1, ?_, Seg.upd h k.2.2⟩
  have h2 := k.2.1
  unfold fit at h2 ⊢
  by_cases hs : 0 ≤ s
  ·rw [if_pos hs] at h2 ⊢
   simp only [Bool.and_eq_true, Bool.or_eq_true, decide_eq_true_eq] at h2 ⊢
   exact h _ h2.1 h2.2
  ·rw [if_neg hs] at h2 ⊢
   exact h2
def Fnd (g : Gram) (w : List Int) (rd : Nd → Nat) (x : Nd) : Prop := x.2.1 ≤ x.2.2 ∧ x.2.2 ≤ w.length ∧ ∃ y, y ∈ waysL g w rd 0 x
structure RI (g : Gram) (w : List Int) (n : Nat) (rd : Nd → Nat) : Prop where
 val : ∀ x, rd x ≠ 0 → 0 ≤ x.1 ∧ x.1 < g.vars.length ∧ x.2.1 ≤ x.2.2 ∧ x.2.2 ≤ w.length ∧ rd x < n
 sound : ∀ x, rd x ≠ 0 → ∃ y, y ∈ waysL g w rd (rd x) x
theorem RI.start (g : Gram) (w : List Int) : RI g w 1 (fun _ => 0) := ⟨fun x h => absurd rfl h, fun x h => absurd rfl h⟩
theorem RI.step {n : Nat} (h : RI g w n rd) (hg : InG g) (hn : 0 < n) (h1 : ∀ x, rd x ≠ 0 → rd' x = rd x) (h2 : ∀ x, rd x = 0 → rd' x ≠ 0 → rd' x = n ∧ Fnd g w rd x) : RI g w (n + 1) rd' := by
 refine ⟨fun x hx => ?_, fun x hx => ?_⟩
 ·by_cases h0 : rd x = 0
  ·obtain ⟨e, f1, f2, y, hy⟩ := h2 x h0 hx
   have hm := mem_ways.1 hy
   refine ⟨?_, ?_, f1, f2, by omega⟩
   ·rw [← hm.2.1]; exact lft0 hg hm.1
   ·rw [← hm.2.1, lfF_eq hm.1]; exact hg.left1 _ (List.getElem_mem hm.1)
  ·obtain ⟨v0, v1, v2, v3, v4⟩ := h.val x h0
   exact ⟨v0, v1, v2, v3, by rw [h1 x h0]; omega⟩
 ·by_cases h0 : rd x = 0
  ·obtain ⟨e, f1, f2, y, hy⟩ := h2 x h0 hx
   have hm := mem_ways.1 hy
   refine ⟨y, mem_ways.2 ⟨hm.1, hm.2.1, ?_⟩⟩
   rw [e]
   exact Seg.upd (fun z hz _ => by
    have := h1 z (by omega)
    have := (h.val z (by omega)).2.2.2.2
    omega) hm.2.2
  ·obtain ⟨y, hy⟩ := h.sound x h0
   have hm := mem_ways.1 hy
   refine ⟨y, mem_ways.2 ⟨hm.1, hm.2.1, ?_⟩⟩
   rw [h1 x h0]
   exact Seg.upd (fun z hz hz2 => by
    have := h1 z (by omega)
    omega) hm.2.2
theorem RI.over {n : Nat} (h : RI g w n rd) (hno : ∀ x, rd x = 0 → ¬ Fnd g w rd x) : FoOK g w rd where
 val := fun x hx => by obtain ⟨v0, v1, v2, v3, v4⟩ := h.val x hx; exact ⟨v0, v2, v3⟩
 sound := h.sound
 compl := fun x y h1 h2 hy h0 => hno x h0 ⟨h1, h2, y, hy⟩
def Ends (w : List Int) (rd : Nd → Nat) (ss : List Int) (a c : Nat) : Prop := ∃ cs, Seg w rd 0 ss a cs c
theorem Seg.snoc {s : Int} {c : Nat} : ∀ {ss : List Int} {a : Nat} {cs : List Nat} {b : Nat}, Seg w rd 0 ss a cs b → b ≤ c → fit w rd 0 s b c = true → Seg w rd 0 (ss ++ [s]) a (cs ++ [c]) c
 | [], a, [], b, k, h, hf => by obtain rfl : a = b := k; exact ⟨h, hf, rfl⟩
 | [], a, _ :: _, b, k, h, hf => k.elim
 | _ :: _, a, [], b, k, h, hf => k.elim
 | x :: ss, a, d :: cs, b, k, h, hf => ⟨k.1, k.2.1, Seg.snoc k.2.2 h hf⟩
theorem Seg.unsnoc {s : Int} {c : Nat} : ∀ {ss : List Int} {a : Nat} {cs : List Nat}, Seg w rd 0 (ss ++ [s]) a cs c → ∃ ds b, Seg w rd 0 ss a ds b ∧ b ≤ c ∧ fit w rd 0 s b c = true
 | [], a, [], k => k.elim
 | [], a, [d], k => by
  have e : d = c := k.2.2
  subst e
  exact ⟨[], a, rfl, k.1, k.2.1⟩
 | [], a, _ :: _ :: _, k => k.2.2.elim
 | _ :: _, a, [], k => k.elim
 | x :: ss, a, d :: cs, k => by
  obtain ⟨ds, b, h1, h2, h3⟩ := Seg.unsnoc (ss := ss) k.2.2
  exact ⟨d :: ds, b, ⟨k.1, k.2.1, h1⟩, h2, h3⟩
theorem ends_nil {a c : Nat} : Ends w rd [] a c ↔ a = c := by
 constructor
 ·rintro ⟨cs, h⟩
  cases cs with
  | nil => exact h
  | cons => exact h.elim
 ·intro e; exact ⟨[], e⟩
theorem ends_snoc {ss : List Int} {s : Int} {a c : Nat} : Ends w rd (ss ++ [s]) a c ↔ ∃ b, Ends w rd ss a b ∧ b ≤ c ∧ fit w rd 0 s b c = true := by
 constructor
 ·rintro ⟨cs, h⟩
  obtain ⟨ds, b, h1, h2, h3⟩ := Seg.unsnoc h
  exact ⟨b, ⟨ds, h1⟩, h2, h3⟩
 ·rintro ⟨b, ⟨ds, h1⟩, h2, h3⟩
  exact ⟨_, Seg.snoc h1 h2 h3⟩
theorem Ends.le {ss : List Int} {a c : Nat} (h : Ends w rd ss a c) : a ≤ c := by obtain ⟨cs, h⟩ := h; exact Seg.le h
theorem fnd_iff {x : Nd} : Fnd g w rd x ↔ x.2.2 ≤ w.length ∧ ∃ r, r < g.rules.length ∧ lft g r = x.1 ∧ Ends w rd (rgt g r) x.2.1 x.2.2 := by
 constructor
 ·rintro ⟨h1, h2, y, hy⟩
  have hm := mem_ways.1 hy
  exact ⟨h2, y.1, hm.1, hm.2.1, y.2, hm.2.2⟩
 ·rintro ⟨h2, r, hr, hl, cs, hs⟩
  exact ⟨Seg.le hs, h2, (r, cs), mem_ways.2 ⟨hr, hl, hs⟩⟩
def root (w : List Int) : Nd := (0, 0, w.length)
structure Cm (g : Gram) (w : List Int) (rd : Nd → Nat) (todo : List Nd) (par : Nd → Nd × Int) : Prop where
 ne : todo[0]? = some (root w)
 nd : todo.Nodup
 ok : ∀ z ∈ todo, rd z ≠ 0 ∧ z.1 < 8
 rt : (par (root w)).2 < 0
 st : ∀ (j : Nat) (z : Nd), todo[j]? = some z → 0 < j → ∃ (i : Nat) (x : Nd) (y : Way) (k : Nat), i < j ∧ todo[i]? = some x ∧ par z = (x, (k : Int)) ∧ waysL g w rd 0 x = [y] ∧ (kidsL (rgt g y.1) x.2.1 y.2)[k]? = some z ∧ 0 ≤ z.1
inductive Up (g : Gram) (w : List Int) (rd : Nd → Nat) (par : Nd → Nd × Int) : Nd → List Int → List Int → Prop
 | stop {x : Nd} {own : List Int} (h : (par x).2 < 0) : Up g w rd par x own own
 | step {x : Nd} {own out : List Int} {y : Way} {ys : List Way} (h : 0 ≤ (par x).2) (hy : waysL g w rd 0 (par x).1 = y :: ys) (k : Up g w rd par (par x).1 (byL g w rd (par x).1 y (par x).2 own) out) : Up g w rd par x own out
section
variable {todo : List Nd} {par : Nd → Nd × Int}
theorem Cm.start (fo : FoOK g w rd) (h : rd (root w) ≠ 0) {par : Nd → Nd × Int} (hp : (par (root w)).2 < 0) : Cm g w rd [root w] par where
 ne := rfl
 nd := by simp
 ok := fun z hz => by
  have : z = root w := by simpa using hz
  subst this
  exact ⟨h, by show (0 : Int) < 8; omega⟩
 rt := hp
 st := fun j z hz hj => by
  have := (List.getElem?_eq_some_iff.1 hz).1
  simp at this
  omega
theorem Cm.push (c : Cm g w rd todo par) {z x : Nd} {y : Way} {i k : Nat} (hx : todo[i]? = some x) (hy : waysL g w rd 0 x = [y]) (hz : (kidsL (rgt g y.1) x.2.1 y.2)[k]? = some z) (h0 : 0 ≤ z.1) (hn : z ∉ todo) (hr : rd z ≠ 0) (h8 : z.1 < 8)
    {par' : Nd → Nd × Int} (hp : par' z = (x, (k : Int))) (hpo : ∀ a, a ∈ todo → par' a = par a) : Cm g w rd (todo ++ [z]) par' where
  ne := by
    have := (List.getElem?_eq_some_iff.1 c.ne).1
    rw [List.getElem?_append_left this]; exact c.ne
  nd := by
    rw [List.nodup_append]
    refine ⟨c.nd, by simp, fun a ha b hb e => ?_⟩
    have : b = z := by simpa using hb
    subst this e
    exact hn ha
  ok := fun a ha => by
    rcases List.mem_append.1 ha with ha | ha
    · exact c.ok a ha
    · have : a = z := by simpa using ha
      subst this; exact ⟨hr, h8⟩
  rt := by rw [hpo _ (List.mem_of_getElem? c.ne)]; exact c.rt
  st := fun j a ha hj => by
    by_cases hjl : j < todo.length
    · rw [List.getElem?_append_left hjl] at ha
      obtain ⟨i, x, y, k, h1, h2, h3, h4⟩ := c.st j a ha hj
      exact ⟨i, x, y, k, h1, by rw [List.getElem?_append_left (by omega)]; exact h2, by rw [hpo a (List.mem_of_getElem? ha)]; exact h3, h4⟩
    · have hj' : j = todo.length := by
        have := (List.getElem?_eq_some_iff.1 ha).1
        simp at this
        omega
      subst hj'
      have : z = a := by simpa using ha
      subst this
      have hil := (List.getElem?_eq_some_iff.1 hx).1
      exact ⟨i, x, y, k, hil, by rw [List.getElem?_append_left hil]; exact hx, hp, hy, hz, h0⟩
theorem Cm.one (c : Cm g w rd todo par) {j : Nat} {z : Nd} (hz : todo[j]? = some z) : (j = 0 ∧ z = root w ∧ (par z).2 < 0) ∨ (0 < j ∧ 0 ≤ (par z).2 ∧ ∃ (i : Nat) (y : Way) (k : Nat), i < j ∧ todo[i]? = some (par z).1 ∧ (par z).2 = (k : Int) ∧ waysL g w rd 0 (par z).1 = [y] ∧ (kidsL (rgt g y.1) (par z).1.2.1 y.2)[k]? = some z ∧ 0 ≤ z.1) := by
 cases j with
 | zero =>
  left
  rw [c.ne] at hz
  cases hz
  exact ⟨rfl, rfl, c.rt⟩
 | succ j =>
  right
  obtain ⟨i, x, y, k, h1, h2, h3, h4, h5, h6⟩ := c.st (j + 1) z hz (by omega)
  rw [h3]
  exact ⟨by omega, Int.natCast_nonneg k, i, y, k, h1, h2, rfl, h4, h5, h6⟩
theorem Cm.up_dv (c : Cm g w rd todo par) (fo : FoOK g w rd) (hg : InG g) : ∀ (j : Nat) (z : Nd) (own out : List Int), todo[j]? = some z → Dv g [z.1] own (sub w z.2.1 z.2.2) → Up g w rd par z own out → Dv g [0] out w := by
 intro j
 induction j using Nat.strongRecOn with
 | ind j ih =>
  intro z own out hz hd hu
  rcases c.one hz with ⟨rfl, rfl, h1⟩ | ⟨_, h1, i, y, k, h2, h3, h4, h5, h6, h7⟩
  ·cases hu with
   | stop _ =>
    have e : sub w (root w).2.1 (root w).2.2 = w := sub_all w
    rw [e] at hd; exact hd
   | step h => omega
  ·cases hu with
   | stop h => omega
   | @step _ _ _ y' ys h hy hk =>
    rw [h5] at hy
    cases hy
    refine ih i h2 _ _ _ h3 ?_ hk
    refine fo.by_dv hg (c.ok _ (List.mem_of_getElem? h3)).1 (by rw [h5]; simp) fun q a hq ha => ?_
    rw [h4] at hq
    have : q = k := by omega
    subst this
    rw [h6] at ha
    cases ha
    exact ⟨h7, hd⟩
theorem Cm.up_ne (c : Cm g w rd todo par) : ∀ (j : Nat) (z : Nd) (own own' out out' : List Int), todo[j]? = some z → own ≠ own' → Up g w rd par z own out → Up g w rd par z own' out' → out ≠ out' := by
 intro j
 induction j using Nat.strongRecOn with
 | ind j ih =>
  intro z own own' out out' hz hne hu hu'
  rcases c.one hz with ⟨rfl, rfl, h1⟩ | ⟨_, h1, i, y, k, h2, h3, h4, h5, h6, h7⟩
  ·cases hu with
   | stop _ => cases hu' with
    | stop _ => exact hne
    | step h => omega
   | step h => omega
  ·cases hu with
   | stop h => omega
   | step h hy hk =>
    cases hu' with
    | stop h => omega
    | step h' hy' hk' =>
     rw [h5] at hy hy'
     cases hy
     cases hy'
     refine ih i h2 _ _ _ _ _ h3 ?_ hk hk'
     rw [h4]
     exact by_own (List.getElem?_eq_some_iff.1 h6).1 hne
structure Once (g : Gram) (w : List Int) (rd : Nd → Nat) (todo : List Nd) (i : Nat) : Prop where
 one : ∀ (j : Nat) (x : Nd), j < i → todo[j]? = some x → ∃ y, waysL g w rd 0 x = [y] ∧ ∀ z ∈ kidsL (rgt g y.1) x.2.1 y.2, 0 ≤ z.1 → z ∈ todo
theorem Once.uniq (o : Once g w rd todo todo.length) (c : Cm g w rd todo par) (fo : FoOK g w rd) (hg : InG g) {d d' : List Int} (h : Dv g [0] d w) (h' : Dv g [0] d' w) : d = d' := by
 refine fo.uniq hg (R := fun x => x ∈ todo) (fun x hx => ?_) d.length (root w) d d' (List.mem_of_getElem? c.ne) (Nat.le_refl _) ?_ ?_
 ·obtain ⟨j, hj, he⟩ := List.getElem_of_mem hx
  exact ⟨(c.ok x hx).1, o.one j x hj (by rw [List.getElem?_eq_getElem hj, he])⟩
 ·have e : sub w (root w).2.1 (root w).2.2 = w := sub_all w
  rw [e]; exact h
 ·have e : sub w (root w).2.1 (root w).2.2 = w := sub_all w
  rw [e]; exact h'
end
def Tn (g : Gram) (w : List Int) (n : Nat) : Prop := (n = 0 ∧ ∀ d, ¬ Dv g [0] d w) ∨ (n = 1 ∧ ∃ d, Dv g [0] d w ∧ ∀ d', Dv g [0] d' w → d' = d) ∨ (n = 2 ∧ ∃ d d', d ≠ d' ∧ Dv g [0] d w ∧ Dv g [0] d' w)
def allN (k L : Nat) : List Nd := (List.range k).flatMap fun (v : Nat) => (List.range (L + 1)).flatMap fun a => (List.range (L + 1)).map fun b => ((v : Int), a, b)
theorem mem_allN {k L : Nat} {x : Nd} (h0 : 0 ≤ x.1) (h1 : x.1 < k) (h2 : x.2.1 ≤ L) (h3 : x.2.2 ≤ L) : x ∈ allN k L := by
 unfold allN
 refine List.mem_flatMap.2 ⟨x.1.toNat, List.mem_range.2 (by omega), List.mem_flatMap.2 ⟨x.2.1, List.mem_range.2 (by omega), List.mem_map.2 ⟨x.2.2, List.mem_range.2 (by omega), ?_⟩⟩⟩
 rw [Int.toNat_of_nonneg h0]
theorem allN_len (k L : Nat) : (allN k L).length = k * ((L + 1) * (L + 1)) := by
 have h : ∀ (n : Nat) (f : Nat → List Nd) (c : Nat), (∀ v, (f v).length = c) → ((List.range n).flatMap f).length = n * c := by
  intro n f c hf
  induction n with
  | zero => simp
  | succ n ih => rw [List.range_succ, List.flatMap_append, List.length_append, ih]; simp [hf, Nat.succ_mul]
 unfold allN
 exact h _ _ _ fun v => h _ _ _ fun a => by simp
theorem nodes_len {k L : Nat} {l : List Nd} (hn : l.Nodup) (h : ∀ x ∈ l, 0 ≤ x.1 ∧ x.1 < k ∧ x.2.1 ≤ L ∧ x.2.2 ≤ L) : l.length ≤ k * ((L + 1) * (L + 1)) := by
 rw [← allN_len k L]
 have sub : ∀ {l m : List Nd}, l.Nodup → (∀ x, x ∈ l → x ∈ m) → l.length ≤ m.length := by
  intro l
  induction l with
  | nil => intro m _ _; exact Nat.zero_le _
  | cons a l ih =>
   intro m hl hs
   have ha := hs a (List.mem_cons_self ..)
   have h1 : (m.erase a).length + 1 = m.length := by rw [List.length_erase_of_mem ha]; have := List.length_pos_of_mem ha; omega
   have := ih (m := m.erase a) (List.nodup_cons.1 hl).2 fun x hx => by
    refine (List.mem_erase_of_ne ?_).2 (hs x (List.mem_cons_of_mem _ hx))
    rintro rfl
    exact (List.nodup_cons.1 hl).1 hx
   rw [List.length_cons]
   omega
 exact sub hn fun x hx => by
  obtain ⟨h1, h2, h3, h4⟩ := h x hx
  exact mem_allN h1 h2 h3 h4
end Go.AM.Fo
namespace Go.AM.Fo
structure Sums (g : Gram) : Prop where
 r : g.rules = [⟨0, [0, -1, 0], 0⟩, ⟨0, [-2], 0⟩]
section
variable {g : Gram} {w : List Int}
theorem Sums.len (s : Sums g) : g.rules.length = 2 := by rw [s.r]; rfl
theorem Sums.r0 (s : Sums g) : rgt g 0 = [0, -1, 0] := by unfold rgt; rw [s.r]; rfl
theorem Sums.r1 (s : Sums g) : rgt g 1 = [-2] := by unfold rgt; rw [s.r]; rfl
theorem Sums.l0 (s : Sums g) : lft g 0 = 0 := by unfold lft; rw [s.r]; rfl
theorem Sums.l1 (s : Sums g) : lft g 1 = 0 := by unfold lft; rw [s.r]; rfl
def negs (l : List Int) : Nat := l.countP fun s => decide (s < 0)
theorem Sums.size (s : Sums g) {l d w : List Int} (h : Dv g l d w) : d.length + negs l = w.length ∧ ∀ r ∈ d, r = 0 ∨ r = 1 := by
 induction h with
 | nil => exact ⟨rfl, fun r hr => by cases hr⟩
 | @term x l d w hs _ ih =>
  obtain ⟨h1, h2⟩ := ih
  refine ⟨?_, h2⟩
  unfold negs at h1 ⊢
  rw [List.countP_cons_of_pos (by simpa using hs), List.length_cons]
  omega
 | @var i l d1 d2 w1 w2 h _ _ ih1 ih2 =>
  obtain ⟨a1, a2⟩ := ih1
  obtain ⟨b1, b2⟩ := ih2
  rw [s.len] at h
  have hl : lft g i = 0 := by
   rcases (by omega : i = 0 ∨ i = 1) with rfl | rfl
   ·exact s.l0
   ·exact s.l1
  have hn : negs (rgt g i) = 1 := by
   rcases (by omega : i = 0 ∨ i = 1) with rfl | rfl
   ·rw [s.r0]; rfl
   ·rw [s.r1]; rfl
  rw [hn] at a1
  constructor
  ·unfold negs at b1 ⊢
   rw [List.countP_cons_of_neg (by rw [hl]; simp), List.length_cons, List.length_append, List.length_append]
   omega
  ·intro r hr
   rcases List.mem_cons.1 hr with rfl | hr
   ·rcases (by omega : i = 0 ∨ i = 1) with rfl | rfl <;> simp
   ·rcases List.mem_append.1 hr with hr | hr
    ·exact a2 r hr
    ·exact b2 r hr
theorem Sums.b (s : Sums g) : Dv g [0] [1] [1] := by
 have h : Dv g (rgt g 1) [] [1] := by rw [s.r1]; exact .term (by omega) .nil
 have := Dv.one (i := 1) (by rw [s.len]; omega) h
 rw [s.l1] at this; exact this
theorem Sums.a (s : Sums g) {d e u v : List Int} (h : Dv g [0] d u) (k : Dv g [0] e v) : Dv g [0] (0 :: (d ++ e)) (u ++ 0 :: v) := by
 have h2 : Dv g (rgt g 0) (d ++ e) (u ++ 0 :: v) := by
  rw [s.r0]
  have := h.append (.term (s := -1) (by omega) k)
  simpa using this
 have := Dv.one (i := 0) (by rw [s.len]; omega) h2
 rw [s.l0] at this; exact this
theorem Sums.two (s : Sums g) : Dv g [0] [0, 0, 1, 1, 1] [1, 0, 1, 0, 1] ∧ Dv g [0] [0, 1, 0, 1, 1] [1, 0, 1, 0, 1] := by
 have h1 := s.a s.b s.b
 have h2 := s.a h1 s.b
 have h3 := s.a s.b h1
 exact ⟨by simpa using h2, by simpa using h3⟩
theorem Sums.n5 (s : Sums g) {t : Nat} (h : Tn g [1, 0, 1, 0, 1] t) : t = 2 := by
 obtain ⟨h1, h2⟩ := s.two
 rcases h with ⟨_, h⟩ | ⟨_, d, _, h⟩ | ⟨h, _⟩
 ·exact absurd h1 (h _)
 ·have := (h _ h1).trans (h _ h2).symm
  cases this
 ·exact h
theorem Sums.none0 (s : Sums g) (hg : InG g) (d : List Int) : ¬ Dv g [0] d [0] := by
 intro h
 obtain ⟨h1, _⟩ := s.size h
 obtain ⟨i, e, hi, _, rfl, hk⟩ := h.one_inv (Int.le_refl 0)
 rw [s.len] at hi
 have : e = [] := by
  simp [negs] at h1
  exact h1
 subst this
 rcases (by omega : i = 0 ∨ i = 1) with rfl | rfl
 ·rw [s.r0] at hk
  have := (s.size hk).1
  obtain ⟨j, d1, d2, w1, w2, _, _, e, _⟩ := hk.var_inv (Int.le_refl 0)
  cases e
 ·rw [s.r1] at hk
  obtain ⟨w', e, _⟩ := hk.term_inv (by omega) hg
  cases e
theorem Sums.n0 (s : Sums g) (hg : InG g) {t : Nat} (h : Tn g [0] t) : t = 0 := by
 rcases h with ⟨h, _⟩ | ⟨_, d, h, _⟩ | ⟨_, d, _, _, h, _⟩
 ·exact h
 ·exact absurd h (s.none0 hg d)
 ·exact absurd h (s.none0 hg d)
theorem Sums.n3 (s : Sums g) (hg : InG g) {t : Nat} (h : Tn g [1, 0, 1] t) : t = 1 := by
 have h1 : Dv g [0] [0, 1, 1] [1, 0, 1] := by simpa using s.a s.b s.b
 have key : ∀ d, Dv g [0] d [1, 0, 1] → d = [0, 1, 1] := fun d hd => by
  obtain ⟨e1, e2⟩ := s.size hd
  have hl : d.length = 3 := by simpa [negs] using e1
  have hr := hd.replay hg [] [] [] 0 (fun s hs => by cases hs)
  simp only [List.nil_append, List.append_nil] at hr
  match d, hl with
  | [a, b, c], _ =>
   have ha := e2 a (by simp)
   have hb := e2 b (by simp)
   have hc := e2 c (by simp)
   have hs : ∀ f r, stepS g f r = stepS ⟨[], [], [⟨0, [0, -1, 0], 0⟩, ⟨0, [-2], 0⟩]⟩ f r := fun f r => by unfold stepS; simp only [s.r]
   have hR : ∀ (rs f : List Int) (k : Nat), replayS g f rs k = replayS ⟨[], [], [⟨0, [0, -1, 0], 0⟩, ⟨0, [-2], 0⟩]⟩ f rs k := by
    intro rs
    induction rs with
    | nil => intro f k; rfl
    | cons r rs ih => intro f k; simp only [replayS, hs, ih]
   rw [hR, hR] at hr
   rcases ha with rfl | rfl <;> rcases hb with rfl | rfl <;> rcases hc with rfl | rfl <;> first | rfl | (exfalso; revert hr; decide)
 rcases h with ⟨_, h⟩ | ⟨h, _⟩ | ⟨_, d, d', hne, hd, hd'⟩
 ·exact absurd h1 (h _)
 ·exact h
 ·exact absurd ((key d hd).trans (key d' hd').symm) hne
end
end Go.AM.Fo
namespace Go.AM.Fo
variable {g : Gram}
structure Sr (g : Gram) (w : List Int) (at' kk : Nat) (todo out : List (List Int)) : Prop where
 nd : todo.Nodup
 val : ∀ t ∈ todo, ∃ f q, replayS g [0] t 0 = (f, q, 0)
 par : ∀ t ∈ todo, t ≠ [] → ∃ (i : Nat) (u : List Int) (k : Nat), todo[i]? = some u ∧ t = u ++ [(k : Int)] ∧ (i < at' ∨ (i = at' ∧ k < kk))
 outs : ∀ d ∈ out, Dv g [0] d w ∧ ∃ i, i < at' ∧ todo[i]? = some d
 ond : out.Nodup
section
variable {w t : List Int} {at' kk : Nat} {todo out : List (List Int)}
end
theorem Dv.yd {l d w : List Int} (h : Dv g l d w) : Yd g l w := by
 induction h with
 | nil => exact .nil
 | term h _ ih => exact .term h ih
 | @var i l d1 d2 w1 w2 h _ _ ih1 ih2 =>
  rw [lfF_eq h]
  rw [rgF_eq h] at ih1
  exact .var h ih1 ih2
end Go.AM.Fo
