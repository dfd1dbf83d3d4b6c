/- A part of a proof. Its conditions: none. -/
import Derived.Test.YtihjaobjhmmboaaGreatDoorAmE
import Derived.ProofKit
import Derived.Deep.Slices
import Derived.Carry
import Derived.Lib.LaidTab
import Derived.ChangeSame
import Derived.LaidOnce
import Derived.Lay
import Derived.Deep.DeepHandedRow
import Derived.Test.YtihjaobjhmmboaaGreatDoorAmD
set_option linter.all false
namespace Go.AM
open Go.RowKit
inductive AR (P : Program) (H : Heap) : TypeId → List Value → Prop where
  | bool (t : TypeId) (b : Bool) (ht : P.underlying t = some .bool) : AR P H t [.bool b]
  | int (t : TypeId) (k : IntKind) (n : Int) (ht : P.underlying t = some (.int k)) (hw : (Lit.int k n).wf = true) : AR P H t [.int k n]
  | float (t : TypeId) (k : FloatKind) (b : Nat) (ht : P.underlying t = some (.float k)) (hw : (Lit.float k b).wf = true) : AR P H t [.float k b]
  | string (t : TypeId) (s : ByteArray) (ht : P.underlying t = some .string) (hs : s.size ≤ maxLen) : AR P H t [.string s]
  | nil (t e : TypeId) (ht : P.underlying t = some (.slice e)) : AR P H t [.slice none 0 0]
  | slice (t e : TypeId) (x m : Nat) (cs : List Value) (ht : P.underlying t = some (.slice e)) (hx : H x = .cells cs e false) (hl : cs.length = m * P.cellsOf e) (hm : m ≤ maxLen)
      (he : ∀ i, i < m → AR P H e ((cs.drop (i * P.cellsOf e)).take (P.cellsOf e))) : AR P H t [.slice (some ⟨x, 0, none⟩) m m]
  | struct (t : TypeId) (fs : Array Field) (cs : List Value) (ht : P.underlying t = some (.struct fs)) (hl : cs.length = P.cellsOf t)
      (hf : ∀ (i : Nat) (f : Field), fs[i]? = some f → AR P H f.type ((cs.drop f.offset).take (P.cellsOf f.type))) : AR P H t cs
theorem AR.mono {P : Program} {H H' : Heap} {t : TypeId} {cs : List Value} (h : AR P H t cs) (hle : ∀ x, H x ≠ .dead → H' x = H x) : AR P H' t cs := by
 induction h with
 | bool t b ht => exact .bool t b ht
 | int t k n ht hw => exact .int t k n ht hw
 | float t k b ht hw => exact .float t k b ht hw
 | string t s ht hs => exact .string t s ht hs
 | nil t e ht => exact .nil t e ht
 | slice t e x m cs ht hx hl hm _ ih => exact .slice t e x m cs ht (by rw [hle x (by rw [hx]; intro e; cases e), hx]) hl hm ih
 | struct t fs cs ht hl _ ih => exact .struct t fs cs ht hl ih
def lined (P : Program) : Nat → List Field → Nat → Bool
 | at_, [], stop => at_ == stop
 | at_, f :: fs, stop => f.offset == at_ && lined P (at_ + P.cellsOf f.type) fs stop
def plainT (P : Program) : Nat → TypeId → Bool
 | 0, _ => false
 | d + 1, t => match P.underlying t with
  | some .bool | some (.int _) | some (.float _) | some .string => P.cellsOf t == 1
  | some (.slice e) => P.cellsOf t == 1 && decide (P.cellsOf e ≠ 0) && plainT P d e
  | some (.struct fs) => lined P 0 fs.toList (P.cellsOf t) && fs.toList.all fun f => plainT P d f.type
  | _ => false
structure Sofar (P : Program) (w : World) (ι : Inj) (C : Heap) (n : Nat) : Prop where
 hr : HR P w.heap.size ι C w
 free : ∀ x, n ≤ x → ι x = none
 wf : WF n C
 ro : ∀ x t, ι x = some t → t.own = false
 pos : 0 < w.heap.size
structure More (ι : Inj) (C : Heap) (n : Nat) (κ : Inj) (C' : Heap) (n' : Nat) : Prop where
 le : Inj.le ι κ
 heap : ∀ x, C x ≠ .dead → C' x = C x
 n : n ≤ n'
theorem More.refl (ι : Inj) (C : Heap) (n : Nat) : More ι C n ι C n := ⟨Inj.le_refl ι, fun _ _ => rfl, Nat.le_refl _⟩
theorem More.trans {ι κ μ : Inj} {C C1 C2 : Heap} {n n1 n2 : Nat} (a : More ι C n κ C1 n1) (b : More κ C1 n1 μ C2 n2) : More ι C n μ C2 n2 :=
 ⟨Inj.le_trans a.le b.le, fun x h => by rw [b.heap x (by rw [a.heap x h]; exact h), a.heap x h], Nat.le_trans a.n b.n⟩
section
variable {P : Program} {w : World}
theorem Sofar.addRO {ι : Inj} {C : Heap} {n : Nat} (h : Sofar P w ι C n) {cs : List Value} {e : TypeId} {b o : Nat} (hb : b < w.heap.size)
  (hc : ∀ (i : Nat) (v : Value), cs[i]? = some v → ∃ v', w.cell? ⟨b, o + i, none⟩ = some v' ∧ VR ι v v' ∧ one v = true) :
  Sofar P w (iset ι n ⟨b, o, false, 0, 0⟩) (hset C n (.cells cs e false)) (n + 1) ∧ More ι C n (iset ι n ⟨b, o, false, 0, 0⟩) (hset C n (.cells cs e false)) (n + 1) := by
 have hn := h.free n (Nat.le_refl _)
 have hle := iset_le (ι := ι) ⟨b, o, false, 0, 0⟩ hn
 refine ⟨⟨⟨fun x => ?_, fun x y t u hx hy ex ey ho hbl => ?_, fun x t e => ?_, Nat.le_refl _, fun g hg => hle g _ (h.hr.gl g hg), fun x y t u cs' ty b ds ty' hx hy ex ey hbl => ?_⟩, fun x hx => ?_, fun x hx => ?_, fun x t e => ?_, h.pos⟩, ⟨hle, fun x hx => ?_, Nat.le_succ n⟩⟩
 ·rw [hset_apply]; split
  ·rename_i e; subst e
   refine ⟨_, iset_same _ _ _, rfl, fun i v e => ?_, fun e => by cases e⟩
   obtain ⟨v', h1, h2, h3⟩ := hc i v e
   exact ⟨v', h1, h2.mono hle, h3⟩
  ·exact (h.hr.obj x).carry hle fun _ _ => rfl
 ·exfalso
  by_cases e : x = n
  ·subst e; rw [iset_same] at ex; cases ex; cases ho
  ·rw [iset_other _ _ e] at ex
   rw [h.ro x t ex] at ho; cases ho
 ·by_cases e1 : x = n
  ·subst e1; rw [iset_same] at e; cases e; exact ⟨hb, (fun k => by cases k), fun _ => hb⟩
  ·rw [iset_other _ _ e1] at e; exact h.hr.rng x t e
 ·by_cases e1 : x = n
  ·subst e1; rw [hset_same] at hx; cases hx
  ·by_cases e2 : y = n
   ·subst e2; rw [hset_same] at hy; cases hy
   ·rw [hset_other _ _ e1] at hx
    rw [hset_other _ _ e2] at hy
    rw [iset_other _ _ e1] at ex
    rw [iset_other _ _ e2] at ey
    exact h.hr.last x y t u cs' ty b ds ty' hx hy ex ey hbl
 ·rw [iset_other _ _ (by omega)]; exact h.free x (by omega)
 ·rw [hset_other _ _ (by omega)]; exact h.wf x (by omega)
 ·by_cases e1 : x = n
  ·subst e1; rw [iset_same] at e; cases e; rfl
  ·rw [iset_other _ _ e1] at e; exact h.ro x t e
 ·by_cases e : x = n
  ·subst e; exact absurd (h.wf x (Nat.le_refl _)) hx
  ·exact hset_other _ _ e
theorem cells?_spec {base : Nat} {a : Addr} {m : Nat} {cs : List Value} (h : w.cells? base a m = some cs) : cs.length = m ∧ ∀ i, i < m → w.cell? (a.add i) = cs[i]? := by
 obtain ⟨_, h1, h2⟩ := World.cells?_some h
 exact ⟨h1, h2⟩
variable {H : Type} {enc : TypeId × Value → H}
def Opened (P : Program) (w : World) (ι : Inj) (C : Heap) (n : Nat) (t : TypeId) (cs : List Value) : Prop :=
 ∃ acs κ C' n', Sofar P w κ C' n' ∧ More ι C n κ C' n' ∧ VRs κ acs cs ∧ AR P C' t acs ∧ acs.length = P.cellsOf t ∧ acs.all one = true
theorem opened_flat {ι : Inj} {C : Heap} {n : Nat} {t : TypeId} {v : Value} (h : Sofar P w ι C n) (hf : still1 v = true) (hr : VR ι v v) (ha : AR P C t [v]) (hc : (P.cellsOf t == 1) = true) : Opened P w ι C n t [v] := by
 refine ⟨[v], ι, C, n, h, More.refl _ _ _, .cons hr (.nil ι), ha, ?_, by simp [still1_one hf]⟩
 have : P.cellsOf t = 1 := by simpa using hc
 simp [this]
theorem open_elems {e : TypeId} {a : Addr} {f : TypeId → List Value → Prop} {len : Nat} (hop : ∀ cs, f e cs → ∀ ι C n, Sofar P w ι C n → Opened P w ι C n e cs)
  (he : ∀ i, i < len → ∃ cs, w.cells? 0 (a.add (i * P.cellsOf e)) (P.cellsOf e) = some cs ∧ f e cs) : ∀ m, m ≤ len → ∀ ι C n, Sofar P w ι C n →
  ∃ (acs : List Value) (κ : Inj) (C' : Heap) (n' : Nat), Sofar P w κ C' n' ∧ More ι C n κ C' n' ∧ acs.length = m * P.cellsOf e ∧ (∀ i, i < m → AR P C' e ((acs.drop (i * P.cellsOf e)).take (P.cellsOf e))) ∧
   ∀ (i : Nat) (v : Value), acs[i]? = some v → ∃ v', w.cell? (a.add i) = some v' ∧ VR κ v v' ∧ one v = true := by
 intro m
 induction m with
 | zero => intro _ ι C n h; exact ⟨[], ι, C, n, h, More.refl _ _ _, by simp, fun i hi => by omega, fun i v e => by simp at e⟩
 | succ m ih =>
  intro hm ι C n h
  obtain ⟨acs, κ, C', n', h1, h2, h3, h4, h5⟩ := ih (by omega) ι C n h
  obtain ⟨cs, hcs, hf⟩ := he m (by omega)
  obtain ⟨bcs, μ, C'', n'', g1, g2, g3, g4, g5, g6⟩ := hop cs hf κ C' n' h1
  obtain ⟨hlen, hcell⟩ := cells?_spec hcs
  refine ⟨acs ++ bcs, μ, C'', n'', g1, h2.trans g2, by rw [List.length_append, h3, g5, Nat.succ_mul], fun i hi => ?_, fun i v hq => ?_⟩
  ·by_cases him : i < m
   ·have hle : i * P.cellsOf e + P.cellsOf e ≤ m * P.cellsOf e := by rw [← Nat.succ_mul]; exact Nat.mul_le_mul_right _ him
    rw [List.drop_append_of_le_length (by omega), List.take_append_of_le_length (by simp; omega)]
    exact (h4 i him).mono g2.heap
   ·have : i = m := by omega
    subst this
    rw [← h3, List.drop_left, List.take_of_length_le (by omega)]
    exact g4
  ·by_cases hia : i < acs.length
   ·rw [List.getElem?_append_left hia] at hq
    obtain ⟨v', e1, e2, e3⟩ := h5 i v hq
    exact ⟨v', e1, e2.mono g2.le, e3⟩
   ·rw [List.getElem?_append_right (by omega)] at hq
    obtain ⟨v', e1, e2⟩ := g3.get hq
    refine ⟨v', ?_, e2, List.all_eq_true.1 g6 v (List.mem_of_getElem? hq)⟩
    have hi' : i - acs.length < bcs.length := by
     rcases Nat.lt_or_ge (i - acs.length) bcs.length with g | g
     ·exact g
     ·rw [List.getElem?_eq_none g] at hq; cases hq
    have := hcell (i - acs.length) (by omega)
    rw [Go.Deep.add_add, ← h3, show acs.length + (i - acs.length) = i by omega] at this
    rw [this]; exact e1
theorem open_fields {f : TypeId → List Value → Prop} {cs : List Value} : ∀ (fs : List Field) (at_ stop : Nat), lined P at_ fs stop = true → stop ≤ cs.length →
    (∀ g ∈ fs, ∀ cs', f g.type cs' → ∀ ι C n, Sofar P w ι C n → Opened P w ι C n g.type cs') → (∀ g ∈ fs, f g.type ((cs.drop g.offset).take (P.cellsOf g.type))) → ∀ ι C n, Sofar P w ι C n →
    ∃ acs κ C' n', Sofar P w κ C' n' ∧ More ι C n κ C' n' ∧ VRs κ acs ((cs.drop at_).take (stop - at_)) ∧ acs.all one = true ∧ acs.length = stop - at_ ∧ at_ ≤ stop ∧
      ∀ g ∈ fs, at_ ≤ g.offset ∧ AR P C' g.type ((acs.drop (g.offset - at_)).take (P.cellsOf g.type)) := by
  intro fs
  induction fs with
  | nil =>
    intro at_ stop hl _ _ _ ι C n h
    have : at_ = stop := by simpa [lined] using hl
    subst this
    exact ⟨[], ι, C, n, h, More.refl _ _ _, by simpa using VRs.nil ι, rfl, by simp, Nat.le_refl _, fun g hg => by cases hg⟩
  | cons g fs ih =>
    intro at_ stop hl hst hop hf ι C n h
    simp only [lined, Bool.and_eq_true, beq_iff_eq] at hl
    obtain ⟨hoff, hl⟩ := hl
    obtain ⟨bcs, κ, C', n', g1, g2, g3, g4, g5, g6⟩ := hop g (by simp) _ (hf g (by simp)) ι C n h
    obtain ⟨acs, μ, C'', n'', h1, h2, h3, h4, h5, h6, h7⟩ := ih _ stop hl hst (fun g' hg' => hop g' (by simp [hg'])) (fun g' hg' => hf g' (by simp [hg'])) κ C' n' g1
    rw [hoff] at g3
    refine ⟨bcs ++ acs, μ, C'', n'', h1, g2.trans h2, ?_, by simp [g6, h4], by rw [List.length_append, g5, h5]; omega, by omega, fun g' hg' => ?_⟩
    · have e1 : (cs.drop at_).take (stop - at_) = (cs.drop at_).take (P.cellsOf g.type) ++ (cs.drop (at_ + P.cellsOf g.type)).take (stop - (at_ + P.cellsOf g.type)) := by
        have : stop - at_ = P.cellsOf g.type + (stop - (at_ + P.cellsOf g.type)) := by omega
        rw [this, List.take_add, List.drop_drop]
      rw [e1]
      exact (g3.mono h2.le).append h3
    · rcases List.mem_cons.1 hg' with e | e
      · subst e
        refine ⟨by omega, ?_⟩
        rw [hoff, Nat.sub_self, List.drop_zero, List.take_append_of_le_length (by omega), List.take_of_length_le (by omega)]
        exact g4.mono h2.heap
      · obtain ⟨k1, k2⟩ := h7 g' e
        refine ⟨by omega, ?_⟩
        rw [List.drop_append, List.drop_of_length_le (by omega), List.nil_append, g5, show g'.offset - at_ - P.cellsOf g.type = g'.offset - (at_ + P.cellsOf g.type) by omega]
        exact k2
theorem open_cells : ∀ (fuel d : Nat) (t : TypeId) (cs : List Value) (x : DataW H × List MemPlace), plainT P d t = true → DataW.trod enc P w 0 (fun _ => true) true fuel t cs = some x →
  ∀ ι C n, Sofar P w ι C n → Opened P w ι C n t cs := by
 intro fuel
 induction fuel with
 | zero => intro d t cs x _ h; simp [DataW.trod] at h
 | succ fuel ih =>
  intro d t cs x hp h ι C n hs
  cases d with
  | zero => simp [plainT] at hp
  | succ d =>
   simp only [plainT] at hp
   split at hp
   ·rename_i ht
    obtain ⟨b, rfl, _⟩ := DataW.trod_bool ht h
    exact opened_flat hs rfl (.bool b) (.bool t b ht) hp
   ·rename_i k ht
    obtain ⟨m, rfl, _, hw⟩ := DataW.trod_int ht h
    exact opened_flat hs rfl (.int k m) (.int t k m ht hw) hp
   ·rename_i k ht
    have : ∃ b, cs = [.float k b] ∧ (Lit.float k b).wf = true := by
     unfold DataW.trod at h
     rw [ht] at h
     split at h <;> simp_all
    obtain ⟨b, rfl, hw⟩ := this
    exact opened_flat hs rfl (.float k b) (.float t k b ht hw) hp
   ·rename_i ht
    obtain ⟨s, rfl, _, hw⟩ := DataW.trod_string ht h
    exact opened_flat hs rfl (.string s) (.string t s ht hw) hp
   ·rename_i e ht
    simp only [Bool.and_eq_true, decide_eq_true_eq] at hp
    obtain ⟨⟨hc, he0⟩, hpe⟩ := hp
    have hc' : P.cellsOf t = 1 := by simpa using hc
    rcases DataW.trod_slice ht h with ⟨rfl, _⟩ | ⟨a, len, cap, elems, rest, m, hm, rfl, _, _, hlc, hmx, hel, h1, h2, _⟩
    ·exact opened_flat hs rfl .sliceNil (.nil t e ht) hc
    ·have hmf : m = fuel := by omega
     subst hmf
     by_cases hcap : cap = 0
     ·have hl0 : len = 0 := by omega
      subst hcap hl0
      obtain ⟨k1, k2⟩ := hs.addRO (cs := []) (e := e) (b := 0) (o := 0) hs.pos (fun i v e => by simp at e)
      exact ⟨[.slice (some ⟨n, 0, none⟩) 0 0], _, _, n + 1, k1, k2, .cons (.sliceE n 0 a _ (iset_same _ _ _) rfl) (.nil _), .slice t e n 0 [] ht (hset_same _ _ _) (by simp) (Nat.zero_le _) (fun i hi => absurd hi (Nat.not_lt_zero _)), by simp [hc'], rfl⟩
     ·obtain ⟨hr1, hr2⟩ := h2 rfl
      have hsome : ∀ i, i < len → ∃ cs, w.cells? 0 (a.add (i * P.cellsOf e)) (P.cellsOf e) = some cs ∧ (∃ x, DataW.trod enc P w 0 (fun _ => true) true m e cs = some x) := by
       intro i hi
       have := h1 i hi
       rw [List.getElem?_eq_getElem (by omega)] at this
       obtain ⟨cs', e1, e2⟩ := Option.bind_eq_some_iff.1 this
       exact ⟨cs', e1, _, e2⟩
      have hfirst : ∃ cs, w.cells? 0 (a.add 0) (P.cellsOf e) = some cs := by
       by_cases hl : 0 < len
       ·obtain ⟨cs', e1, _⟩ := hsome 0 hl
        exact ⟨cs', by simpa using e1⟩
       ·have hl0 : len = 0 := by omega
        have := hr2 0 (by omega)
        rw [List.getElem?_eq_getElem (by omega)] at this
        obtain ⟨cs', e1, _⟩ := Option.bind_eq_some_iff.1 this
        exact ⟨cs', by simpa [hl0] using e1⟩
      obtain ⟨cs0, hcs0⟩ := hfirst
      obtain ⟨hl0, hcell0⟩ := cells?_spec hcs0
      have hc0 := hcell0 0 (by omega)
      rw [List.getElem?_eq_getElem (by omega)] at hc0
      have ha : a.add 0 = a := by simp [Addr.add]
      rw [ha, ha] at hc0
      have hblk : a.block < w.heap.size := World.block_lt_of_cell? w a hc0
      have hspot : a.spot = none := by
       unfold World.cell? at hc0
       cases hsp : a.spot with
       | none => rfl
       | some s => simp [hsp] at hc0; split at hc0 <;> simp at hc0
      obtain ⟨b, o, sp⟩ := a
      simp only at hspot hblk
      subst hspot
      obtain ⟨acs, κ, C', n', g1, g2, g3, g4, g5⟩ := open_elems (f := fun e cs => ∃ x, DataW.trod enc P w 0 (fun _ => true) true m e cs = some x)
       (fun cs' hx ι C n h => by obtain ⟨x, hx⟩ := hx; exact ih d e cs' x hpe hx ι C n h) hsome len (Nat.le_refl _) ι C n hs
      obtain ⟨k1, k2⟩ := g1.addRO (e := e) hblk (fun i v e => by
       obtain ⟨v', e1, e2⟩ := g5 i v e
       rw [add_lit] at e1
       exact ⟨v', e1, e2⟩)
      refine ⟨[.slice (some ⟨n', 0, none⟩) len len], _, _, n' + 1, k1, g2.trans k2, .cons ?_ (.nil _), ?_, by simp [hc'], rfl⟩
      ·exact .slice n' 0 len o cap _ (iset_same _ _ _) (fun _ => rfl) hlc hmx (fun e => by cases e)
      ·refine .slice t e n' len acs ht (hset_same _ _ _) g3 (by omega) fun i hi => (g4 i hi).mono k2.heap
   ·rename_i fs ht
    simp only [Bool.and_eq_true, List.all_eq_true] at hp
    obtain ⟨xs, m, hm, _, hlen, hxs, hf⟩ := DataW.trod_struct ht h
    have hmf : m = fuel := by omega
    subst hmf
    obtain ⟨acs, κ, C', n', g1, g2, g3, g4, g5, _, g7⟩ := open_fields (w := w) (f := fun t cs => ∃ x, DataW.trod enc P w 0 (fun _ => true) true m t cs = some x) (cs := cs) fs.toList 0 (P.cellsOf t) hp.1 (by omega)
     (fun g hg cs' hx ι C n h => by obtain ⟨x, hx⟩ := hx; exact ih d g.type cs' x (hp.2 g hg) hx ι C n h)
     (fun g hg => by
      obtain ⟨i, hi, rfl⟩ := List.getElem_of_mem hg
      have hi' : i < fs.size := by simpa using hi
      have := hf i fs[i] (Array.getElem?_eq_getElem hi')
      rw [List.getElem?_eq_getElem (by omega)] at this
      exact ⟨_, by simpa using this⟩) ι C n hs
    refine ⟨acs, κ, C', n', g1, g2, ?_, ?_, by omega, g4⟩
    ·simpa [List.take_of_length_le (Nat.le_of_eq hlen)] using g3
    ·refine .struct t fs acs ht (by omega) fun i f hi => ?_
     have hmem : f ∈ fs.toList := by have := Array.mem_of_getElem? hi; simpa using this
     have := (g7 f hmem).2
     simpa using this
   ·cases hp
end
end Go.AM
namespace Go.AM
open Go.RowKit Go.ChangeShapes Go.WideShapes Go.ChangeAt
section
variable {P : Program} {H : Type} {enc : TypeId × Value → H}
def ARV (P : Program) (H : Heap) (t : TypeId) (v : Value) : Prop := AR P H t (vcells v) ∧ (aggT P t = some true → ∃ cs, v = .agg cs) ∧ (aggT P t = some false → one v = true)
inductive ARs (P : Program) (H : Heap) : List TypeId → List Value → Prop where
 | nil : ARs P H [] []
 | cons {t : TypeId} {v : Value} {ts : List TypeId} {vs : List Value} (h : ARV P H t v) (k : ARs P H ts vs) : ARs P H (t :: ts) (v :: vs)
theorem ARV.mono {H H' : Heap} {t : TypeId} {v : Value} (h : ARV P H t v) (hle : ∀ x, H x ≠ .dead → H' x = H x) : ARV P H' t v := ⟨h.1.mono hle, h.2⟩
theorem one_of_ok {t : TypeId} {W : World} {base d : Nat} {v : Value} (hp : plainT P d t = true) (ha : aggT P t = some false) (h : Value.okWide P W .any base t v) : v.oneCell' = true := by
 cases d with
 | zero => simp [plainT] at hp
 | succ d =>
  unfold aggT at ha
  simp only [plainT] at hp
  unfold Value.okWide at h
  unfold Cell.okWide Cell.ok at h
  split at hp <;> rename_i ht <;> (try rw [ht] at ha) <;> (try rw [ht] at h) <;> (first | (cases ha; done) | (cases hp; done) | skip) <;>
   (cases v <;> first | rfl | (simp at h) | (simp at hp))
theorem open_args : ∀ (ts : List TypeId) (vs : List Value) (ds : List (DataW H)) (ps : List MemPlace) (W : World) (base d : Nat), (∀ t ∈ ts, plainT P d t = true) →
  (∀ (j : Nat) t v, ts[j]? = some t → vs[j]? = some v → Value.okWide P W .any base t v) → DataW.TrodAll enc P W 0 (fun _ => true) true ts vs ds ps →
  ∀ ι C n, Sofar P W ι C n → ∃ avs κ C' n', Sofar P W κ C' n' ∧ More ι C n κ C' n' ∧ VRs κ avs vs ∧ ARs P C' ts avs := by
 intro ts
 induction ts with
 | nil =>
  intro vs ds ps W base d _ _ h ι C n hs
  obtain ⟨rfl, _, _⟩ := trodAll_nil h
  exact ⟨[], ι, C, n, hs, More.refl _ _ _, .nil ι, .nil⟩
 | cons t ts ih =>
  intro vs ds ps W base d hp hok h ι C n hs
  obtain ⟨v, vs1, d1, ds1, a, b, rfl, rfl, rfl, h1, h2⟩ := trodAll_cons h
  obtain ⟨fuel, h1⟩ := h1
  obtain ⟨acs, κ, C1, n1, g1, g2, g3, g4, g5, g6⟩ := open_cells fuel d t _ _ (hp t (by simp)) h1 ι C n hs
  obtain ⟨avs, μ, C2, n2, k1, k2, k3, k4⟩ := ih vs1 ds1 b W base d (fun t' ht' => hp t' (by simp [ht'])) (fun j t' v' e1 e2 => hok (j + 1) t' v' (by simpa using e1) (by simpa using e2)) h2 κ C1 n1 g1
  have hov := hok 0 t v rfl rfl
  have hagg : ∃ b, aggT P t = some b := by
   have hpt := hp t (by simp)
   cases d with
   | zero => simp [plainT] at hpt
   | succ d =>
    simp only [plainT] at hpt
    unfold aggT
    split at hpt <;> rename_i ht <;> simp [ht]
    cases hpt
  obtain ⟨b, hb⟩ := hagg
  have hval : ∃ av, VR κ av v ∧ ARV P C1 t av := by
   cases b with
   | true =>
    have hv : ∃ cs, v = .agg cs := by
     unfold aggT at hb
     unfold Value.okWide at hov
     split at hb <;> rename_i ht <;> simp only [ht] at hov <;> (try (cases hb; done))
     all_goals (obtain ⟨cs, e, _⟩ := hov; exact ⟨cs, e⟩)
    obtain ⟨cs, rfl⟩ := hv
    refine ⟨.agg acs.toArray, ?_, ?_, fun _ => ⟨_, rfl⟩, fun e => by rw [hb] at e; cases e⟩
    ·have := g3.agg; simpa [Value.cells] using this
    ·simpa [vcells, Value.cells] using g4
   | false =>
    have hv1 := one_of_ok (hp t (by simp)) hb hov
    have hc : v.cells.toList = [v] := by cases v <;> first | rfl | (simp [Value.oneCell'] at hv1)
    rw [hc] at g3
    match acs, g3 with
    | [av], g3 =>
     obtain ⟨v', k, e, r1, _⟩ := g3.cons_inv
     simp only [List.cons.injEq] at e
     obtain ⟨rfl, _⟩ := e
     have ho : one av = true := by simpa using g6
     have hvc : vcells av = [av] := by cases av <;> first | rfl | (simp [one] at ho)
     exact ⟨av, r1, by rw [hvc]; exact g4, fun e => by (rw [hb] at e; cases e), fun _ => ho⟩
    | [], g3 => simp [VRs] at g3
    | _ :: _ :: _, g3 => simp [VRs] at g3
  obtain ⟨av, r1, r2⟩ := hval
  exact ⟨av :: avs, μ, C2, n2, k1, g2.trans k2, .cons (r1.mono k2.le) k3, .cons (r2.mono k2.heap) k4⟩
theorem trodAll_stays (hl : laidOutB P = true) {W W' : World} (hb : Below W.heap.size W W') : ∀ (ts : List TypeId) (vs : List Value) (ds : List (DataW H)) (ps : List MemPlace),
  (∀ t ∈ ts, P.readableRec t = true ∧ t < P.types.size) → DataW.TrodAll enc P W 0 (fun _ => true) true ts vs ds ps → (∀ x ∈ ps, x.block < W.heap.size) →
  DataW.TrodAll enc P W' 0 (fun b => decide (b < W.heap.size)) true ts vs ds ps := by
 intro ts
 induction ts with
 | nil => intro vs ds ps _ h _; obtain ⟨rfl, rfl, rfl⟩ := trodAll_nil h; exact rfl
 | cons t ts ih =>
  intro vs ds ps ht h hp
  obtain ⟨v, vs1, d1, ds1, a, b, rfl, rfl, rfl, h1, h2⟩ := trodAll_cons h
  obtain ⟨hr, hrow⟩ := ht t (by simp)
  exact ⟨a, b, Below.trod hl hr hrow h1 hb (fun x hx => hp x (by simp [hx])), ih vs1 ds1 b (fun t' h' => ht t' (by simp [h'])) h2 (fun x hx => hp x (by simp [hx])), rfl⟩
theorem still1_of_flat1 {v : Value} (h : flat1 v = true) : still1 v = true := by
 unfold still1
 split
 ·rfl
 ·exact h
structure Globs (P : Program) (W : World) (G : Heap) : Prop where
 out : ∀ x, ngl P ≤ x → G x = .dead
 cells : ∀ x, G x ≠ .dead → ∃ cs ty, G x = .cells cs ty false ∧ cs.all flat1 = true ∧ ∀ (i : Nat) (v : Value), cs[i]? = some v → W.cell? ⟨x, i, none⟩ = some v
 there : ngl P ≤ W.heap.size
 pos : 0 < W.heap.size
def AllRO (H : Heap) : Prop := ∀ x cs ty own, H x = .cells cs ty own → own = false
def LawRuns (P : Program) (G : Heap) (F : FuncId) (ts : List TypeId) : Prop :=
 ∀ (n : Nat) (H : Heap) (vs : List Value), WF n H → ngl P ≤ n → (∀ x, G x ≠ .dead → H x = G x) → AllRO H → ARs P H ts vs → ∃ n' H', BS P (.call F vs n H) (.ret (.bool true) n' H')
theorem law_contract (hm : P.follows .mixedOrders = true) (hl : laidOutB P = true) {F : FuncId} {fn : Func} {s : ChangeSpec} {d : Nat} {tb : TypeId} {G : Heap} (hlaw : LawRuns P G F fn.params.toList) (hvars : s.vars = [])
    (hspec : ∀ ds : List (DataW H), ds.length = fn.params.size → s.fn H ds = { results := [.lit (.bool true)], args := ds })
    (hp : ∀ t ∈ fn.params.toList, plainT P d t = true ∧ P.readableRec t = true ∧ t < P.types.size) (hres : fn.resultTypes = #[tb]) (htb : P.underlying tb = some .bool)
    (W : World) (base : Nat) (args : Array Value) (ds gs : List (DataW H)) (before : List MemPlace)
    (hval : ∀ (j : Nat) t v, fn.params[j]? = some t → args[j]? = some v → Value.okWide P W .any base t v) (hW : DataW.Whole enc P fn.params.toList s.vars false W args.toList ds gs before) (hG : Globs P W G) :
    Calls P F args W fun e W' => ∃ v, e = .returned v ∧ s.post enc P fn false true false false W args v W' := by
  have hlt := hW.lt
  have hW' := hW
  obtain ⟨p, q, hA, hV, rfl, hfz, hnd⟩ := hW
  rw [hvars] at hV
  obtain ⟨rfl, rfl⟩ : gs = [] ∧ q = [] := by
    cases gs with
    | nil => exact ⟨rfl, hV⟩
    | cons => exact absurd hV (by simp [DataW.TrodVars])
  have hs0 : Sofar P W (fun x => if x < ngl P then some ⟨x, 0, false, 0, 0⟩ else none) G (ngl P) := by
    refine ⟨⟨fun x => ?_, fun x y t u hx hy ex ey ho => ?_, fun x t e => ?_, Nat.le_refl _, fun g hg => by simp [hg], fun x y t u cs ty b ds ty' hx hy ex ey hbl => ?_⟩, fun x hx => by rw [if_neg (by omega)], fun x hx => hG.out x hx, fun x t e => ?_, hG.pos⟩
    · by_cases hd : G x = .dead
      · rw [hd]; trivial
      · obtain ⟨cs, ty, hc, hf, hcell⟩ := hG.cells x hd
        have hx : x < ngl P := Nat.lt_of_not_le fun h => hd (hG.out x h)
        rw [hc]
        refine ⟨⟨x, 0, false, 0, 0⟩, by simp [hx], rfl, fun i v e => ?_, fun e => by cases e⟩
        have hv := List.all_eq_true.1 hf v (List.mem_of_getElem? e)
        refine ⟨v, by simpa using hcell i v e, flat1_refl _ hv, still1_one (still1_of_flat1 hv)⟩
    · split at ex
      · cases ex; cases ho
      · cases ex
    · split at e
      · rename_i hx; cases e; exact ⟨Nat.lt_of_lt_of_le hx hG.there, (fun k => by cases k), fun _ => Nat.lt_of_lt_of_le hx hG.there⟩
      · cases e
    · obtain ⟨_, _, hc, _⟩ := hG.cells x (by rw [hx]; intro e; cases e)
      rw [hc] at hx; cases hx
    · split at e
      · cases e; rfl
      · cases e
  obtain ⟨avs, κ, C, n, g1, g2, g3, g4⟩ := open_args fn.params.toList args.toList ds p W base d (fun t ht => (hp t ht).1) (fun j t v e1 e2 => hval j t v (by simpa using e1) (by simpa using e2)) hA _ _ _ hs0
  obtain ⟨n', H', hbs⟩ := hlaw n C avs g1.wf g2.n (fun x hx => g2.heap x hx) (fun x cs ty own hx => by
    have hob := g1.hr.obj x
    rw [hx] at hob
    obtain ⟨t, h1, h2, _⟩ := hob
    rw [← h2]; exact g1.ro x t h1) g4
  obtain ⟨hmono, hcs, _⟩ := sound hm hbs
  have hcall := hcs g1.wf W.heap.size κ C W args.toList g3 g1.hr (fun _ _ _ => rfl) (fun x h1 _ => g1.free x h1)
  rw [Array.toArray_toList] at hcall
  refine hcall.mono ?_
  rintro e W' ⟨v', κ', C', rfl, hvr, ha⟩
  cases hvr
  refine ⟨.bool true, rfl, ds, [], p, [], p, [], by simpa using hW', ?_, ?_, ?_, ?_, fun h => by cases h⟩
  · have hlen : ds.length = fn.params.size := by
      have key : ∀ (ts : List TypeId) (vs : List Value) (ds : List (DataW H)) (ps : List MemPlace), DataW.TrodAll enc P W 0 (fun _ => true) true ts vs ds ps → ds.length = ts.length := by
        intro ts
        induction ts with
        | nil => intro vs ds ps h; obtain ⟨_, rfl, _⟩ := trodAll_nil h; rfl
        | cons t ts ih =>
          intro vs ds ps h
          obtain ⟨v, vs1, d1, ds1, a, b, rfl, rfl, rfl, _, h2⟩ := trodAll_cons h
          simp [ih _ _ _ h2]
      rw [key _ _ _ _ hA]; simp
    rw [hres, List.append_nil, hspec ds hlen]
    exact trodAll_mk1 (shut_bool htb true)
  · have hlen : ds.length = fn.params.size := by
      have key : ∀ (ts : List TypeId) (vs : List Value) (ds : List (DataW H)) (ps : List MemPlace), DataW.TrodAll enc P W 0 (fun _ => true) true ts vs ds ps → ds.length = ts.length := by
        intro ts
        induction ts with
        | nil => intro vs ds ps h; obtain ⟨_, rfl, _⟩ := trodAll_nil h; rfl
        | cons t ts ih =>
          intro vs ds ps h
          obtain ⟨v, vs1, d1, ds1, a, b, rfl, rfl, rfl, _, h2⟩ := trodAll_cons h
          simp [ih _ _ _ h2]
      rw [key _ _ _ _ hA]; simp
    rw [List.append_nil, hspec ds hlen]
    exact trodAll_stays hl ha.below _ _ _ _ (fun t ht => (hp t ht).2) hA (fun x hx => by simpa using hlt x (by simp [hx]))
  · rw [hvars]
    have hlen : True := trivial
    have : (s.fn H (ds ++ [])).vars = [] := by
      rw [List.append_nil, hspec ds (by
        have key : ∀ (ts : List TypeId) (vs : List Value) (ds : List (DataW H)) (ps : List MemPlace), DataW.TrodAll enc P W 0 (fun _ => true) true ts vs ds ps → ds.length = ts.length := by
          intro ts
          induction ts with
          | nil => intro vs ds ps h; obtain ⟨_, rfl, _⟩ := trodAll_nil h; rfl
          | cons t ts ih =>
            intro vs ds ps h
            obtain ⟨v, vs1, d1, ds1, a, b, rfl, rfl, rfl, _, h2⟩ := trodAll_cons h
            simp [ih _ _ _ h2]
        rw [key _ _ _ _ hA]; simp)]
    rw [this]
    exact rfl
  · exact World.keptBut_mono (fun x hx => by cases hx) (ha.below.frame (fun _ => False))
end
end Go.AM
namespace Go.AM
open Go.RowKit
theorem laid_at {P : Program} {w : World} : ∀ {l : List (String × DataW Unit)} {ps : List MemPlace}, DataW.LaidVars P w l ps → ∀ (i : Nat) (nm : String) (d : DataW Unit), l[i]? = some (nm, d) →
  ∃ g t cs fuel p, P.globalNamed nm = some g ∧ (P.globals[g]?).map (·.type) = some t ∧ w.var? P nm = some cs ∧ DataW.trod (fun _ => ()) P w 0 (fun _ => true) false fuel t cs.toList = some (d, p)
 | [], _, _, i, nm, d, e => by simp at e
 | (n, d') :: r, ps, h, i, nm, d, e => by
  obtain ⟨g, t, cs, fuel, p, q, h1, h2, h3, h4, h5, _⟩ := h
  cases i with
  | zero => simp at e; obtain ⟨rfl, rfl⟩ := e; exact ⟨g, t, cs, fuel, p, h1, h2, h3, h4⟩
  | succ i => exact laid_at h5 i nm d (by simpa using e)
theorem flat_pairs {α : Type} (f : α → List Value) (hf : ∀ x, (f x).length = 2) : ∀ (rows : List α) (cs : List Value), cs.length = rows.length * 2 → (∀ (i : Nat) (x : α), rows[i]? = some x → (cs.drop (i * 2)).take 2 = f x) → cs = rows.flatMap f
 | [], cs, hl, _ => by simp at hl; simp [hl]
 | x :: rows, cs, hl, h => by
  have h0 := h 0 x rfl
  simp only [Nat.zero_mul, List.drop_zero] at h0
  have ih := flat_pairs f hf rows (cs.drop 2) (by simp at hl ⊢; omega) (fun i y e => by
   have := h (i + 1) y (by simpa using e)
   rw [List.drop_drop]
   rwa [show 2 + i * 2 = (i + 1) * 2 by omega])
  rw [List.flatMap_cons, ← h0, ← ih, List.take_append_drop]
theorem cells_of_pairs {H : Type} {enc : TypeId × Value → H} {P : Program} {w : World} {base : Nat} {sp : Nat → Bool} {held : Bool} {fuel : Nat} {t e : TypeId} {n : Nat} {k : IntKind} {f0 f1 : Field} {cs : List Value} {rows : List (Nat × Nat)} {p : List MemPlace}
  (ht : P.underlying t = some (.array n e)) (he : P.underlying e = some (.struct #[f0, f1])) (o0 : f0.offset = 0) (o1 : f1.offset = 1) (k0 : P.underlying f0.type = some (.int k)) (k1 : P.underlying f1.type = some (.int k))
  (c0 : P.cellsOf f0.type = 1) (c1 : P.cellsOf f1.type = 1) (hce : P.cellsOf e = 2) (hct : P.cellsOf t = n * 2)
  (h : DataW.trod enc P w base sp held fuel t cs = some (.agg (rows.map fun x => .agg [.lit (.int k x.1), .lit (.int k x.2)]), p)) : cs = rows.flatMap fun x => [Value.int k x.1, Value.int k x.2] := by
 cases fuel with
 | zero => simp [DataW.trod] at h
 | succ fuel =>
  simp only [DataW.trod, ht, hce, hct] at h
  split at h
  case isFalse => cases h
  rename_i hl
  obtain ⟨xs, hm, hx⟩ := Option.map_eq_some_iff.1 h
  have hxs : xs.map (·.1) = rows.map fun x => (DataW.agg [.lit (.int k x.1), .lit (.int k x.2)] : DataW H) := by
   have := congrArg Prod.fst hx
   simpa using this
  have hxl : xs.length = n := by simpa using Lib.mapM_length hm
  have hrl : rows.length = n := by
   have := congrArg List.length hxs
   simp at this; omega
  refine flat_pairs _ (fun _ => rfl) rows cs (by rw [hl, hrl]) fun i x hi => ?_
  have hin : i < n := by
   rw [← hrl]
   rcases Nat.lt_or_ge i rows.length with g | g
   ·exact g
   ·rw [List.getElem?_eq_none g] at hi; cases hi
  obtain ⟨b, hb, hf⟩ := Lib.mapM_at hm i i (by simp [hin])
  obtain ⟨y0, y1, m, rfl, hlen, e0, e1⟩ := ChangeShapes.trod_struct2 he hf
  rw [o0, c0] at e0
  rw [o1, c1] at e1
  obtain ⟨z0, q0, rfl, _⟩ := DataW.trod_int k0 e0
  obtain ⟨z1, q1, rfl, _⟩ := DataW.trod_int k1 e1
  have h2 : (xs.map (·.1))[i]? = some (DataW.agg [.lit (.int k z0), .lit (.int k z1)] : DataW H) := by simp [hb]
  rw [hxs] at h2
  simp only [List.getElem?_map, hi, Option.map_some, Option.some.injEq, DataW.agg.injEq, List.cons.injEq, DataW.lit.injEq, Lit.int.injEq, true_and, and_true] at h2
  obtain ⟨rfl, rfl⟩ := h2
  rw [hce] at hlen
  generalize (cs.drop (i * 2)).take 2 = l at *
  match l, hlen with
  | [a, b], _ =>
   simp at q0 q1
   rw [q0, q1]
theorem heap_of_shaped {P : Program} {W : World} (hs : W.ShapedOpen P) {g : Nat} {zero : Array Value} {t : TypeId} (hg : g < P.globals.size)
  (h : ((begin P (fun _ _ => 0) default).world.heap[g]?).bind Obj.row? = some (zero, t)) : g < W.heap.size := by
 obtain ⟨cs, h1, _⟩ := hs.1 g zero t hg h
 rcases Nat.lt_or_ge g W.heap.size with k | k
 ·exact k
 ·rw [Array.getElem?_eq_none k] at h1; cases h1
theorem mapM_of {α β : Type} {f : α → Option β} {g : α → β} : ∀ (l : List α), (∀ x ∈ l, f x = some (g x)) → l.mapM f = some (l.map g)
 | [], _ => rfl
 | x :: l, h => by rw [List.mapM_cons, h x (by simp), mapM_of l fun y hy => h y (by simp [hy])]; rfl
theorem drop_flat {α : Type} (f : α → List Value) (hf : ∀ x, (f x).length = 2) : ∀ (rows : List α) (i : Nat) (x : α), rows[i]? = some x → ((rows.flatMap f).drop (i * 2)).take 2 = f x
 | [], i, x, h => by simp at h
 | y :: rows, 0, x, h => by
  simp at h
  subst h
  rw [List.flatMap_cons, Nat.zero_mul, List.drop_zero, List.take_append_of_le_length (by rw [hf]; exact Nat.le_refl _), List.take_of_length_le (by rw [hf]; exact Nat.le_refl _)]
 | y :: rows, i + 1, x, h => by
  rw [List.flatMap_cons, List.drop_append, List.drop_of_length_le (by rw [hf]; omega), List.nil_append, hf, show (i + 1) * 2 - 2 = i * 2 by omega]
  exact drop_flat f hf rows i x (by simpa using h)
theorem flat_len {α : Type} (f : α → List Value) (hf : ∀ x, (f x).length = 2) : ∀ rows : List α, (rows.flatMap f).length = rows.length * 2
 | [] => rfl
 | x :: rows => by rw [List.flatMap_cons, List.length_append, hf, flat_len f hf rows, List.length_cons]; omega
theorem pairs_trod {H : Type} {enc : TypeId × Value → H} {P : Program} {w : World} {base : Nat} {sp : Nat → Bool} {held : Bool} {t e : TypeId} {n : Nat} {k : IntKind} {f0 f1 : Field} {rows : List (Nat × Nat)}
    (ht : P.underlying t = some (.array n e)) (he : P.underlying e = some (.struct #[f0, f1])) (o0 : f0.offset = 0) (o1 : f1.offset = 1) (k0 : P.underlying f0.type = some (.int k)) (k1 : P.underlying f1.type = some (.int k))
    (c0 : P.cellsOf f0.type = 1) (c1 : P.cellsOf f1.type = 1) (hce : P.cellsOf e = 2) (hct : P.cellsOf t = n * 2) (hn : rows.length = n)
    (hwf : (rows.all fun x => (Lit.int k x.1).wf && (Lit.int k x.2).wf) = true) :
    DataW.trod enc P w base sp held 3 t (rows.flatMap fun x => [Value.int k x.1, Value.int k x.2]) = some (.agg (rows.map fun x => .agg [.lit (.int k x.1), .lit (.int k x.2)]), []) := by
  have hl : (rows.flatMap fun x => [Value.int k x.1, Value.int k x.2]).length = n * 2 := by rw [flat_len _ (fun _ => rfl), hn]
  have hstep : ∀ i ∈ List.range n, DataW.trod enc P w base sp held 2 e (((rows.flatMap fun x => [Value.int k x.1, Value.int k x.2]).drop (i * 2)).take 2) =
      some ((fun i => ((.agg [.lit (.int k (rows.getD i (0, 0)).1), .lit (.int k (rows.getD i (0, 0)).2)], []) : DataW H × List MemPlace)) i) := by
    intro i hi
    have hi' : i < rows.length := by rw [hn]; simpa using hi
    have hx : rows[i]? = some rows[i] := List.getElem?_eq_getElem hi'
    rw [drop_flat _ (fun _ => rfl) rows i rows[i] hx]
    have hw := List.all_eq_true.1 hwf rows[i] (List.getElem_mem hi')
    simp only [Bool.and_eq_true] at hw
    simp only [List.getD, hx, Option.getD_some]
    have e0 : DataW.trod enc P w base sp held 1 f0.type [Value.int k (rows[i].1 : Int)] = some (.lit (.int k rows[i].1), []) := by simp [DataW.trod, k0, hw.1]
    have e1 : DataW.trod enc P w base sp held 1 f1.type [Value.int k (rows[i].2 : Int)] = some (.lit (.int k rows[i].2), []) := by simp [DataW.trod, k1, hw.2]
    have := ChangeShapes.trod_struct_mk (enc := enc) (w := w) (base := base) (spare := sp) (held := held) (n := 1) (cs := [Value.int k (rows[i].1 : Int), Value.int k (rows[i].2 : Int)])
      (xs := [(.lit (.int k rows[i].1), []), (.lit (.int k rows[i].2), [])]) he (by simp [hce]) (by
        simp [List.mapM_cons, o0, o1, c0, c1, e0, e1])
    simpa using this
  have key : ∀ m, (∀ i ∈ List.range n, DataW.trod enc P w base sp held m e (((rows.flatMap fun x => [Value.int k x.1, Value.int k x.2]).drop (i * 2)).take 2) =
      some ((fun i => ((.agg [.lit (.int k (rows.getD i (0, 0)).1), .lit (.int k (rows.getD i (0, 0)).2)], []) : DataW H × List MemPlace)) i)) →
      DataW.trod enc P w base sp held (m + 1) t (rows.flatMap fun x => [Value.int k x.1, Value.int k x.2]) = some (.agg (rows.map fun x => .agg [.lit (.int k x.1), .lit (.int k x.2)]), []) := by
    intro m hm
    simp only [DataW.trod, ht, hce, hct, hl, if_true]
    rw [mapM_of _ hm]
    simp only [Option.map_some, Option.some.injEq, Prod.mk.injEq, DataW.agg.injEq]
    refine ⟨?_, ?_⟩
    · rw [List.map_map]
      apply List.ext_getElem?
      intro i
      by_cases hi : i < n
      · have hx : rows[i]? = some rows[i] := List.getElem?_eq_getElem (by omega)
        simp [hi, hx]
      · rw [List.getElem?_eq_none (by simp; omega), List.getElem?_eq_none (by simp; omega)]
    · simp
  exact key 2 hstep
def noIface : Value → Bool
 | .iface _ _ => false
 | _ => true
theorem laidMet_mk {P : Program} {w : World} {l : List (String × DataW Unit)} {ps : List MemPlace} (M : Nat) (bs : List Nat) (h : DataW.LaidVars P w l ps) (hn : nodupBits M ps 0 = true)
  (hb : (ps.all fun p => match p with | .cell b _ => bs.contains b | .map _ => false) = true) (ho : ∀ b ∈ bs, ∃ c t, w.heap[b]? = some (.cells c t (0, 0)) ∧ c.toList.all noIface = true) : laidMet P l w := by
 refine ⟨ps, h, (nodupBits_sound hn).1, fun b off hp => ?_⟩
 have := List.all_eq_true.1 hb _ hp
 obtain ⟨c, t, h1, h2⟩ := ho b (by simpa using this)
 refine ⟨⟨c, t, h1⟩, fun u v hc => ?_⟩
 exfalso
 have h3 : c[off]? = some (.iface u v) := by
  unfold World.cell? at hc
  simpa [h1] using hc
 have h4 := List.all_eq_true.1 h2 (.iface u v) (by
  have := Array.mem_of_getElem? h3
  simpa using this)
 cases h4
theorem witness_zip {H : Type} {enc : TypeId × Value → H} {C : Checked} {os : Os} {f : FuncId} {fn : Func} {s : OpenSpec} {conds : List PathCond} {apart : Bool} {laid : List (String × DataW Unit)} (w0 : World) (args : Array Value) (hos : w0.os = os)
  (hv : (w0.forCall (fun _ _ => 0) ⟨#[], args, []⟩).variablesZipB C.prog = true)
  (hr : ((w0.forCall (fun _ _ => 0) ⟨#[], args, []⟩).heap.toList.drop C.prog.globals.size).take ((begin C.prog (fun _ _ => 0) default).world.heap.size - C.prog.globals.size) =
   (begin C.prog (fun _ _ => 0) default).world.heap.toList.drop C.prog.globals.size)
  (hok : Input.okWideB C.prog (w0.forCall (fun _ _ => 0) ⟨#[], args, []⟩) f ⟨#[], args, []⟩ = true)
  (hrow : s.preRow enc C.prog fn conds apart laid (w0.forCall (fun _ _ => 0) ⟨#[], args, []⟩).memory args) :
  ∃ (w : World) (tape : Tape) (i : Input), w.os = os ∧ (w.forCall tape i).Shaped C.prog ∧ i.vars = [] ∧ Input.okWide C.prog (w.forCall tape i) .any w.heap.size f i ∧
   s.preRow enc C.prog fn conds apart laid (w.forCall tape i).memory i.args ∧ ({} : Assume).holds C.prog (lone (Frame.enter C.prog f i.args .normal) [] (w.forCall tape i)) :=
 ⟨w0, fun _ _ => 0, ⟨#[], args, []⟩, hos, World.shaped_of_ZipB hv hr, (Input.okWide_of_okWideB (base := 0) hok).1, (Input.okWide_of_okWideB hok).2, hrow, by
  simp only [Assume.holds]
  exact ⟨by simp, by simp, by simp, by simp, by simp⟩⟩
end Go.AM
namespace Go.AM
open Go.RowKit
structure GRule where
 left : Int
 right : List Int
 weight : Nat
structure Gram where
 terms : List ByteArray
 vars : List ByteArray
 rules : List GRule
def RR (H : Heap) (a : Option Addr) (l : List GRule) : Prop :=
 l ≠ [] → ∃ x k cs ty own, a = some ⟨x, k, none⟩ ∧ H x = .cells cs ty own ∧ ∀ i r, l[i]? = some r →
  ∃ p, cs[k + i * 3]? = some (.int .i64 r.left) ∧ cs[k + i * 3 + 1]? = some (.slice p r.right.length r.right.length) ∧ cs[k + i * 3 + 2]? = some (.float .f64 r.weight) ∧ RS (Value.int .i64) H p r.right
theorem RR.mono {n n' : Nat} {H H' : Heap} {a : Option Addr} {l : List GRule} (h : RR H a l) (hw : WF n H) (hk : Kp n H n' H') : RR H' a l := by
 intro hl
 obtain ⟨x, k, cs, ty, own, e1, e2, e3⟩ := h hl
 refine ⟨x, k, cs, ty, own, e1, ?_, fun i r hi => ?_⟩
 ·rw [hk.keep x, e2]
  apply Classical.byContradiction
  intro hx
  rw [hw x (by omega)] at e2; cases e2
 ·obtain ⟨p, c1, c2, c3, c4⟩ := e3 i r hi
  exact ⟨p, c1, c2, c3, c4.mono hw hk⟩
theorem RR.atS {H : Heap} {a : Option Addr} {l : List GRule} (h : RR H a l) {i : Nat} (hi : i < l.length) :
  ∃ x k cs ty own p, a = some ⟨x, k, none⟩ ∧ H x = .cells cs ty own ∧ cs[k + i * 3]? = some (.int .i64 l[i].left) ∧ cs[k + i * 3 + 1]? = some (.slice p l[i].right.length l[i].right.length) ∧
   cs[k + i * 3 + 2]? = some (.float .f64 l[i].weight) ∧ RS (Value.int .i64) H p l[i].right := by
 obtain ⟨x, k, cs, ty, own, e1, e2, e3⟩ := h (by intro e; simp [e] at hi)
 obtain ⟨p, c1, c2, c3, c4⟩ := e3 i _ (List.getElem?_eq_getElem hi)
 exact ⟨x, k, cs, ty, own, p, e1, e2, c1, c2, c3, c4⟩
theorem RR.at {H : Heap} {a : Option Addr} {l : List GRule} (h : RR H a l) {i : Nat} (hi : i < l.length) :
  ∃ x k cs ty own p, a = some ⟨x, k, none⟩ ∧ H x = .cells cs ty own ∧ cs[k + i * 3]? = some (.int .i64 l[i].left) ∧ cs[k + i * 3 + 1]? = some (.slice p l[i].right.length l[i].right.length) ∧
   cs[k + i * 3 + 2]? = some (.float .f64 l[i].weight) ∧ RA (Value.int .i64) H p l[i].right := by
 obtain ⟨x, k, cs, ty, own, p, e1, e2, c1, c2, c3, c4⟩ := h.atS hi
 exact ⟨x, k, cs, ty, own, p, e1, e2, c1, c2, c3, c4.ra⟩
theorem take3 {cs : List Value} {k : Nat} {a b c : Value} (h0 : cs[k]? = some a) (h1 : cs[k + 1]? = some b) (h2 : cs[k + 2]? = some c) : (cs.drop k).take 3 = [a, b, c] := by
 apply List.ext_getElem?
 intro i
 rw [List.getElem?_take, List.getElem?_drop]
 match i with
 | 0 => simpa using h0
 | 1 => simpa using h1
 | 2 => simpa using h2
 | i + 3 => simp; omega
theorem len3 {cs : List Value} {k : Nat} {c : Value} (h2 : cs[k + 2]? = some c) : k + 3 ≤ cs.length := by
 rcases Nat.lt_or_ge (k + 2) cs.length with h | h
 ·omega
 ·rw [List.getElem?_eq_none h] at h2; cases h2
def gcells (pt pv pr : Option Addr) (g : Gram) : List Value :=
 [.slice pt g.terms.length g.terms.length, .slice pv g.vars.length g.vars.length, .slice pr g.rules.length g.rules.length]
def RG (H : Heap) (v : Value) (g : Gram) : Prop :=
 ∃ pt pv pr, v = .agg (gcells pt pv pr g).toArray ∧ RA Value.string H pt g.terms ∧ RA Value.string H pv g.vars ∧ RR H pr g.rules
theorem RG.mono {n n' : Nat} {H H' : Heap} {v : Value} {g : Gram} (h : RG H v g) (hw : WF n H) (hk : Kp n H n' H') : RG H' v g := by
 obtain ⟨pt, pv, pr, e, h1, h2, h3⟩ := h
 exact ⟨pt, pv, pr, e, h1.mono hw hk, h2.mono hw hk, h3.mono hw hk⟩
def inI (n : Int) : Prop := -9223372036854775808 ≤ n ∧ n ≤ 9223372036854775807
def maxL : Nat := 9223372036854775807
structure WG (g : Gram) : Prop where
 terms : g.terms.length ≤ maxL
 vars : g.vars.length ≤ maxL
 rules : g.rules.length ≤ maxL
 left : ∀ r ∈ g.rules, inI r.left
 right : ∀ r ∈ g.rules, r.right.length ≤ maxL ∧ ∀ s ∈ r.right, inI s
 weight : ∀ r ∈ g.rules, r.weight < 2 ^ 64
 size : ∀ s ∈ g.terms ++ g.vars, s.size ≤ maxL
theorem box_cells (pt pv pr : Option Addr) (g : Gram) : vcells (.agg (gcells pt pv pr g).toArray) = gcells pt pv pr g := rfl
theorem box_one (pt pv pr : Option Addr) (g : Gram) : (gcells pt pv pr g).all one = true := rfl
theorem gc_0 (pt pv pr : Option Addr) (g : Gram) : (gcells pt pv pr g)[0]? = some (.slice pt g.terms.length g.terms.length) := rfl
theorem gc_1 (pt pv pr : Option Addr) (g : Gram) : (gcells pt pv pr g)[1]? = some (.slice pv g.vars.length g.vars.length) := rfl
theorem gc_2 (pt pv pr : Option Addr) (g : Gram) : (gcells pt pv pr g)[2]? = some (.slice pr g.rules.length g.rules.length) := rfl
theorem gc_len (pt pv pr : Option Addr) (g : Gram) : (gcells pt pv pr g).length = 3 := rfl
theorem gc_all (pt pv pr : Option Addr) (g : Gram) : ((gcells pt pv pr g).drop 0).take 3 = gcells pt pv pr g := rfl
end Go.AM
namespace Go.AM
open Go.RowKit
theorem pick_list {α : Type} {Q : Nat → α → Prop} : ∀ (m : Nat), (∀ i, i < m → ∃ y, Q i y) → ∃ l : List α, l.length = m ∧ ∀ i y, l[i]? = some y → Q i y := by
 intro m
 induction m with
 | zero => intro _; exact ⟨[], rfl, fun i y h => by simp at h⟩
 | succ m ih =>
  intro h
  obtain ⟨l, h1, h2⟩ := ih fun i hi => h i (by omega)
  obtain ⟨y, hy⟩ := h m (by omega)
  refine ⟨l ++ [y], by simp [h1], fun i z e => ?_⟩
  by_cases hi : i < l.length
  ·rw [List.getElem?_append_left hi] at e; exact h2 i z e
  ·rw [List.getElem?_append_right (by omega)] at e
   have : i - l.length = 0 := by
    apply Classical.byContradiction
    intro hc
    obtain ⟨q, hq⟩ : ∃ q, i - l.length = q + 1 := ⟨i - l.length - 1, by omega⟩
    rw [hq] at e; simp at e
   have e' : i = m := by omega
   rw [this] at e
   simp at e
   subst e
   rw [e']; exact hy
theorem at1 {cs : List Value} {i : Nat} {v : Value} (h : (cs.drop i).take 1 = [v]) : cs[i]? = some v := by
 have : ((cs.drop i).take 1)[0]? = some v := by rw [h]; rfl
 rw [List.getElem?_take, List.getElem?_drop] at this
 simpa using this
variable {P : Program} {H : Heap}
theorem AR.int_inv {t : TypeId} {cs : List Value} (h : AR P H t cs) (ht : P.underlying t = some (.int .i64)) : ∃ n, cs = [.int .i64 n] ∧ inI n := by
 cases h with
 | int t k n ht' hw =>
  rw [ht] at ht'; cases ht'
  refine ⟨n, rfl, ?_⟩
  simp [Lit.wf, IntKind.min, IntKind.max, IntKind.signed, IntKind.bits] at hw
  unfold inI
  omega
 | _ => simp_all
theorem AR.str_inv {t : TypeId} {cs : List Value} (h : AR P H t cs) (ht : P.underlying t = some .string) : ∃ s, cs = [.string s] ∧ s.size ≤ maxL := by
 cases h with
 | string t s ht' hs =>
  refine ⟨s, rfl, Nat.le_trans hs ?_⟩
  unfold maxL maxLen
  omega
 | _ => simp_all
theorem AR.float_inv {t : TypeId} {cs : List Value} (h : AR P H t cs) (ht : P.underlying t = some (.float .f64)) : ∃ b, cs = [.float .f64 b] ∧ b < 2 ^ 64 := by
 cases h with
 | float t k b ht' hw =>
  rw [ht] at ht'; cases ht'
  refine ⟨b, rfl, ?_⟩
  simpa [Lit.wf] using hw
 | _ => simp_all
theorem AR.slice_inv {t e : TypeId} {cs : List Value} (h : AR P H t cs) (ht : P.underlying t = some (.slice e)) : cs = [.slice none 0 0] ∨ ∃ x m ds, cs = [.slice (some ⟨x, 0, none⟩) m m] ∧ H x = .cells ds e false ∧ m ≤ maxL ∧ ∀ i, i < m → AR P H e ((ds.drop (i * P.cellsOf e)).take (P.cellsOf e)) := by
 cases h with
 | nil => exact .inl rfl
 | slice t e' x m ds ht' hx hl hm he =>
  rw [ht] at ht'; cases ht'
  refine .inr ⟨x, m, ds, rfl, hx, Nat.le_trans hm ?_, he⟩
  unfold maxL maxLen
  omega
 | _ => simp_all
theorem AR.list_inv {α : Type} {enc : α → Value} {good : α → Prop} {t e : TypeId} {cs : List Value} (h : AR P H t cs) (ht : P.underlying t = some (.slice e)) (hc : P.cellsOf e = 1) (hi : ∀ ds, AR P H e ds → ∃ y, ds = [enc y] ∧ good y) :
    ∃ p l, cs = [.slice p l.length l.length] ∧ RS enc H p l ∧ l.length ≤ maxL ∧ ∀ y ∈ l, good y := by
  rcases h.slice_inv ht with rfl | ⟨x, m, ds, rfl, hx, hm, he⟩
  · exact ⟨none, [], rfl, .inl ⟨rfl, rfl⟩, by simp, fun y hy => by cases hy⟩
  · obtain ⟨l, h1, h2⟩ := pick_list (Q := fun i y => ds[i]? = some (enc y) ∧ good y) m fun i hi' => by
      obtain ⟨y, e1, e2⟩ := hi _ (he i hi')
      rw [hc, Nat.mul_one] at e1
      exact ⟨y, at1 e1, e2⟩
    subst h1
    refine ⟨_, l, rfl, .inr ⟨x, 0, ds, e, false, rfl, hx, ?_, fun i y e => by rw [Nat.zero_add]; exact (h2 i y e).1⟩, hm, fun y hy => ?_⟩
    · rw [Nat.zero_add]
      apply Classical.byContradiction
      intro hc
      have hlt : ds.length < l.length := by omega
      have := (h2 ds.length _ (List.getElem?_eq_getElem hlt)).1
      rw [List.getElem?_eq_none (Nat.le_refl _)] at this
      cases this
    obtain ⟨i, hi', rfl⟩ := List.getElem_of_mem hy
    exact (h2 i _ (List.getElem?_eq_getElem hi')).2
theorem AR.ints {t e : TypeId} {cs : List Value} (h : AR P H t cs) (ht : P.underlying t = some (.slice e)) (hc : P.cellsOf e = 1) (he : P.underlying e = some (.int .i64)) :
  ∃ p l, cs = [.slice p l.length l.length] ∧ RS (Value.int .i64) H p l ∧ l.length ≤ maxL ∧ ∀ y ∈ l, inI y := h.list_inv ht hc fun _ hd => hd.int_inv he
theorem AR.strs {t e : TypeId} {cs : List Value} (h : AR P H t cs) (ht : P.underlying t = some (.slice e)) (hc : P.cellsOf e = 1) (he : P.underlying e = some .string) :
  ∃ p l, cs = [.slice p l.length l.length] ∧ RA Value.string H p l ∧ l.length ≤ maxL ∧ ∀ y ∈ l, y.size ≤ maxL := by
 obtain ⟨p, l, e, h1, h2⟩ := h.list_inv ht hc fun _ hd => hd.str_inv he
 exact ⟨p, l, e, h1.ra, h2⟩
structure GramT (P : Program) (tg tr ti tn tss trs tis tf : TypeId) : Prop where
 g : ∃ f1 f2 f3 : Field, P.underlying tg = some (.struct #[f1, f2, f3]) ∧ f1.type = tss ∧ f1.offset = 0 ∧ f2.type = tss ∧ f2.offset = 1 ∧ f3.type = trs ∧ f3.offset = 2
 r : ∃ f1 f2 f3 : Field, P.underlying tr = some (.struct #[f1, f2, f3]) ∧ f1.type = ti ∧ f1.offset = 0 ∧ f2.type = tis ∧ f2.offset = 1 ∧ f3.type = tf ∧ f3.offset = 2
 i : P.underlying ti = some (.int .i64)
 n : P.underlying tn = some .string
 ss : P.underlying tss = some (.slice tn)
 rs : P.underlying trs = some (.slice tr)
 is : P.underlying tis = some (.slice ti)
 f : P.underlying tf = some (.float .f64)
 ci : P.cellsOf ti = 1
 cn : P.cellsOf tn = 1
 css : P.cellsOf tss = 1
 crs : P.cellsOf trs = 1
 cis : P.cellsOf tis = 1
 cf : P.cellsOf tf = 1
 cr : P.cellsOf tr = 3
 cg : P.cellsOf tg = 3
theorem AR.struct_inv {t : TypeId} {fs : Array Field} {cs : List Value} (h : AR P H t cs) (ht : P.underlying t = some (.struct fs)) : cs.length = P.cellsOf t ∧ ∀ (i : Nat) (f : Field), fs[i]? = some f → AR P H f.type ((cs.drop f.offset).take (P.cellsOf f.type)) := by
 cases h with
 | struct t fs' cs ht' hl hf =>
  rw [ht] at ht'; cases ht'
  exact ⟨hl, hf⟩
 | _ => simp_all
section
variable {tg tr ti tn tss trs tis tf : TypeId}
theorem AR.rule (T : GramT P tg tr ti tn tss trs tis tf) {cs : List Value} (h : AR P H tr cs) : ∃ (r : GRule) (p : Option Addr), cs = [.int .i64 r.left, .slice p r.right.length r.right.length, .float .f64 r.weight] ∧ RS (Value.int .i64) H p r.right ∧ inI r.left ∧ r.right.length ≤ maxL ∧ (∀ s ∈ r.right, inI s) ∧ r.weight < 2 ^ 64 := by
 obtain ⟨f1, f2, f3, e, a1, b1, a2, b2, a3, b3⟩ := T.r
 obtain ⟨hl, hf⟩ := h.struct_inv e
 rw [T.cr] at hl
 match cs, hl with
 | [x, y, z], _ =>
  have h1 := hf 0 f1 rfl
  have h2 := hf 1 f2 rfl
  have h3 := hf 2 f3 rfl
  rw [a1, b1, T.ci] at h1
  rw [a2, b2, T.cis] at h2
  rw [a3, b3, T.cf] at h3
  obtain ⟨n, e1, hn⟩ := h1.int_inv T.i
  obtain ⟨p, l, e2, hp, hl, hs⟩ := h2.ints T.is T.ci T.i
  obtain ⟨w, e3, hw⟩ := h3.float_inv T.f
  simp at e1 e2 e3
  subst e1 e2 e3
  exact ⟨⟨n, l, w⟩, p, rfl, hp, hn, hl, hs, hw⟩
theorem AR.rules (T : GramT P tg tr ti tn tss trs tis tf) {cs : List Value} (h : AR P H trs cs) : ∃ p l, cs = [.slice p l.length l.length] ∧ RR H p l ∧ l.length ≤ maxL ∧ ∀ r ∈ l, inI r.left ∧ (r.right.length ≤ maxL ∧ ∀ s ∈ r.right, inI s) ∧ r.weight < 2 ^ 64 := by
  rcases h.slice_inv T.rs with rfl | ⟨x, m, ds, rfl, hx, hm, he⟩
  · exact ⟨none, [], rfl, fun h => absurd rfl h, by simp, fun y hy => by cases hy⟩
  · obtain ⟨l, h1, h2⟩ := pick_list (Q := fun i (r : GRule) => (∃ p, ds[i * 3]? = some (.int .i64 r.left) ∧ ds[i * 3 + 1]? = some (.slice p r.right.length r.right.length) ∧ ds[i * 3 + 2]? = some (.float .f64 r.weight) ∧ RS (Value.int .i64) H p r.right) ∧ inI r.left ∧ (r.right.length ≤ maxL ∧ ∀ s ∈ r.right, inI s) ∧ r.weight < 2 ^ 64) m fun i hi' => by
      have h := he i hi'
      rw [T.cr] at h
      obtain ⟨r, p, e, hp, q1, q2, q3, q4⟩ := AR.rule T h
      have g : ∀ j, j < 3 → ds[i * 3 + j]? = ((ds.drop (i * 3)).take 3)[j]? := fun j hj => by rw [List.getElem?_take, if_pos hj, List.getElem?_drop]
      refine ⟨r, ⟨p, ?_, ?_, ?_, hp⟩, q1, ⟨q2, q3⟩, q4⟩
      · have := g 0 (by omega); rw [e] at this; simpa using this
      · have := g 1 (by omega); rw [e] at this; simpa using this
      · have := g 2 (by omega); rw [e] at this; simpa using this
    subst h1
    refine ⟨_, l, rfl, fun _ => ⟨x, 0, ds, tr, false, rfl, hx, fun i r e => ?_⟩, hm, fun r hr => ?_⟩
    · obtain ⟨⟨p, c0, c1, c2, c3⟩, _⟩ := h2 i r e
      exact ⟨p, by rw [Nat.zero_add]; exact c0, by rw [Nat.zero_add]; exact c1, by rw [Nat.zero_add]; exact c2, c3⟩
    · obtain ⟨i, hi', rfl⟩ := List.getElem_of_mem hr
      exact (h2 i _ (List.getElem?_eq_getElem hi')).2
theorem ARV.gram (T : GramT P tg tr ti tn tss trs tis tf) {v : Value} (ha : aggT P tg = some true) (h : ARV P H tg v) : ∃ g, RG H v g ∧ WG g := by
 obtain ⟨h1, h2, _⟩ := h
 obtain ⟨cs, rfl⟩ := h2 ha
 obtain ⟨f1, f2, f3, e, a1, b1, a2, b2, a3, b3⟩ := T.g
 have hvc : vcells (.agg cs) = cs.toList := rfl
 rw [hvc] at h1
 obtain ⟨hl, hf⟩ := h1.struct_inv e
 rw [T.cg] at hl
 obtain ⟨cs⟩ := cs
 simp only at hl hf
 match cs, hl with
 | [x, y, z], _ =>
  have h1 := hf 0 f1 rfl
  have h2 := hf 1 f2 rfl
  have h3 := hf 2 f3 rfl
  rw [a1, b1, T.css] at h1
  rw [a2, b2, T.css] at h2
  rw [a3, b3, T.crs] at h3
  obtain ⟨pt, lt, e1, ht, ht1, ht2⟩ := h1.strs T.ss T.cn T.n
  obtain ⟨pv, lv, e2, hv, hv1, hv2⟩ := h2.strs T.ss T.cn T.n
  obtain ⟨pr, lr, e3, hr, hr1, hr2⟩ := AR.rules T h3
  simp at e1 e2 e3
  subst e1 e2 e3
  refine ⟨⟨lt, lv, lr⟩, ⟨pt, pv, pr, rfl, ht, hv, hr⟩, ht1, hv1, hr1, fun r h => (hr2 r h).1, fun r h => (hr2 r h).2.1, fun r h => (hr2 r h).2.2, fun s hs => ?_⟩
  rcases List.mem_append.1 hs with hs | hs
  ·exact ht2 s hs
  ·exact hv2 s hs
end
theorem vcells_one {v : Value} (h : one v = true) : vcells v = [v] := by cases v <;> first | rfl | (simp [one] at h)
theorem ARV.intI {v : Value} {t : TypeId} (ht : P.underlying t = some (.int .i64)) (ha : aggT P t = some false) (h : ARV P H t v) : ∃ n, v = .int .i64 n ∧ inI n := by
 obtain ⟨h1, _, h3⟩ := h
 obtain ⟨n, e, hn⟩ := h1.int_inv ht
 refine ⟨n, ?_, hn⟩
 have ho := h3 ha
 rw [vcells_one ho] at e
 simpa using e
end Go.AM
namespace Go.AM
open Ieee
def Low (K : Int) (m : Nat) (e : Int) : Prop := m = 0 ∨ e + (m.log2 : Int) ≤ K
theorem Low.mono {K L : Int} {m : Nat} {e : Int} (h : Low K m e) (hl : K ≤ L) : Low L m e := by
 rcases h with h | h
 ·exact .inl h
 ·exact .inr (by omega)
theorem cut_even_le (neg : Bool) (n drop B : Nat) (h : n < B * 2 ^ drop) (hB : 0 < B) : Toward.cut .even neg n drop ≤ B := by
 unfold Toward.cut
 simp only
 have key : n / 1 <<< min drop (n.log2 + 2) < B := by
  rw [Nat.shiftLeft_eq, Nat.one_mul]
  rcases Nat.le_total drop (n.log2 + 2) with hd | hd
  ·rw [Nat.min_eq_left hd]
   exact (Nat.div_lt_iff_lt_mul (Nat.two_pow_pos _)).2 h
  ·rw [Nat.min_eq_right hd]
   have : n < 2 ^ (n.log2 + 2) := Nat.lt_of_lt_of_le Nat.lt_log2_self (Nat.pow_le_pow_right (by omega) (by omega))
   rw [Nat.div_eq_of_lt this]; exact hB
 have h1 : ∀ b : Bool, b.toNat ≤ 1 := fun b => by cases b <;> simp
 exact Nat.le_trans (Nat.add_le_add_left (h1 _) _) key
theorem low_write {K : Int} {s : Bool} {m : Nat} {e : Int} (h : Low K m e) (h0 : 0 ≤ K) (h1 : K ≤ 900) :
  ∃ m' e', Format.read double (Format.write double (.number s m e)) = .number s m' e' ∧ Low (K + 1) m' e' := by
 have rd : ∀ R : Nat, R ≤ (K + 1024).toNat * 2 ^ 52 → ∃ m' e', Format.read double (Format.word double s R) = .number s m' e' ∧ Low (K + 1) m' e' := by
  intro R hR
  have hK : (K + 1024).toNat ≤ 1924 := by omega
  have hR2 : R ≤ 1924 * 2 ^ 52 := Nat.le_trans hR (Nat.mul_le_mul_right _ hK)
  have hsw : Format.signWeight double = 2 ^ 63 := rfl
  have hbin : Format.binade double = 2 ^ 52 := rfl
  have hinf : Format.infRung double = 2047 * 2 ^ 52 := rfl
  have hlp : Format.leastPlace double = -1074 := rfl
  have hneg : (Format.word double s R / 2 ^ 63 % 2 == 1) = s := by
   unfold Format.word; rw [hsw]
   cases s
   ·simp only [Bool.false_eq_true, if_false]; rw [Nat.div_eq_of_lt (by omega)]; rfl
   ·simp only [if_true]; rw [show (2 ^ 63 + R) / 2 ^ 63 = 1 by omega]; rfl
  have hrung : Format.word double s R % 2 ^ 63 = R := by
   unfold Format.word; rw [hsw]
   cases s
   ·simp only [Bool.false_eq_true, if_false]; omega
   ·simp only [if_true]; omega
  unfold Format.read
  simp only [hsw, hbin, hinf, hlp, hneg, hrung]
  split
  ·rename_i hlt
   refine ⟨_, _, rfl, ?_⟩
   rcases Nat.eq_zero_or_pos R with e | e
   ·exact .inl e
   ·right
    have : R.log2 < 52 := (Nat.log2_lt (by omega)).2 hlt
    omega
  ·rename_i hge
   rw [if_pos (by omega)]
   refine ⟨_, _, rfl, .inr ?_⟩
   have hm : R % 2 ^ 52 < 2 ^ 52 := Nat.mod_lt _ (Nat.two_pow_pos _)
   have hl : (2 ^ 52 + R % 2 ^ 52).log2 < 53 := (Nat.log2_lt (by omega)).2 (by omega)
   have hq : R / 2 ^ 52 ≤ (K + 1024).toNat := by
    have := Nat.div_le_div_right (c := 2 ^ 52) hR
    rwa [Nat.mul_div_cancel _ (Nat.two_pow_pos _)] at this
   have hq1 : 1 ≤ R / 2 ^ 52 := by omega
   omega
 unfold Format.write Format.nearest
 simp only
 split
 ·exact rd 0 (Nat.zero_le _)
 rename_i hm
 have hL : e + (m.log2 : Int) ≤ K := by rcases h with h | h; exact absurd h hm; exact h
 have hlp : Format.leastPlace double = -1074 := rfl
 have hfb : ((Format.fractionBits double : Nat) : Int) = 52 := rfl
 have hbin : Format.binade double = 2 ^ 52 := rfl
 have hinf : Format.infRung double = 2047 * 2 ^ 52 := rfl
 rw [hlp, hfb, hbin, hinf]
 generalize hlast : max (e + (m.log2 : Int) - 52) (-1074) = last
 have hl1 : e + (m.log2 : Int) - 52 ≤ last := by omega
 have hl2 : last ≤ K - 52 ∨ last = -1074 := by omega
 have hl3 : -1074 ≤ last := by omega
 have hkept : Toward.cut .even s (m <<< (e - last).toNat) (last - e).toNat ≤ 2 ^ 53 := by
  refine cut_even_le _ _ _ _ ?_ (Nat.two_pow_pos _)
  rw [Nat.shiftLeft_eq, ← Nat.pow_add]
  have h2 : m < 2 ^ (m.log2 + 1) := Nat.lt_log2_self
  calc m * 2 ^ (e - last).toNat < 2 ^ (m.log2 + 1) * 2 ^ (e - last).toNat := Nat.mul_lt_mul_of_pos_right h2 (Nat.two_pow_pos _)
   _ = 2 ^ (m.log2 + 1 + (e - last).toNat) := by rw [← Nat.pow_add]
   _ ≤ 2 ^ (53 + (last - e).toNat) := Nat.pow_le_pow_right (by omega) (by omega)
 refine rd _ (Nat.le_trans (Nat.min_le_left _ _) ?_)
 have hpl : (last - -1074).toNat ≤ (K + 1022).toNat := by omega
 calc (last - -1074).toNat * 2 ^ 52 + Toward.cut .even s (m <<< (e - last).toNat) (last - e).toNat ≤ (K + 1022).toNat * 2 ^ 52 + 2 ^ 53 := Nat.add_le_add (Nat.mul_le_mul_right _ hpl) hkept
  _ = ((K + 1022).toNat + 2) * 2 ^ 52 := by rw [Nat.add_mul]
  _ ≤ (K + 1024).toNat * 2 ^ 52 := Nat.mul_le_mul_right _ (by omega)
theorem log2_mul_le {m n : Nat} (hm : m ≠ 0) (hn : n ≠ 0) : (m * n).log2 ≤ m.log2 + n.log2 + 1 := by
 have h1 : m < 2 ^ (m.log2 + 1) := Nat.lt_log2_self
 have h2 : n < 2 ^ (n.log2 + 1) := Nat.lt_log2_self
 have : m * n < 2 ^ (m.log2 + n.log2 + 2) := by
  calc m * n < 2 ^ (m.log2 + 1) * 2 ^ (n.log2 + 1) := Nat.mul_lt_mul'' h1 h2
   _ = 2 ^ (m.log2 + n.log2 + 2) := by rw [← Nat.pow_add]; congr 1; omega
 have := (Nat.log2_lt (Nat.mul_ne_zero hm hn)).2 this
 omega
theorem low_mul {K L : Int} {x y : Nat} {s t : Bool} {m n : Nat} {e j : Int} (hx : Format.read double x = .number s m e) (hy : Format.read double y = .number t n j) (h1 : Low K m e) (h2 : Low L n j) (h0 : 0 ≤ K + L + 1) (h9 : K + L + 1 ≤ 900) :
  ∃ r m' e', Format.mul double x y = some r ∧ Format.read double r = .number (s ^^ t) m' e' ∧ Low (K + L + 2) m' e' := by
 have hl : Low (K + L + 1) (m * n) (e + j) := by
  rcases Nat.eq_zero_or_pos m with hm | hm
  ·exact .inl (by simp [hm])
  rcases Nat.eq_zero_or_pos n with hn | hn
  ·exact .inl (by simp [hn])
  right
  have a : e + (m.log2 : Int) ≤ K := by rcases h1 with h | h; omega; exact h
  have b : j + (n.log2 : Int) ≤ L := by rcases h2 with h | h; omega; exact h
  have := log2_mul_le (m := m) (n := n) (by omega) (by omega)
  omega
 obtain ⟨m', e', h3, h4⟩ := low_write (s := s ^^ t) hl h0 h9
 exact ⟨_, m', e', by unfold Format.mul; rw [hx, hy]; rfl, h3, h4.mono (by omega)⟩
theorem signed_abs (s : Bool) (m up : Nat) : (signed s m up).natAbs = m * 2 ^ up := by
 unfold signed
 rw [Nat.shiftLeft_eq]
 cases s <;> simp [Int.natAbs_mul, Int.natAbs_pow]
theorem low_add {K : Int} {x y : Nat} {s t : Bool} {m n : Nat} {e j : Int} (hx : Format.read double x = .number s m e) (hy : Format.read double y = .number t n j) (h1 : Low K m e) (h2 : Low K n j) (h0 : 0 ≤ K) (h9 : K ≤ 899) :
  ∃ r s' m' e', Format.add double x y = some r ∧ Format.read double r = .number s' m' e' ∧ Low (K + 2) m' e' := by
 have part : ∀ (m : Nat) (e base : Int), Low K m e → base ≤ e → m * 2 ^ (e - base).toNat < 2 ^ (K + 1 - base).toNat ∨ m = 0 := by
  intro m e base h hb
  rcases Nat.eq_zero_or_pos m with hm | hm
  ·exact .inr hm
  left
  have a : e + (m.log2 : Int) ≤ K := by rcases h with h | h; omega; exact h
  have h2 : m < 2 ^ (m.log2 + 1) := Nat.lt_log2_self
  calc m * 2 ^ (e - base).toNat < 2 ^ (m.log2 + 1) * 2 ^ (e - base).toNat := Nat.mul_lt_mul_of_pos_right h2 (Nat.two_pow_pos _)
   _ = 2 ^ (m.log2 + 1 + (e - base).toNat) := by rw [← Nat.pow_add]
   _ ≤ 2 ^ (K + 1 - base).toNat := Nat.pow_le_pow_right (by omega) (by omega)
 generalize hb : min e j = base
 have hl : Low (K + 1) (signed s m (e - base).toNat + signed t n (j - base).toNat).natAbs base := by
  rcases Nat.eq_zero_or_pos (signed s m (e - base).toNat + signed t n (j - base).toNat).natAbs with h | h
  ·exact .inl h
  right
  have tri := Int.natAbs_add_le (signed s m (e - base).toNat) (signed t n (j - base).toNat)
  rw [signed_abs, signed_abs] at tri
  have hbound : (signed s m (e - base).toNat + signed t n (j - base).toNat).natAbs < 2 ^ ((K + 1 - base).toNat + 1) := by
   rw [Nat.pow_succ]
   have p1 := part m e base h1 (by omega)
   have p2 := part n j base h2 (by omega)
   have pos := Nat.two_pow_pos (K + 1 - base).toNat
   rcases p1 with p1 | p1 <;> rcases p2 with p2 | p2
   ·omega
   ·subst p2; simp only [Nat.zero_mul] at tri; omega
   ·subst p1; simp only [Nat.zero_mul] at tri; omega
   ·subst p1; subst p2; simp only [Nat.zero_mul] at tri; omega
  have := (Nat.log2_lt (by omega)).2 hbound
  have hK : 0 ≤ K + 1 - base := by
   apply Classical.byContradiction
   intro hc
   have p1 := part m e base h1 (by omega)
   have p2 := part n j base h2 (by omega)
   rw [show (K + 1 - base).toNat = 0 by omega] at p1 p2
   have q1 : m = 0 := by
    rcases p1 with p1 | p1
    ·have := Nat.two_pow_pos (e - base).toNat
     rcases Nat.eq_zero_or_pos m with h | h
     ·exact h
     ·have := Nat.mul_pos h this; omega
    ·exact p1
   have q2 : n = 0 := by
    rcases p2 with p2 | p2
    ·have := Nat.two_pow_pos (j - base).toNat
     rcases Nat.eq_zero_or_pos n with h | h
     ·exact h
     ·have := Nat.mul_pos h this; omega
    ·exact p2
   subst q1; subst q2; simp only [Nat.zero_mul] at tri; omega
  omega
 obtain ⟨m', e', h3, h4⟩ := low_write (s := if signed s m (e - base).toNat + signed t n (j - base).toNat = 0 then s && t else decide (signed s m (e - base).toNat + signed t n (j - base).toNat < 0)) hl (by omega) (by omega)
 refine ⟨_, _, m', e', ?_, h3, h4.mono (by omega)⟩
 unfold Format.add
 rw [hx, hy]
 simp only [Datum.sum, hb, Option.map_some]
theorem low_int {K : Int} {s : Bool} {m : Nat} {e : Int} (h : Low K m e) (h0 : 0 ≤ K) : ∃ z, Datum.toInt .zero (.number s m e) = some z ∧ z.natAbs < 2 ^ (K + 1).toNat := by
 refine ⟨_, rfl, ?_⟩
 rw [signed_abs, Nat.pow_zero, Nat.mul_one]
 unfold Toward.cut
 simp only [Bool.toNat_false, Nat.add_zero]
 have hn : m <<< e.toNat < 2 ^ (K + 1).toNat * 2 ^ (-e).toNat := by
  rw [Nat.shiftLeft_eq]
  rcases Nat.eq_zero_or_pos m with hm | hm
  ·subst hm; rw [Nat.zero_mul]; exact Nat.mul_pos (Nat.two_pow_pos _) (Nat.two_pow_pos _)
  have a : e + (m.log2 : Int) ≤ K := by rcases h with h | h; omega; exact h
  have h2 : m < 2 ^ (m.log2 + 1) := Nat.lt_log2_self
  calc m * 2 ^ e.toNat < 2 ^ (m.log2 + 1) * 2 ^ e.toNat := Nat.mul_lt_mul_of_pos_right h2 (Nat.two_pow_pos _)
   _ = 2 ^ (m.log2 + 1 + e.toNat) := by rw [← Nat.pow_add]
   _ ≤ 2 ^ ((K + 1).toNat + (-e).toNat) := Nat.pow_le_pow_right (by omega) (by omega)
   _ = _ := by rw [Nat.pow_add]
 generalize m <<< e.toNat = n at *
 rw [Nat.shiftLeft_eq, Nat.one_mul]
 rcases Nat.le_total (-e).toNat (n.log2 + 2) with hd | hd
 ·rw [Nat.min_eq_left hd]
  exact (Nat.div_lt_iff_lt_mul (Nat.two_pow_pos _)).2 hn
 ·rw [Nat.min_eq_right hd]
  have : n < 2 ^ (n.log2 + 2) := Nat.lt_of_lt_of_le Nat.lt_log2_self (Nat.pow_le_pow_right (by omega) (by omega))
  rw [Nat.div_eq_of_lt this]; exact Nat.two_pow_pos _
theorem low_order {x y : Nat} {m n : Nat} {e j : Int} (hx : Format.read double x = .number false m e) (hy : Format.read double y = .number false n j) (h : Format.order double x y = some .lt) : Low (j + (n.log2 : Int)) m e := by
 unfold Format.order at h
 rw [hx, hy] at h
 simp only [Datum.order, signed, Bool.false_eq_true, if_false, Option.some.injEq] at h
 rcases Nat.eq_zero_or_pos m with hm | hm
 ·exact .inl hm
 right
 generalize hb : min e j = base at h
 rw [Nat.shiftLeft_eq, Nat.shiftLeft_eq] at h
 have hlt : m * 2 ^ (e - base).toNat < n * 2 ^ (j - base).toNat := by
  have hi : ((m * 2 ^ (e - base).toNat : Nat) : Int) < ((n * 2 ^ (j - base).toNat : Nat) : Int) := by
   apply Classical.byContradiction
   intro hc
   simp only [compare, compareOfLessAndEq, if_neg hc] at h
   split at h <;> cases h
  omega
 have h1 : 2 ^ m.log2 ≤ m := Nat.log2_self_le (by omega)
 have h2 : n < 2 ^ (n.log2 + 1) := Nat.lt_log2_self
 have h3 : 2 ^ (m.log2 + (e - base).toNat) < 2 ^ (n.log2 + 1 + (j - base).toNat) := by
  calc 2 ^ (m.log2 + (e - base).toNat) = 2 ^ m.log2 * 2 ^ (e - base).toNat := by rw [Nat.pow_add]
   _ ≤ m * 2 ^ (e - base).toNat := Nat.mul_le_mul_right _ h1
   _ < n * 2 ^ (j - base).toNat := hlt
   _ ≤ 2 ^ (n.log2 + 1) * 2 ^ (j - base).toNat := Nat.mul_le_mul_right _ (Nat.le_of_lt h2)
   _ = 2 ^ (n.log2 + 1 + (j - base).toNat) := (Nat.pow_add 2 (n.log2 + 1) (j - base).toNat).symm
 have h4 := (Nat.pow_lt_pow_iff_right (a := 2) (by omega)).1 h3
 omega
theorem read_e9 : Format.read double 4741671816366391296 = .number false 8388608000000000 (-23) := by decide
theorem read_e6 : Format.read double 4696837146684686336 = .number false 8589934592000000 (-33) := by decide
theorem read_half : Format.read double 4602678819172646912 = .number false 4503599627370496 (-53) := by decide
theorem read_zero : Format.read double 0 = .number false 0 (-1074) := by decide
theorem read_neg {b : Nat} (hb : b < 2 ^ 64) : Format.read double (b ^^^ 2 ^ 63) = (Format.read double b).opposite := by
 have h1 : (b ^^^ 2 ^ 63) % 2 ^ 63 = b % 2 ^ 63 := by rw [Nat.xor_mod_two_pow]; simp
 have h2 : (b ^^^ 2 ^ 63) / 2 ^ 63 = (b / 2 ^ 63) ^^^ 1 := by rw [Nat.xor_div_two_pow]
 have hsw : Format.signWeight double = 2 ^ 63 := rfl
 have hneg : ((b ^^^ 2 ^ 63) / 2 ^ 63 % 2 == 1) = !(b / 2 ^ 63 % 2 == 1) := by
  rw [h2]
  have hq : b / 2 ^ 63 = 0 ∨ b / 2 ^ 63 = 1 := by omega
  rcases hq with hq | hq <;> rw [hq] <;> rfl
 unfold Format.read
 simp only [hsw, h1, hneg]
 split
 ·rfl
 ·split
  ·rfl
  ·split <;> rfl
theorem told_ok {a : Nat} (h : Format.order double a 4741671816366391296 = some .lt) (hs : ∀ m e, Format.read double a = .number true m e → m = 0) (hi : Format.read double a ≠ .infinity true) :
  ∃ r1 r2 z, Format.mul double a 4696837146684686336 = some r1 ∧ Format.add double r1 4602678819172646912 = some r2 ∧ (Format.read double r2).toInt .zero = some z ∧ z.natAbs < 2 ^ 60 := by
 have key : ∃ s m e, Format.read double a = .number s m e ∧ Low 29 m e := by
  cases hr : Format.read double a with
  | nan s t => unfold Format.order at h; rw [hr] at h; simp [Datum.order] at h
  | infinity s =>
   unfold Format.order at h
   rw [hr, read_e9] at h
   cases s
   ·simp [Datum.order] at h
   ·exact absurd hr hi
  | number s m e =>
   refine ⟨s, m, e, rfl, ?_⟩
   cases s with
   | true => exact .inl (hs m e hr)
   | false =>
    have := low_order hr read_e9 h
    exact this.mono (by decide)
 obtain ⟨s, m, e, h1, h2⟩ := key
 obtain ⟨r1, m1, e1, a1, a2, a3⟩ := low_mul h1 read_e6 h2 (L := 20) (.inr (by decide)) (by omega) (by omega)
 obtain ⟨r2, s2, m2, e2, b1, b2, b3⟩ := low_add a2 read_half (a3.mono (by omega : _ ≤ (52 : Int))) (.inr (by decide)) (by omega) (by omega)
 obtain ⟨z, c1, c2⟩ := low_int (s := s2) b3 (by omega)
 refine ⟨r1, r2, z, a1, b1, by rw [b2]; exact c1, Nat.lt_of_lt_of_le c2 (Nat.pow_le_pow_right (by omega) (by omega))⟩
theorem div_ok (k : Int) (hk : k.natAbs < 2 ^ 64) : ∃ q, Format.div double (FloatKind.nearest .f64 k) 4696837146684686336 = some q := by
 have hl : Low 64 k.natAbs 0 := by
  rcases Nat.eq_zero_or_pos k.natAbs with h | h
  ·exact .inl h
  ·have := (Nat.log2_lt (by omega)).2 hk
   exact .inr (by omega)
 obtain ⟨m, e, h1, h2⟩ := low_write (s := decide (k < 0)) hl (by omega) (by omega)
 have hd : ∃ d, Datum.quotient (double.fractionBits + 2) (Format.read double (Format.write double (.number (decide (k < 0)) k.natAbs 0))) (Format.read double 4696837146684686336) = some d := by
  rw [h1, read_e6]
  exact ⟨_, rfl⟩
 obtain ⟨d, hd⟩ := hd
 refine ⟨Format.write double d, ?_⟩
 show (Datum.quotient (double.fractionBits + 2) (Format.read double (Format.write double (.number (decide (k < 0)) k.natAbs 0))) (Format.read double 4696837146684686336)).map _ = _
 rw [hd]; rfl
theorem pos_ok {b : Nat} (h : Format.order double b 0 ≠ some .lt) : (∀ m e, Format.read double b = .number true m e → m = 0) ∧ Format.read double b ≠ .infinity true := by
 unfold Format.order at h
 rw [read_zero] at h
 constructor
 ·intro m e hr
  rw [hr] at h
  apply Classical.byContradiction
  intro hm
  apply h
  simp only [Datum.order, signed, Option.some.injEq]
  simp only [if_true, Bool.false_eq_true, if_false, Nat.zero_shiftLeft, Nat.shiftLeft_eq]
  have hp : 0 < m * 2 ^ (e - min e (-1074)).toNat := Nat.mul_pos (by omega) (Nat.two_pow_pos _)
  simp only [compare, compareOfLessAndEq]
  rw [if_pos (by omega)]
 ·intro hr
  rw [hr] at h
  exact h rfl
theorem neg_ok {b : Nat} (hb : b < 2 ^ 64) (h : Format.order double b 0 = some .lt) (h9 : Format.order double (b ^^^ 2 ^ 63) 4741671816366391296 = some .lt) :
  (∀ m e, Format.read double (b ^^^ 2 ^ 63) = .number true m e → m = 0) ∧ Format.read double (b ^^^ 2 ^ 63) ≠ .infinity true := by
 have hn := read_neg hb
 unfold Format.order at h
 rw [read_zero] at h
 constructor
 ·intro m e hr
  rw [hn] at hr
  cases hrb : Format.read double b with
  | nan s t => rw [hrb] at hr; cases hr
  | infinity s => rw [hrb] at hr; cases hr
  | number s m' e' =>
   rw [hrb] at hr h
   simp only [Datum.opposite, Datum.number.injEq, Bool.not_eq_true'] at hr
   obtain ⟨rfl, rfl, rfl⟩ := hr
   exfalso
   simp only [Datum.order, signed, Bool.false_eq_true, if_false, Option.some.injEq, Nat.zero_shiftLeft] at h
   generalize m' <<< (e' - min e' (-1074)).toNat = q at h
   simp only [compare, compareOfLessAndEq] at h
   rw [if_neg (by omega)] at h
   split at h <;> cases h
 ·intro hr
  rw [hn] at hr
  cases hrb : Format.read double b with
  | nan s t => rw [hrb] at hr; cases hr
  | number s m' e' => rw [hrb] at hr; cases hr
  | infinity s =>
   rw [hrb] at hr h
   cases s
   ·cases h
   ·cases hr
end Go.AM
namespace Go.AM
open Go.RowKit
variable {α : Type}
def sl (y : Nat) : Nat → Value
 | 0 => .slice none 0 0
 | m + 1 => .slice (some ⟨y, 0, none⟩) (m + 1 : Nat) (m + 1 : Nat)
def llcells (ys : Nat → Nat) (ls : List (List α)) : List Value := ls.mapIdx fun v l => sl (ys v) l.length
structure LL (m : Nat) (H : Heap) (x ty ety : Nat) (enc : α → List Value) (ls : List (List α)) (ys : Nat → Nat) : Prop where
 hx : H x = .cells (llcells ys ls) ty true
 hy : ∀ v (h : v < ls.length), ls[v] ≠ [] → H (ys v) = .cells (ls[v].flatMap enc) ety true
 inj : ∀ u v (hu : u < ls.length) (hv : v < ls.length), ls[u] ≠ [] → ls[v] ≠ [] → ys u = ys v → u = v
 fy : ∀ v (h : v < ls.length), ls[v] ≠ [] → m ≤ ys v
 ne : ∀ v (h : v < ls.length), ls[v] ≠ [] → ys v ≠ x
section
variable {m n n' x ty ety : Nat} {H H' : Heap} {enc : α → List Value} {ls : List (List α)} {ys : Nat → Nat}
theorem live_lt (hw : WF n H) {z : Nat} (h : H z ≠ .dead) : z < n := by
 apply Classical.byContradiction
 intro hc
 exact h (hw z (by omega))
theorem live_of {z : Nat} {cs : List Value} {t : TypeId} {own : Bool} (h : H z = .cells cs t own) : H z ≠ .dead := by rw [h]; intro e; cases e
end
end Go.AM
namespace Go.AM
inductive Nul (g : Gram) : Int → Prop
 | mk (i : Nat) (h : i < g.rules.length) (h0 : ∀ s ∈ g.rules[i].right, 0 ≤ s) (h1 : ∀ s ∈ g.rules[i].right, Nul g s) : Nul g g.rules[i].left
inductive Prd (g : Gram) : Int → Prop
 | mk (i : Nat) (h : i < g.rules.length) (h1 : ∀ s ∈ g.rules[i].right, 0 ≤ s → Prd g s) : Prd g g.rules[i].left
inductive Der (rb : GRule → List Bool → Bool) (rules : List GRule) (hs : List Bool) : List Bool → Prop
 | refl : Der rb rules hs hs
 | step {h1 : List Bool} (d : Der rb rules hs h1) (r : GRule) (hr : r ∈ rules) (hb : rb r h1 = true) : Der rb rules hs (h1.set r.left.toNat true)
def nulB (right : List Int) (hs : List Bool) : Bool := right.all fun s => decide (0 ≤ s) && hs.getD s.toNat false
def prdB (right : List Int) (hs : List Bool) : Bool := right.all fun s => decide (s < 0) || hs.getD s.toNat false
structure InG (g : Gram) : Prop where
 left0 : ∀ r ∈ g.rules, 0 ≤ r.left
 left1 : ∀ r ∈ g.rules, r.left < g.vars.length
 right : ∀ r ∈ g.rules, ∀ s ∈ r.right, s < g.vars.length
 rightT : ∀ r ∈ g.rules, ∀ s ∈ r.right, s < 0 → -s - 1 < g.terms.length
def hold (hs : List Bool) (v : Int) : Prop := 0 ≤ v ∧ hs.getD v.toNat false = true
theorem hold_set {hs : List Bool} {w v : Int} (hw : 0 ≤ w) (h : hold (hs.set w.toNat true) v) : hold hs v ∨ v = w := by
 obtain ⟨h0, h⟩ := h
 rw [List.getD_eq_getElem?_getD, List.getElem?_set] at h
 by_cases e : w.toNat = v.toNat
 ·exact .inr (by omega)
 ·rw [if_neg e] at h
  exact .inl ⟨h0, by rwa [List.getD_eq_getElem?_getD]⟩
theorem nulB_hold {right : List Int} {hs : List Bool} : nulB right hs = true ↔ ∀ s ∈ right, hold hs s := by
 unfold nulB hold
 rw [List.all_eq_true]
 simp
theorem prdB_hold {right : List Int} {hs : List Bool} : prdB right hs = true ↔ ∀ s ∈ right, 0 ≤ s → hold hs s := by
 unfold prdB hold
 rw [List.all_eq_true]
 constructor
 ·intro h s hs h0
  have := h s hs
  simp at this
  exact ⟨h0, by rcases this with h | h; omega; simpa using h⟩
 ·intro h s hs
  rcases Int.lt_or_le s 0 with h0 | h0
  ·simp [h0]
  ·have := (h s hs h0).2
   simp at this
   simp [this]
theorem der_nul {g : Gram} (hg : InG g) {n : Nat} {hs : List Bool} (d : Der (fun r => nulB r.right) g.rules (List.replicate n false) hs) : ∀ v, hold hs v → Nul g v := by
 induction d with
 | refl =>
  intro v h
  exfalso
  have := h.2
  rw [List.getD_eq_getElem?_getD, List.getElem?_replicate] at this
  split at this <;> simp at this
 | step d r hr hb ih =>
  intro v h
  rcases hold_set (hg.left0 r hr) h with h | rfl
  ·exact ih v h
  ·obtain ⟨i, hi, rfl⟩ := List.getElem_of_mem hr
   exact .mk i hi (fun s hs => ((nulB_hold.1 hb) s hs).1) (fun s hs => ih s ((nulB_hold.1 hb) s hs))
theorem closed_nul {g : Gram} (hg : InG g) {hs : List Bool} (hc : ∀ r ∈ g.rules, hs.getD r.left.toNat false = true ∨ nulB r.right hs = false) : ∀ v, Nul g v → hold hs v := by
 intro v h
 induction h with
 | mk i h h0 h1 ih =>
  have hm := List.getElem_mem h
  rcases hc _ hm with e | e
  ·exact ⟨hg.left0 _ hm, e⟩
  ·rw [nulB_hold.2 fun s hs => ih s hs] at e; cases e
theorem der_prd {g : Gram} (hg : InG g) {n : Nat} {hs : List Bool} (d : Der (fun r => prdB r.right) g.rules (List.replicate n false) hs) : ∀ v, hold hs v → Prd g v := by
 induction d with
 | refl =>
  intro v h
  exfalso
  have := h.2
  rw [List.getD_eq_getElem?_getD, List.getElem?_replicate] at this
  split at this <;> simp at this
 | step d r hr hb ih =>
  intro v h
  rcases hold_set (hg.left0 r hr) h with h | rfl
  ·exact ih v h
  ·obtain ⟨i, hi, rfl⟩ := List.getElem_of_mem hr
   exact .mk i hi (fun s hs h0 => ih s ((prdB_hold.1 hb) s hs h0))
theorem closed_prd {g : Gram} (hg : InG g) {hs : List Bool} (hc : ∀ r ∈ g.rules, hs.getD r.left.toNat false = true ∨ prdB r.right hs = false) : ∀ v, Prd g v → hold hs v := by
 intro v h
 induction h with
 | mk i h h1 ih =>
  have hm := List.getElem_mem h
  rcases hc _ hm with e | e
  ·exact ⟨hg.left0 _ hm, e⟩
  ·rw [prdB_hold.2 fun s hs h0 => ih s hs h0] at e; cases e
structure Edg (g : Gram) (v : Int) (i at_ : Nat) (u : Int) : Prop where
 hi : i < g.rules.length
 left : g.rules[i].left = v
 hat : g.rules[i].right[at_]? = some u
 u0 : 0 ≤ u
 nul : ∀ q, q < at_ → ∀ s, g.rules[i].right[q]? = some s → Nul g s
def Beg (g : Gram) (v u : Int) : Prop := ∃ i at_, Edg g v i at_ u
inductive Rch (g : Gram) (v : Int) : Int → Prop
 | one {u : Int} (h : Beg g v u) : Rch g v u
 | more {u w : Int} (h : Rch g v u) (k : Beg g u w) : Rch g v w
end Go.AM
namespace Go.AM
structure GoodRow (g : Gram) (v : Nat) (r : List Bool) : Prop where
 len : r.length = g.vars.length
 mem : ∀ u : Nat, r[u]? = some true ↔ Rch g v u
structure Work (g : Gram) (v : Nat) (r : List Bool) (todo : List Nat) (busy : Nat → Prop) : Prop where
 sound : ∀ u : Nat, r[u]? = some true → Rch g v u
 known : ∀ u, u ∈ todo → u = v ∨ r[u]? = some true
 closed : ∀ u : Nat, u = v ∨ r[u]? = some true → u ∈ todo ∨ busy u ∨ ∀ w : Nat, Beg g u w → r[w]? = some true
end Go.AM
namespace Go.AM
structure RoundTo (rb : GRule → List Bool → Bool) (rules : List GRule) (k : Nat) (hs nx : List Bool) : Prop where
 len : nx.length = hs.length
 mem : ∀ v : Nat, v < hs.length → (nx.getD v false = true ↔ hs.getD v false = true ∨ ∃ i, ∃ h : i < rules.length, i < k ∧ rules[i].left = v ∧ rb rules[i] hs = true)
end Go.AM
namespace Go.AM
def neg (s : Int) : Bool := decide (s < 0)
structure Laid (done pend : List Int) : Prop where
 done : ∀ s ∈ done, s < 0
 pend : ∀ s, pend[0]? = some s → 0 ≤ s
end Go.AM
namespace Go.AM
def farN : Nat := 1073741824
inductive WdL (g : Gram) : List Int → Nat → Prop
 | nil : WdL g [] 0
 | term {s : Int} {rest : List Int} {n : Nat} (h : s < 0) (k : WdL g rest n) : WdL g (s :: rest) (n + 1)
 | var {i : Nat} (h : i < g.rules.length) {rest : List Int} {a b : Nat} (x : WdL g g.rules[i].right a) (k : WdL g rest b) : WdL g (g.rules[i].left :: rest) (a + b)
def sumC (c : Nat → Nat) : List Int → Nat
 | [] => 0
 | s :: rest => (if s < 0 then 1 else c s.toNat) + sumC c rest
def priceA (c : Nat → Nat) (d : Nat → Bool) : Nat → List Int → Option Nat
 | n, [] => some n
 | n, s :: rest => if s < 0 then priceA c d (n + 1) rest else if d s.toNat then priceA c d (min (n + c s.toNat) farN) rest else none
def allDone (d : Nat → Bool) (l : List Int) : Prop := ∀ s ∈ l, 0 ≤ s → d s.toNat = true
theorem priceA_some {c : Nat → Nat} {d : Nat → Bool} : ∀ (l : List Int) (n m : Nat), priceA c d n l = some m → allDone d l ∧ (m < farN → m = n + sumC c l) := by
 intro l
 induction l with
 | nil => intro n m h; simp [priceA] at h; subst h; exact ⟨(fun s hs => by cases hs), fun _ => by simp [sumC]⟩
 | cons s l ih =>
  intro n m h
  simp only [priceA] at h
  split at h
  ·rename_i hs
   obtain ⟨h1, h2⟩ := ih _ _ h
   refine ⟨fun t ht h0 => ?_, fun hm => ?_⟩
   ·rcases List.mem_cons.1 ht with rfl | ht
    ·omega
    ·exact h1 t ht h0
   ·rw [h2 hm, sumC, if_pos hs]; omega
  ·rename_i hs
   split at h
   ·rename_i hd
    obtain ⟨h1, h2⟩ := ih _ _ h
    refine ⟨fun t ht h0 => ?_, fun hm => ?_⟩
    ·rcases List.mem_cons.1 ht with rfl | ht
     ·exact hd
     ·exact h1 t ht h0
    ·have := h2 hm
     rw [sumC, if_neg hs]; omega
   ·cases h
theorem priceA_of {c : Nat → Nat} {d : Nat → Bool} : ∀ (l : List Int) (n : Nat), allDone d l → n + sumC c l < farN → priceA c d n l = some (n + sumC c l) := by
 intro l
 induction l with
 | nil => intro n _ _; simp [priceA, sumC]
 | cons s l ih =>
  intro n hd hf
  have hd' : allDone d l := fun t ht => hd t (by simp [ht])
  simp only [priceA]
  rw [sumC] at hf ⊢
  split
  ·rename_i hs
   rw [if_pos hs] at hf
   rw [ih _ hd' (by omega)]
   congr 1; omega
  ·rename_i hs
   rw [if_neg hs] at hf
   rw [if_pos (hd s (by simp) (by omega)), Nat.min_eq_left (by omega), ih _ hd' (by omega)]
   congr 1; omega
inductive Ranked (g : Gram) (c : Nat → Nat) (best : Nat → Int) : List Nat → Prop
 | nil : Ranked g c best []
 | snoc {l : List Nat} {v i : Nat} (h : Ranked g c best l) (hv : v ∉ l) (hi : i < g.rules.length) (hb : best v = (i : Int)) (hl : g.rules[i].left = (v : Int)) (hr : ∀ s ∈ g.rules[i].right, 0 ≤ s → s.toNat ∈ l) (hc : c v = sumC c g.rules[i].right) (hf : c v < farN) : Ranked g c best (l ++ [v])
theorem Ranked.wd {g : Gram} {c : Nat → Nat} {best : Nat → Int} {l : List Nat} (h : Ranked g c best l) : ∀ v, v ∈ l → WdL g [(v : Int)] (c v) := by
 induction h with
 | nil => intro v hv; cases hv
 | @snoc l v i h hv hi hb hl hr hc hf ih =>
  intro w hw
  rcases List.mem_append.1 hw with hw | hw
  ·exact ih w hw
  ·simp at hw
   subst hw
   have key : ∀ r : List Int, (∀ s ∈ r, 0 ≤ s → s.toNat ∈ l) → WdL g r (sumC c r) := by
    intro r
    induction r with
    | nil => intro _; exact .nil
    | cons s r ihr =>
     intro hr
     have hrest := ihr fun t ht => hr t (by simp [ht])
     rw [sumC]
     by_cases hs : s < 0
     ·rw [if_pos hs, Nat.add_comm]
      exact .term hs hrest
     ·rw [if_neg hs]
      have hm := ih s.toNat (hr s (by simp) (by omega))
      obtain ⟨k, rfl⟩ : ∃ k : Nat, s = k := ⟨s.toNat, by omega⟩
      rw [Int.toNat_natCast] at hm ⊢
      have join : ∀ (x : List Int) (a : Nat), WdL g x a → x = [(k : Int)] → WdL g ((k : Int) :: r) (a + sumC c r) := by
       intro x a hx
       cases hx with
       | nil => intro e; cases e
       | term h k' => intro e; simp at e; omega
       | @var i' h' rest a' b' x' k' =>
        intro e
        simp at e
        obtain ⟨e1, e2⟩ := e
        subst e2
        cases k'
        rw [← e1]
        exact .var h' x' hrest
      exact join _ _ hm rfl
   have := WdL.var hi (key _ hr) .nil
   rw [hl, ← hc] at this
   exact this
structure Dij (g : Gram) (c : Nat → Nat) (d : Nat → Bool) : Prop where
 least : ∀ v k, v < g.vars.length → d v = true → WdL g [(v : Int)] k → c v ≤ k
 relax : ∀ i (h : i < g.rules.length), d g.rules[i].left.toNat = false → allDone d g.rules[i].right → sumC c g.rules[i].right < farN → c g.rules[i].left.toNat ≤ sumC c g.rules[i].right
theorem Dij.bound {g : Gram} (hg : InG g) {c : Nat → Nat} {d : Nat → Bool} (h : Dij g c d) {m : Nat} (hm : ∀ v, v < g.vars.length → d v = false → m ≤ c v) (hf : m ≤ farN) :
    ∀ (l : List Int) (n : Nat), WdL g l n → (∀ s ∈ l, s < g.vars.length) → (∃ s ∈ l, 0 ≤ s ∧ d s.toNat = false) ∧ m ≤ n ∨ allDone d l ∧ sumC c l ≤ n := by
  intro l n hw
  induction hw with
  | nil => intro _; exact .inr ⟨(fun s hs => by cases hs), by simp [sumC]⟩
  | @term s rest n hs k ih =>
    intro hl
    rcases ih (fun t ht => hl t (by simp [ht])) with ⟨⟨t, ht, h0, h1⟩, h2⟩ | ⟨h1, h2⟩
    · exact .inl ⟨⟨t, by simp [ht], h0, h1⟩, by omega⟩
    · refine .inr ⟨fun t ht h0 => ?_, ?_⟩
      · rcases List.mem_cons.1 ht with rfl | ht
        · omega
        · exact h1 t ht h0
      · rw [sumC, if_pos hs]; omega
  | @var i hi rest a b x k ihx ihk =>
    intro hl
    have hm' := List.getElem_mem hi
    have hl0 := hg.left0 _ hm'
    have hl1 := hg.left1 _ hm'
    by_cases hd : d g.rules[i].left.toNat = true
    · have hla : c g.rules[i].left.toNat ≤ a := by
        have := h.least g.rules[i].left.toNat a (by omega) hd
        rw [Int.toNat_of_nonneg hl0] at this
        exact this (by simpa using WdL.var hi x .nil)
      rcases ihk (fun t ht => hl t (by simp [ht])) with ⟨⟨t, ht, h0, h1⟩, h2⟩ | ⟨h1, h2⟩
      · exact .inl ⟨⟨t, by simp [ht], h0, h1⟩, by omega⟩
      · refine .inr ⟨fun t ht h0 => ?_, ?_⟩
        · rcases List.mem_cons.1 ht with rfl | ht
          · exact hd
          · exact h1 t ht h0
        · rw [sumC, if_neg (by omega)]; omega
    · have hd' : d g.rules[i].left.toNat = false := by simpa using hd
      refine .inl ⟨⟨_, by simp, hl0, hd'⟩, ?_⟩
      have hmc := hm _ (show g.rules[i].left.toNat < g.vars.length by omega) hd'
      rcases ihx (fun t ht => hg.right _ hm' t ht) with ⟨_, h2⟩ | ⟨h1, h2⟩
      · omega
      · by_cases hs : sumC c g.rules[i].right < farN
        · have := h.relax i hi hd' h1 hs
          omega
        · omega
end Go.AM
namespace Go.AM
theorem sumC_congr {c c' : Nat → Nat} {l : List Nat} (h : ∀ v, v ∈ l → c' v = c v) : ∀ r : List Int, (∀ s ∈ r, 0 ≤ s → s.toNat ∈ l) → sumC c' r = sumC c r := by
 intro r
 induction r with
 | nil => intro _; rfl
 | cons s r ih =>
  intro hr
  rw [sumC, sumC, ih fun t ht => hr t (by simp [ht])]
  by_cases hs : s < 0
  ·rw [if_pos hs, if_pos hs]
  ·rw [if_neg hs, if_neg hs, h _ (hr s (by simp) (by omega))]
theorem Ranked.congr {g : Gram} {c c' : Nat → Nat} {b b' : Nat → Int} {l : List Nat} (h : Ranked g c b l) : (∀ v, v ∈ l → c' v = c v ∧ b' v = b v) → Ranked g c' b' l := by
 induction h with
 | nil => intro _; exact .nil
 | @snoc l v i h hv hi hb hl hr hc hf ih =>
  intro e
  have e' : ∀ w, w ∈ l → c' w = c w ∧ b' w = b w := fun w hw => e w (by simp [hw])
  have ev := e v (by simp)
  refine .snoc (ih e') hv hi (by rw [ev.2]; exact hb) hl hr ?_ (by rw [ev.1]; exact hf)
  rw [ev.1, hc, sumC_congr (fun w hw => (e' w hw).1) _ hr]
theorem Ranked.nodup {g : Gram} {c : Nat → Nat} {b : Nat → Int} {l : List Nat} (h : Ranked g c b l) : l.Nodup := by
 induction h with
 | nil => exact List.nodup_nil
 | snoc h hv hi hb hl hr hc hf ih =>
  rw [List.nodup_append]
  refine ⟨ih, by simp, fun a ha x hx => ?_⟩
  simp at hx; subst hx
  rintro rfl; exact hv ha
theorem Ranked.lt {g : Gram} (hg : InG g) {c : Nat → Nat} {b : Nat → Int} {l : List Nat} (h : Ranked g c b l) : ∀ v, v ∈ l → v < g.vars.length := by
 induction h with
 | nil => intro v hv; cases hv
 | @snoc l v i h hv hi hb hl hr hc hf ih =>
  intro w hw
  rcases List.mem_append.1 hw with hw | hw
  ·exact ih w hw
  ·simp at hw; subst hw
   have := hg.left1 _ (List.getElem_mem hi)
   rw [hl] at this; omega
theorem nodup_le : ∀ (n : Nat) (l : List Nat), l.Nodup → (∀ v, v ∈ l → v < n) → l.length ≤ n := by
 intro n
 induction n with
 | zero =>
  intro l _ hl
  cases l with
  | nil => simp
  | cons a l => exact absurd (hl a (by simp)) (by omega)
 | succ n ih =>
  intro l hd hl
  have h1 := ih (l.erase n) (hd.erase n) (fun v hv => by
   have := (hd.mem_erase_iff).1 hv
   have := hl v this.2
   omega)
  by_cases hn : n ∈ l
  ·rw [List.length_erase_of_mem hn] at h1; omega
  ·rw [List.erase_of_not_mem hn] at h1; omega
theorem all_in {n : Nat} {l : List Nat} (hd : l.Nodup) (hl : ∀ v, v ∈ l → v < n) (hn : l.length = n) : ∀ v, v < n → v ∈ l := by
 intro v hv
 apply Classical.byContradiction
 intro hc
 have h1 : (v :: l).Nodup := List.nodup_cons.2 ⟨hc, hd⟩
 have h2 := nodup_le n (v :: l) h1 (fun w hw => by
  rcases List.mem_cons.1 hw with rfl | hw
  ·exact hv
  ·exact hl w hw)
 rw [List.length_cons] at h2
 omega
structure CInv (g : Gram) (c : Nat → Nat) (b : Nat → Int) (d : Nat → Bool) (ord : List Nat) (i : Nat) : Prop where
 ranked : Ranked g c b ord
 done : ∀ v, v < g.vars.length → (d v = true ↔ v ∈ ord)
 least : ∀ v k, v < g.vars.length → d v = true → WdL g [(v : Int)] k → c v ≤ k
 cap : ∀ v, v < g.vars.length → c v ≤ farN
 ach : ∀ v, v < g.vars.length → d v = false → c v < farN → ∃ i, ∃ h : i < g.rules.length, b v = (i : Int) ∧ g.rules[i].left = (v : Int) ∧ (∀ s ∈ g.rules[i].right, 0 ≤ s → s.toNat ∈ ord) ∧ c v = sumC c g.rules[i].right
 relax : ∀ j (h : j < g.rules.length), j < i → d g.rules[j].left.toNat = false → allDone d g.rules[j].right → sumC c g.rules[j].right < farN → c g.rules[j].left.toNat ≤ sumC c g.rules[j].right
section
variable {g : Gram} {c : Nat → Nat} {b : Nat → Int} {d : Nat → Bool} {ord : List Nat} {i : Nat}
theorem CInv.start (c : Nat → Nat) (b : Nat → Int) (d : Nat → Bool) (hc : ∀ v, v < g.vars.length → c v = farN) (hd : ∀ v, v < g.vars.length → d v = false) : CInv g c b d [] 0 :=
 ⟨.nil, fun v hv => by rw [hd v hv]; simp, fun v k hv e => (by rw [hd v hv] at e; cases e), fun v hv => by rw [hc v hv]; exact Nat.le_refl _, fun v hv _ h => by rw [hc v hv] at h; omega, fun j h hj => by omega⟩
theorem allDone_ord (h : CInv g c b d ord i) (hg : InG g) {r : GRule} (hr : r ∈ g.rules) : allDone d r.right ↔ ∀ s ∈ r.right, 0 ≤ s → s.toNat ∈ ord := by
 constructor
 ·intro ha s hs h0
  exact (h.done _ (by have := hg.right r hr s hs; omega)).1 (ha s hs h0)
 ·intro ha s hs h0
  exact (h.done _ (by have := hg.right r hr s hs; omega)).2 (ha s hs h0)
theorem CInv.skip (h : CInv g c b d ord i) (hi : i < g.rules.length) (hn : d g.rules[i].left.toNat = false → allDone d g.rules[i].right → sumC c g.rules[i].right < farN → c g.rules[i].left.toNat ≤ sumC c g.rules[i].right) : CInv g c b d ord (i + 1) :=
 ⟨h.ranked, h.done, h.least, h.cap, h.ach, fun j hj hji => by
  by_cases e : j = i
  ·subst e; exact hn
  ·exact h.relax j hj (by omega)⟩
theorem CInv.take (h : CInv g c b d ord i) (hg : InG g) (hi : i < g.rules.length) {l : Nat} (hl : g.rules[i].left = (l : Int)) (hd : d l = false) (ha : allDone d g.rules[i].right) {m : Nat} (hm : m = sumC c g.rules[i].right) (hf : m < farN) (hlt : m < c l)
  {c' : Nat → Nat} {b' : Nat → Int} (hc : ∀ v, c' v = if v = l then m else c v) (hb : ∀ v, b' v = if v = l then (i : Int) else b v) : CInv g c' b' d ord (i + 1) := by
 have hlv : l < g.vars.length := by have := hg.left1 _ (List.getElem_mem hi); omega
 have hlo : l ∉ ord := fun hc => by rw [(h.done l hlv).2 hc] at hd; cases hd
 have hne : ∀ v, v ∈ ord → c' v = c v ∧ b' v = b v := fun v hv => by
  have : v ≠ l := fun e => hlo (e ▸ hv)
  exact ⟨by rw [hc, if_neg this], by rw [hb, if_neg this]⟩
 have hle : ∀ v, c' v ≤ c v := fun v => by
  rw [hc]; split
  ·rename_i e; subst e; omega
  ·exact Nat.le_refl _
 have hs : ∀ r : List Int, (∀ s ∈ r, 0 ≤ s → s.toNat ∈ ord) → sumC c' r = sumC c r := fun r hr => sumC_congr (fun v hv => (hne v hv).1) r hr
 have hord := (allDone_ord h hg (List.getElem_mem hi)).1 ha
 refine ⟨h.ranked.congr hne, h.done, fun v k hv hdv hw => Nat.le_trans (hle v) (h.least v k hv hdv hw), fun v hv => Nat.le_trans (hle v) (h.cap v hv), fun v hv hdv hcv => ?_, fun j hj hji hdj haj hsj => ?_⟩
 ·by_cases e : v = l
  ·subst e
   refine ⟨i, hi, by rw [hb, if_pos rfl], hl, hord, ?_⟩
   rw [hc, if_pos rfl, hs _ hord, hm]
  ·rw [hc, if_neg e] at hcv
   obtain ⟨q, hq, e1, e2, e3, e4⟩ := h.ach v hv hdv hcv
   exact ⟨q, hq, by rw [hb, if_neg e]; exact e1, e2, e3, by rw [hc, if_neg e, hs _ e3, e4]⟩
 ·have hoj := (allDone_ord h hg (List.getElem_mem hj)).1 haj
  rw [hs _ hoj] at hsj ⊢
  by_cases e : j = i
  ·subst e
   have hlt' : g.rules[j].left.toNat = l := by omega
   rw [hlt', hc, if_pos rfl]; omega
  ·exact Nat.le_trans (hle _) (h.relax j hj (by omega) hdj haj hsj)
theorem CInv.dij (h : CInv g c b d ord g.rules.length) : Dij g c d := ⟨h.least, fun j hj => h.relax j hj hj⟩
theorem CInv.choose (h : CInv g c b d ord g.rules.length) (hg : InG g) {a : Nat} (ha : a < g.vars.length) (hd : d a = false) (hf : c a < farN) (hm : ∀ v, v < g.vars.length → d v = false → c a ≤ c v) {d' : Nat → Bool} (hd' : ∀ v, d' v = if v = a then true else d v) : CInv g c b d' (ord ++ [a]) 0 := by
 obtain ⟨i, hi, e1, e2, e3, e4⟩ := h.ach a ha hd hf
 have hao : a ∉ ord := fun hc => by rw [(h.done a ha).2 hc] at hd; cases hd
 refine ⟨.snoc h.ranked hao hi e1 e2 e3 e4 hf, fun v hv => ?_, fun v k hv hdv hw => ?_, h.cap, fun v hv hdv hcv => ?_, fun j hj hji => by omega⟩
 ·rw [hd', List.mem_append]
  split
  ·rename_i e; subst e; simp
  ·rename_i e
   rw [h.done v hv]; simp [e]
 ·by_cases e : v = a
  ·subst e
   rcases h.dij.bound hg hm (Nat.le_of_lt hf) _ _ hw (fun s hs => by simp at hs; omega) with ⟨_, h2⟩ | ⟨h1, _⟩
   ·exact h2
   ·have := h1 (v : Int) (by simp) (by omega)
    rw [Int.toNat_natCast, hd] at this; cases this
  ·rw [hd', if_neg e] at hdv
   exact h.least v k hv hdv hw
 ·have e : v ≠ a := by rintro rfl; rw [hd', if_pos rfl] at hdv; cases hdv
  rw [hd', if_neg e] at hdv
  obtain ⟨q, hq, f1, f2, f3, f4⟩ := h.ach v hv hdv hcv
  exact ⟨q, hq, f1, f2, fun s hs h0 => by simp [f3 s hs h0], f4⟩
structure CostOK (g : Gram) (c : Nat → Nat) (b : Nat → Int) : Prop where
 ranked : ∃ ord, Ranked g c b ord ∧ ∀ v, v < g.vars.length → v ∈ ord ∨ v ∉ ord ∧ c v = farN ∧ b v = -1
 least : ∀ v k, v < g.vars.length → WdL g [(v : Int)] k → c v ≤ k ∨ farN ≤ k ∧ c v = farN
theorem CInv.over (h : CInv g c b d ord i) (hg : InG g) (hx : i = g.rules.length ∧ (∀ v, v < g.vars.length → d v = false → farN ≤ c v) ∨ ord.length = g.vars.length) {c' : Nat → Nat} {b' : Nat → Int} (hc : ∀ v, v < g.vars.length → c' v = if d v then c v else farN) (hb : ∀ v, v < g.vars.length → b' v = if d v then b v else -1) : CostOK g c' b' := by
 have hr : Ranked g c' b' ord := h.ranked.congr fun v hv => by
  have hl := h.ranked.lt hg v hv
  have := (h.done v hl).2 hv
  rw [hc v hl, hb v hl, this]; exact ⟨rfl, rfl⟩
 refine ⟨⟨ord, hr, fun v hv => ?_⟩, fun v k hv hw => ?_⟩
 ·by_cases e : v ∈ ord
  ·exact .inl e
  ·refine .inr ⟨e, ?_⟩
   have hd : d v = false := by
    cases hdv : d v
    ·rfl
    ·exact absurd ((h.done v hv).1 hdv) e
   rw [hc v hv, hb v hv, hd]; exact ⟨rfl, rfl⟩
 ·cases hd : d v
  ·right
   rw [hc v hv, hd]
   refine ⟨?_, rfl⟩
   rcases hx with ⟨rfl, hx⟩ | hx
   ·rcases h.dij.bound hg (m := farN) hx (Nat.le_refl _) _ _ hw (fun s hs => by simp at hs; omega) with ⟨_, h2⟩ | ⟨h1, _⟩
    ·exact h2
    ·have := h1 (v : Int) (by simp) (by omega)
     rw [Int.toNat_natCast, hd] at this; cases this
   ·have := (h.done v hv).2 (all_in h.ranked.nodup (h.ranked.lt hg) hx v hv)
    rw [hd] at this; cases this
  ·left
   rw [hc v hv, hd]
   exact h.least v k hv hd hw
end
end Go.AM
namespace Go.AM
inductive Pre (g : Gram) (b : Nat → Int) : List Int → List Int → Prop
 | nil : Pre g b [] []
 | term {s : Int} {rest d : List Int} (h : s < 0) (k : Pre g b rest d) : Pre g b (s :: rest) d
 | var {i v : Nat} (hi : i < g.rules.length) (hb : b v = (i : Int)) (hl : g.rules[i].left = (v : Int)) {rest d1 d2 : List Int} (x : Pre g b g.rules[i].right d1) (k : Pre g b rest d2) : Pre g b ((v : Int) :: rest) ((i : Int) :: (d1 ++ d2))
inductive PreE (g : Gram) : List Int → List Int → Prop
 | nil : PreE g [] []
 | var {i : Nat} (hi : i < g.rules.length) {rest d1 d2 : List Int} (x : PreE g g.rules[i].right d1) (k : PreE g rest d2) : PreE g (g.rules[i].left :: rest) ((i : Int) :: (d1 ++ d2))
structure Slow (g : Gram) (F : Nat → Nat → Nat) : Prop where
 up : ∀ k v, F k v ≤ F (k + 1) v
 rule : ∀ k i (h : i < g.rules.length), k < g.vars.length → (∀ s ∈ g.rules[i].right, 0 ≤ s ∧ 1 ≤ F k s.toNat) → 1 + sumC (F k) g.rules[i].right ≤ F (k + 1) g.rules[i].left.toNat
end Go.AM
namespace Go.AM
inductive Usd (g : Gram) : Int → Prop
 | base (h : Prd g 0) : Usd g 0
 | step (i : Nat) (h : i < g.rules.length) (hu : Usd g g.rules[i].left) (hp : ∀ s ∈ g.rules[i].right, 0 ≤ s → Prd g s) {s : Int} (hs : s ∈ g.rules[i].right) (h0 : 0 ≤ s) : Usd g s
def UClosed (g : Gram) (ws o : List Bool) : Prop := ∀ r ∈ g.rules, hold o r.left → prdB r.right ws = true → ∀ s ∈ r.right, 0 ≤ s → hold o s
theorem hold_nat {l : List Bool} {u : Nat} : hold l (u : Int) ↔ l[u]? = some true := by
 unfold hold
 rw [Int.toNat_natCast, List.getD_eq_getElem?_getD]
 cases l[u]? with
 | none => simp
 | some b => simp
structure UWork (g : Gram) (ws r : List Bool) (todo : List Nat) (busy : Nat → Prop) : Prop where
 sound : ∀ u : Int, hold r u → Usd g u
 known : ∀ u, u ∈ todo → hold r (u : Nat)
 base : hold r 0
 closed : ∀ u : Nat, hold r u → u ∈ todo ∨ busy u ∨ ∀ q ∈ g.rules, q.left = (u : Int) → prdB q.right ws = true → ∀ s ∈ q.right, 0 ≤ s → hold r s
def RUr (ws o : List Bool) (r : GRule) (j : Nat) : Prop := hold o r.left → prdB r.right ws = true → ∀ (p : Nat) (s : Int), p < j → r.right[p]? = some s → 0 ≤ s → hold o s
structure RU (g : Gram) (ws o0 o : List Bool) (k j : Nat) : Prop where
 len : o.length = o0.length
 sound : ∀ v, hold o v → Usd g v
 mono : ∀ v, hold o0 v → hold o v
 stay : UClosed g ws o0 → ∀ v, hold o v → hold o0 v
 prog : (o = o0 ∧ (∀ (i : Nat) (h : i < g.rules.length), i < k → RUr ws o0 g.rules[i] g.rules[i].right.length) ∧ ∀ h : k < g.rules.length, RUr ws o0 g.rules[k] j) ∨ o0.count true < o.count true
section
variable {g : Gram} {ws o0 o : List Bool} {k j : Nat}
end
structure Least (g : Gram) (c : Nat → Nat) : Prop where
 cap : ∀ v, v < g.vars.length → c v ≤ farN
 rel : ∀ r ∈ g.rules, c r.left.toNat ≤ min (sumC c r.right) farN
theorem CostOK.cap {g : Gram} {c : Nat → Nat} {b : Nat → Int} (h : CostOK g c b) : ∀ v, v < g.vars.length → c v ≤ farN := by
  obtain ⟨ord, hr, hall⟩ := h.ranked
  intro v hv
  rcases hall v hv with h1 | ⟨_, h1, _⟩
  · have key : ∀ l : List Nat, Ranked g c b l → ∀ v, v ∈ l → c v ≤ farN := by
      intro l hl
      induction hl with
      | nil => intro v hv; cases hv
      | snoc h hv hi hb hl hr hc hf ih =>
        intro w hw
        rcases List.mem_append.1 hw with hw | hw
        · exact ih w hw
        · simp at hw; subst hw; omega
    exact key ord hr v h1
  · omega
structure BF (g : Gram) (c : Nat → Nat) (b : Nat → Int) (ord : List Nat) (o : Nat → Nat) (i k : Nat) : Prop where
 lo : ∀ v, v < g.vars.length → c v ≤ o v
 hi : ∀ v, v < g.vars.length → o v ≤ farN
 rank : ∀ p v, p < i → ord[p]? = some v → o v = c v
 cur : ∀ v q, ord[i]? = some v → q < k → b v = (q : Int) → o v = c v
section
variable {g : Gram} {c : Nat → Nat} {b : Nat → Int} {ord : List Nat} {o : Nat → Nat} {i k : Nat}
end
end Go.AM
namespace Go.AM
inductive PreW (g : Gram) (b : Nat → Int) : List Int → List Int → List Int → Prop
 | nil : PreW g b [] [] []
 | term {s : Int} {rest d w : List Int} (h : s < 0) (k : PreW g b rest d w) : PreW g b (s :: rest) d (s :: w)
 | var {i v : Nat} (hi : i < g.rules.length) (hb : b v = (i : Int)) (hl : g.rules[i].left = (v : Int)) {rest d1 d2 w1 w2 : List Int} (x : PreW g b g.rules[i].right d1 w1) (k : PreW g b rest d2 w2) : PreW g b ((v : Int) :: rest) ((i : Int) :: (d1 ++ d2)) (w1 ++ w2)
open Classical in
noncomputable def szOf (g : Gram) (b : Nat → Int) (v : Nat) : Nat := if h : ∃ D, Pre g b [(v : Int)] D then (Classical.choose h).length else 0
def wideM : Nat := 1048576
structure WD (g : Gram) (b : Nat → Int) (ord : List Nat) (st : Nat → Nat) (i k : Nat) : Prop where
 rank : ∀ p v, p < i → ord[p]? = some v → st v = min (szOf g b v) wideM
 cur : ∀ v, ord[i]? = some v → v < k → st v = min (szOf g b v) wideM
section
variable {g : Gram} {c : Nat → Nat} {b : Nat → Int} {ord : List Nat} {st : Nat → Nat} {i k : Nat}
end
theorem WdL.prd {g : Gram} {l : List Int} {n : Nat} (h : WdL g l n) : ∀ s ∈ l, 0 ≤ s → Prd g s := by
 induction h with
 | nil => intro s hs; cases hs
 | term hs _ ih =>
  intro s h h0
  rcases List.mem_cons.1 h with rfl | h
  ·omega
  ·exact ih s h h0
 | @var i hi rest m n x k ihx ihk =>
  intro s h h0
  rcases List.mem_cons.1 h with rfl | h
  ·exact .mk i hi ihx
  ·exact ihk s h h0
theorem WdL.nul {g : Gram} {l : List Int} {n : Nat} (h : WdL g l n) : n = 0 → (∀ r ∈ g.rules, 0 ≤ r.left) → ∀ s ∈ l, 0 ≤ s ∧ Nul g s := by
 induction h with
 | nil => intro _ _ s hs; cases hs
 | term hs _ ih => intro h; omega
 | @var i hi rest m n x k ihx ihk =>
  intro h hl s hs
  rcases List.mem_cons.1 hs with rfl | hs
  ·exact ⟨hl _ (List.getElem_mem hi), .mk i hi (fun s hs => (ihx (by omega) hl s hs).1) fun s hs => (ihx (by omega) hl s hs).2⟩
  ·exact ihk (by omega) hl s hs
end Go.AM
namespace Go.AM
open Go.RowKit
def wz (P : Program) (all : Array Oper) (K : List Fk) (Q : AExit → St → Prop) : List Bool → List Oper → Fr → Nat → Heap → Prop
 | _, [], f, n, H => WK P .skip K ⟨f, n, H⟩ Q
 | b :: fl, o :: rest, f, n, H => w1 P b (wz P all K Q fl rest) o f n H (wantedA all f o)
 | [], o :: rest, f, n, H => w1 P true (wz P all K Q [] rest) o f n H (wantedA all f o)
theorem wz_sound {P : Program} {all : Array Oper} {K : List Fk} {Q : AExit → St → Prop} : ∀ (rest : List Oper) (fl : List Bool) (j : Nat), (∀ k : Nat, fl[k]? = some false → soloB all (j + k) = true) → ∀ (f : Fr) (n : Nat) (H : Heap), wz P all K Q fl rest f n H →
    ∃ s1 l, BS P (.ops all rest ⟨f, n, H⟩) (.log s1 l) ∧ (∀ (k : Nat) (r : Rec), l[k]? = some r → r.call = true → soloB all (j + k) = true ∨ ∀ x, x < r.pre.n → r.H x = r.pre.H x) ∧ WK P .skip K s1 Q := by
  intro rest
  induction rest with
  | nil =>
    intro fl j hfl f n H h
    refine ⟨⟨f, n, H⟩, [], .opsNil all _, (fun k r hr => by simp at hr), ?_⟩
    cases fl <;> exact h
  | cons o rest ih =>
    intro fl j hfl f n H h
    obtain ⟨b, fl', hfl', hb, h⟩ : ∃ b fl', (∀ k : Nat, fl'[k]? = some false → soloB all (j + 1 + k) = true) ∧ (b = false → soloB all j = true) ∧ w1 P b (wz P all K Q fl' rest) o f n H (wantedA all f o) := by
      cases fl with
      | nil => exact ⟨true, [], fun k hk => by simp at hk, fun e => (by cases e), h⟩
      | cons b fl => exact ⟨b, fl, fun k hk => by rw [show j + 1 + k = j + (k + 1) by omega]; exact hfl (k + 1) (by simpa using hk), fun e => hfl 0 (by subst e; rfl), h⟩
    have op : ∀ t, (∀ r, t = some r → aop P (evalA f) n H o = some r) → wantedA all f o = true → w3 (wz P all K Q fl' rest) f o.dst n H t →
        ∃ s1 l, BS P (.ops all (o :: rest) ⟨f, n, H⟩) (.log s1 l) ∧ (∀ (k : Nat) (r : Rec), l[k]? = some r → r.call = true → soloB all (j + k) = true ∨ ∀ x, x < r.pre.n → r.H x = r.pre.H x) ∧ WK P .skip K s1 Q := fun t ht hw h => by
      cases t with
      | none => cases h
      | some r =>
        obtain ⟨s1, l, h1, h2, h3⟩ := ih fl' (j + 1) hfl' _ _ _ h
        refine ⟨s1, _, .opsOp hw (ht r rfl) h1, fun k q hq hc => ?_, h3⟩
        cases k with
        | zero => simp at hq; subst hq; cases hc
        | succ k => rw [show j + (k + 1) = j + 1 + k by omega]; exact h2 k q (by simpa using hq) hc
    cases hw : wantedA all f o with
    | false =>
      rw [hw] at h
      obtain ⟨s1, l, h1, h2, h3⟩ := ih fl' (j + 1) hfl' _ _ _ h
      refine ⟨s1, _, .opsSkip hw h1, fun k q hq hc => ?_, h3⟩
      cases k with
      | zero => simp at hq; subst hq; cases hc
      | succ k => rw [show j + (k + 1) = j + 1 + k by omega]; exact h2 k q (by simpa using hq) hc
    | true =>
      rw [hw] at h
      simp only [w1] at h
      cases hg : acallee (evalA f) o with
      | none => rw [hg] at h; exact op _ (fun r hr => top_sound hr) hw h
      | some c =>
        obtain ⟨g, args⟩ := c
        rw [hg] at h
        rcases h with h | ⟨v, n1, H1, hbs, hf, h⟩
        · exact op _ (fun r hr => hr) hw h
        · obtain ⟨s1, l, h1, h2, h3⟩ := ih fl' (j + 1) hfl' _ _ _ h
          refine ⟨s1, _, .opsCall hw hg hbs h1, fun k q hq hc => ?_, h3⟩
          cases k with
          | zero =>
            simp at hq; subst hq
            cases b with
            | false => exact .inl (hb rfl)
            | true => exact .inr (hf rfl)
          | succ k => rw [show j + (k + 1) = j + 1 + k by omega]; exact h2 k q (by simpa using hq) hc
def soloFl (ops : Array Oper) (fl : List Bool) : Bool := (List.range fl.length).all fun k => (fl.getD k true) || soloB ops k
theorem WK.rgs {P : Program} {K : List Fk} {Q : AExit → St → Prop} {f : Fr} {n : Nat} {H : Heap} {id : Nat} {ops : Array Oper} (fl : List Bool) (hfl : soloFl ops fl = true) (hp : (sPairs ops).isEmpty = true) (h : wz P ops K Q fl ops.toList f n H) :
  WK P (.region id ops true) K ⟨f, n, H⟩ Q := by
 obtain ⟨s1, l, h1, h2, h3⟩ := wz_sound ops.toList fl 0 (by
  intro k hk
  have hlt := (List.getElem?_eq_some_iff.1 hk).1
  have := List.all_eq_true.1 hfl k (List.mem_range.2 hlt)
  rw [List.getD_eq_getElem?_getD, hk] at this
  rw [Nat.zero_add]
  simpa using this) _ _ _ h
 refine WK.imp (d := .skip) (t := s1) (fun e s2 h => ?_) h3
 cases h
 refine .regionDraw h1 ⟨fun p hp' => ?_, fun k r e hcl => by have := h2 k r e hcl; rwa [Nat.zero_add] at this⟩
 rw [List.isEmpty_iff.1 hp] at hp'; cases hp'
end Go.AM
namespace Go.AM
open Go.RowKit
def BA (l : List UInt8) : ByteArray := ⟨l.toArray⟩
theorem ba_def (l : List UInt8) : (⟨l.toArray⟩ : ByteArray) = BA l := rfl
theorem ba_size (l : List UInt8) : (BA l).size = l.length := by simp [BA, ByteArray.size]
theorem ba_loop (l : List UInt8) : ∀ (k i : Nat) (r : List UInt8), l.length - i = k → ByteArray.toList.loop (BA l) i r = r.reverse ++ l.drop i := by
 intro k
 induction k with
 | zero =>
  intro i r h
  rw [ByteArray.toList.loop, if_neg (by rw [ba_size]; omega), List.drop_eq_nil_of_le (by omega), List.append_nil]
 | succ k ih =>
  intro i r h
  have hi : i < l.length := by omega
  rw [ByteArray.toList.loop, if_pos (by rw [ba_size]; exact hi), ih (i + 1) _ (by omega), List.drop_eq_getElem_cons hi]
  have hg : (BA l).get! i = l[i] := by
   show l.toArray[i]! = l[i]
   simp [hi]
  rw [hg, List.reverse_cons, List.append_assoc]; rfl
theorem ba_list (l : List UInt8) : (BA l).toList = l := by
 have := ba_loop l l.length 0 [] rfl
 simpa [ByteArray.toList] using this
theorem ba_get (l : List UInt8) (i : Nat) : (BA l)[i]? = l[i]? := by
 by_cases h : i < l.length
 ·rw [getElem?_pos (BA l) i (by rw [ba_size]; exact h), getElem?_pos l i h]; rfl
 ·rw [getElem?_neg (BA l) i (by rw [ba_size]; exact h), getElem?_neg l i h]
theorem ba_app (a b : List UInt8) : BA a ++ BA b = BA (a ++ b) := by
 apply ByteArray.ext
 simp [BA]
theorem ba_ext (l : List UInt8) (a b : Nat) : (BA l).extract a b = BA ((l.take b).drop a) := by
 apply ByteArray.ext
 simp [BA, List.drop_take]
def sbnd (d : Nat) : Option Value → Option Nat
 | none => some d
 | some (.int _ i) => if 0 ≤ i then some i.toNat else none
 | _ => none
def tss2 (s : ByteArray) (alt : Option Res) : Option TypeDesc → Option Nat → Option Nat → Option Res
 | some .string, some l, some h => if l ≤ h ∧ h ≤ s.size then some { v := .string (s.extract l h) } else alt
 | _, _, _ => alt
def tss (P : Program) (t : TypeId) (alt : Option Res) (lo hi : Option Value) : Value → Option Res
 | .string s => tss2 s alt (P.underlying t) (sbnd 0 lo) (sbnd s.size hi)
 | _ => alt
def aopK (P : Program) (ρ : Operand → Value) (n : Nat) (H : Heap) (o : Oper) : Option Res := aop P ρ n H o
theorem bounds_run {P : Program} {N : Nat} {lo hi : Option Value} {l h : Nat} (hl : sbnd 0 lo = some l) (hh : sbnd N hi = some h) (h1 : l ≤ h) (h2 : h ≤ N) :
  pureRun P (Instr.sliceBounds false N N lo hi none) = some (l, h, N) := by
 have ilo : lo = none ∧ l = 0 ∨ ∃ k i, lo = some (.int k i) ∧ 0 ≤ i ∧ i.toNat = l := by
  cases lo with
  | none => left; cases hl; exact ⟨rfl, rfl⟩
  | some v =>
   right
   cases v <;> try (cases hl; done)
   rename_i k i
   simp only [sbnd] at hl
   split at hl
   ·cases hl; exact ⟨k, i, rfl, by omega, rfl⟩
   ·cases hl
 have ihi : hi = none ∧ h = N ∨ ∃ k i, hi = some (.int k i) ∧ 0 ≤ i ∧ i.toNat = h := by
  cases hi with
  | none => left; cases hh; exact ⟨rfl, rfl⟩
  | some v =>
   right
   cases v <;> try (cases hh; done)
   rename_i k i
   simp only [sbnd] at hh
   split at hh
   ·cases hh; exact ⟨k, i, rfl, by omega, rfl⟩
   ·cases hh
 rcases ilo with ⟨rfl, rfl⟩ | ⟨k, i, rfl, hi0, rfl⟩ <;> rcases ihi with ⟨rfl, rfl⟩ | ⟨k', j, rfl, hj0, rfl⟩
 ·rfl
 ·have c : 0 ≤ j ∧ j ≤ N := by omega
  simp [Instr.sliceBounds, Instr.sliceBound, asIntOf, bind, Sem.bind, pure, c, pureRun]
 ·have c : 0 ≤ i ∧ i ≤ h := by omega
  simp [Instr.sliceBounds, Instr.sliceBound, asIntOf, bind, Sem.bind, pure, c, pureRun]
 ·have c : 0 ≤ j ∧ j ≤ N := by omega
  have c2 : 0 ≤ i ∧ i ≤ j := by omega
  simp [Instr.sliceBounds, Instr.sliceBound, asIntOf, bind, Sem.bind, pure, c, pureRun]
  rw [if_pos (by omega)]; rfl
theorem slice_run {P : Program} {t : TypeId} {s : ByteArray} {lo hi : Option Value} {l h : Nat} (ht : P.underlying t = some .string) (hl : sbnd 0 lo = some l) (hh : sbnd s.size hi = some h) (h1 : l ≤ h) (h2 : h ≤ s.size) :
  pureRun P (Instr.sliceAt t (.string s) lo hi none) = some (.string (s.extract l h)) := by
 have hu : pureRun P (underlying t) = some .string := by
  unfold underlying
  refine (pureRun_bind _ _ (a := P) rfl).trans ?_
  rw [ht]; rfl
 unfold Instr.sliceAt
 refine (pureRun_bind _ _ hu).trans ?_
 show pureRun P (Instr.slice t (.string s) lo hi none) = _
 unfold Instr.slice
 refine (pureRun_bind _ _ hu).trans ?_
 refine (pureRun_bind _ _ (a := (l, h, s.size)) (bounds_run hl hh h1 h2)).trans rfl
theorem aop_ssl {P : Program} {f : Fr} {n : Nat} {H : Heap} {d : Option Nat} {t : TypeId} {x : Operand} {lo hi : Option Operand} {ty : TypeId} {p : String} {af : Array Edge} {gd : Option (Nat × Bool)} :
  aop P (evalA f) n H ⟨d, .slice t x lo hi none, ty, p, af, gd⟩ = tss P t (aopK P (evalA f) n H ⟨d, .slice t x lo hi none, ty, p, af, gd⟩) (lo.map (evalA f)) (hi.map (evalA f)) (evalA f x) := by
 unfold tss
 split
 ·rename_i s hx
  unfold tss2
  split
  ·rename_i l h ht hl hh
   split
   ·rename_i hb
    have hr := slice_run ht hl hh hb.1 hb.2
    have fl : ∀ (o : Option Operand) (d m : Nat), sbnd d (o.map (evalA f)) = some m → ∀ y ∈ o.toList, flat (evalA f y) = true := by
     intro o d m ho y hy
     cases o with
     | none => simp at hy
     | some z =>
      simp at hy; subst hy
      simp only [Option.map_some] at ho
      cases hv : evalA f y <;> rw [hv] at ho <;> first | rfl | (simp [sbnd] at ho)
    simp only [aop, hx]
    unfold aflat
    have hf : opFlat (evalA f) ⟨d, .slice t x lo hi none, ty, p, af, gd⟩ = true := by
     unfold opFlat
     rw [Array.all_eq_true']
     intro y hy
     simp only [Op.operands, Array.mem_append, Option.mem_toArray] at hy
     rcases hy with ((hy | hy) | hy) | hy
     ·simp at hy; subst hy; rw [hx]; rfl
     ·exact fl lo _ _ hl y (by simpa using hy)
     ·exact fl hi _ _ hh y (by simpa using hy)
     ·cases hy
    rw [if_pos hf]
    have he : pureRun P (execOp (evalA f) ⟨d, .slice t x lo hi none, ty, p, af, gd⟩) = some (.value (.string (s.extract l h))) := by
     simp only [execOp, hx]
     exact (pureRun_bind _ _ hr).trans rfl
    rw [he]; rfl
   ·rfl
  ·rfl
 ·rfl
def tan (alt : Option Res) : Value → Value → Option Res
 | .int k a, .int k' b => if k = k' then some { v := .int k (k.wrap (BitVec.ofInt k.bits a &&& ~~~ BitVec.ofInt k.bits b).toNat) } else alt
 | _, _ => alt
theorem aop_andnot {P : Program} {f : Fr} {n : Nat} {H : Heap} {d : Option Nat} {t u : TypeId} {x y : Operand} {ty : TypeId} {p : String} {af : Array Edge} {gd : Option (Nat × Bool)} :
  aop P (evalA f) n H ⟨d, .binOp .andNot t x y u, ty, p, af, gd⟩ = tan (aopK P (evalA f) n H ⟨d, .binOp .andNot t x y u, ty, p, af, gd⟩) (evalA f x) (evalA f y) := by
 unfold tan
 split
 ·rename_i k a k' b e1 e2
  split
  ·rename_i hk
   subst hk
   have h0 : aeqNil P t (evalA f x) (evalA f y) = none := by
    unfold aeqNil; rw [e1, e2]; split <;> first | rfl | simp_all
   have h2 : anan P .andNot t (evalA f x) (evalA f y) = none := by rw [e1, e2]; exact anan_int
   unfold aop
   simp only [h0, h2]
   refine flat_op (by simp [opFlat, Op.operands, e1, e2, flat, flat1]) ?_ (by simp [flat, flat1])
   simp [execOp, eqGuard, binOp, Op.intBits, pureRun, bind, Sem.bind, pure, e1, e2]
  ·rfl
 ·rfl
theorem andnot_u64 (a b : Nat) (ha : a < 18446744073709551616) (hb : b < 18446744073709551616) :
  IntKind.u64.wrap ((BitVec.ofInt IntKind.u64.bits (a : Int) &&& ~~~ BitVec.ofInt IntKind.u64.bits (b : Int)).toNat : Int) = ((a &&& (18446744073709551615 - b) : Nat) : Int) := by
 have e : (BitVec.ofInt IntKind.u64.bits (a : Int) &&& ~~~ BitVec.ofInt IntKind.u64.bits (b : Int)).toNat = a &&& (18446744073709551615 - b) := by
  show (BitVec.ofInt 64 (a : Int) &&& ~~~ BitVec.ofInt 64 (b : Int)).toNat = _
  rw [BitVec.toNat_and, BitVec.toNat_not, ofInt_toNat 64 a ha, ofInt_toNat 64 b hb]
 rw [e, wrap_u64n, Nat.mod_eq_of_lt (Nat.lt_of_le_of_lt Nat.and_le_left ha)]
end Go.AM
namespace Go.AM.Fo
theorem low_bits (a : Int) : ∃ j : Nat, j ≤ 255 ∧ IntKind.i64.wrap ((BitVec.ofInt IntKind.i64.bits a &&& BitVec.ofInt IntKind.i64.bits 255).toNat : Int) = (j : Int) := by
 have h : (BitVec.ofInt 64 a &&& BitVec.ofInt 64 255).toNat ≤ 255 := by
  rw [BitVec.toNat_and]
  have : (BitVec.ofInt 64 255).toNat = 255 := by decide
  rw [this]
  exact Nat.and_le_right
 refine ⟨(BitVec.ofInt 64 a &&& BitVec.ofInt 64 255).toNat, h, ?_⟩
 show IntKind.i64.wrap (((BitVec.ofInt 64 a &&& BitVec.ofInt 64 255).toNat : Nat) : Int) = _
 rw [wrap_in (by omega) (by omega)]
theorem rest_nat (j l : Nat) : ((j : Int).tmod (l : Int)) = ((j % l : Nat) : Int) := rfl
def lessG (g : Gram) (k : Nat) : Gram := ⟨g.terms, g.vars, g.rules.take k ++ g.rules.drop (k + 1)⟩
def up (k : Nat) (r : Int) : Int := if (k : Int) ≤ r then r + 1 else r
variable {g : Gram} {k : Nat}
def upN (k i : Nat) : Nat := if k ≤ i then i + 1 else i
theorem less_get (hk : k < g.rules.length) {i : Nat} : (lessG g k).rules[i]? = g.rules[upN k i]? := by
 unfold lessG upN
 simp only
 by_cases h : k ≤ i
 ·rw [if_pos h, List.getElem?_append_right (by rw [List.length_take]; omega), List.getElem?_drop, List.length_take, Nat.min_eq_left (by omega)]
  congr 1; omega
 ·rw [if_neg h, List.getElem?_append_left (by rw [List.length_take]; omega), List.getElem?_take]
  rw [if_pos (by omega)]
theorem less_len (hk : k < g.rules.length) : (lessG g k).rules.length + 1 = g.rules.length := by
 unfold lessG
 rw [List.length_append, List.length_take, List.length_drop]
 omega
end Go.AM.Fo
namespace Go.AM
open Go.RowKit Ieee
theorem read_number {x : Nat} {s : Bool} {m : Nat} {e : Int} (h : Format.read double x = .number s m e) (hx : x < 2 ^ 64) :
  x = (if s then 2 ^ 63 else 0) + x % 2 ^ 63 ∧ ((x % 2 ^ 63 = m ∧ m < 2 ^ 52 ∧ e = -1074) ∨ ∃ k : Nat, e = -1074 + (k : Int) ∧ 2 ^ 52 ≤ m ∧ m < 2 ^ 53 ∧ x % 2 ^ 63 = k * 2 ^ 52 + m) := by
 have hsw : Format.signWeight double = 2 ^ 63 := rfl
 have hb : Format.binade double = 2 ^ 52 := rfl
 have hl : Format.leastPlace double = -1074 := rfl
 unfold Format.read at h
 simp only [hsw, hb, hl] at h
 have hs : ∀ {s : Bool}, (x / 2 ^ 63 % 2 == 1) = s → x = (if s then 2 ^ 63 else 0) + x % 2 ^ 63 := fun {s} e => by
  cases s with
  | true =>
   have : x / 2 ^ 63 % 2 = 1 := by simpa using e
   rw [if_pos rfl]; omega
  | false =>
   have : ¬ x / 2 ^ 63 % 2 = 1 := by simpa using e
   rw [if_neg (by simp)]; omega
 split at h
 ·rename_i h1
  cases h
  exact ⟨hs rfl, .inl ⟨rfl, h1, rfl⟩⟩
 ·rename_i h1
  split at h
  ·cases h
   refine ⟨hs rfl, .inr ⟨x % 2 ^ 63 / 2 ^ 52 - 1, rfl, by omega, by omega, by omega⟩⟩
  ·split at h <;> cases h
theorem same_parts {m n : Nat} {e j : Int} (hm : (m < 2 ^ 52 ∧ e = -1074) ∨ (2 ^ 52 ≤ m ∧ m < 2 ^ 53 ∧ -1074 ≤ e)) (hn : (n < 2 ^ 52 ∧ j = -1074) ∨ (2 ^ 52 ≤ n ∧ n < 2 ^ 53 ∧ -1074 ≤ j)) (h : m * 2 ^ (e - min e j).toNat = n * 2 ^ (j - min e j).toNat) : m = n ∧ e = j := by
 have key : ∀ {m n : Nat} {e j : Int}, ((m < 2 ^ 52 ∧ e = -1074) ∨ (2 ^ 52 ≤ m ∧ m < 2 ^ 53 ∧ -1074 ≤ e)) → ((n < 2 ^ 52 ∧ j = -1074) ∨ (2 ^ 52 ≤ n ∧ n < 2 ^ 53 ∧ -1074 ≤ j)) → e < j → m * 2 ^ (e - min e j).toNat = n * 2 ^ (j - min e j).toNat → False := by
  intro m n e j hm hn hlt h
  rw [Int.min_eq_left (by omega), show (e - e).toNat = 0 by omega, Nat.pow_zero, Nat.mul_one] at h
  have hn' : 2 ^ 52 ≤ n := by rcases hn with hn | hn <;> omega
  have h2 : 2 ^ 1 ≤ 2 ^ (j - e).toNat := Nat.pow_le_pow_right (by omega) (by omega)
  have h3 : 2 ^ 52 * 2 ^ 1 ≤ n * 2 ^ (j - e).toNat := Nat.mul_le_mul hn' h2
  rcases hm with hm | hm <;> omega
 rcases Int.lt_trichotomy e j with hlt | rfl | hlt
 ·exact (key hm hn hlt h).elim
 ·refine ⟨?_, rfl⟩
  rw [Int.min_self, show (e - e).toNat = 0 by omega] at h
  omega
 ·refine (key hn hm hlt ?_).elim
  rw [Int.min_comm]
  exact h.symm
theorem order_eq {x y : Nat} (hx : x < 2 ^ 64) (hy : y < 2 ^ 64) (h : Format.order double x y = some .eq) : x = y ∨ ((x = 0 ∨ x = 2 ^ 63) ∧ (y = 0 ∨ y = 2 ^ 63)) := by
 unfold Format.order at h
 cases hrx : Format.read double x with
 | nan s t => rw [hrx] at h; simp [Datum.order] at h
 | infinity s =>
  rw [hrx] at h
  cases hry : Format.read double y with
  | nan s t => rw [hry] at h; simp [Datum.order] at h
  | infinity t =>
   have hinf : ∀ {z : Nat} {s : Bool}, z < 2 ^ 64 → Format.read double z = .infinity s → z = (if s then 2 ^ 63 else 0) + 2047 * 2 ^ 52 := by
    intro z s hz hr
    have hsw : Format.signWeight double = 2 ^ 63 := rfl
    have hi : Format.infRung double = 2047 * 2 ^ 52 := rfl
    have hb : Format.binade double = 2 ^ 52 := rfl
    unfold Format.read at hr
    simp only [hsw, hi, hb] at hr
    split at hr
    ·cases hr
    ·split at hr
     ·cases hr
     ·split at hr
      ·rename_i h3
       simp only [Datum.infinity.injEq] at hr
       cases s with
       | true =>
        have : z / 2 ^ 63 % 2 = 1 := by simpa using hr
        rw [if_pos rfl]; omega
       | false =>
        have : ¬ z / 2 ^ 63 % 2 = 1 := by simpa using hr
        rw [if_neg (by simp)]; omega
      ·cases hr
   rw [hry] at h
   left
   have hst : s = t := by
    cases s <;> cases t <;> simp [Datum.order, compare, compareOfLessAndEq] at h <;> rfl
   rw [hinf hx hrx, hinf hy hry, hst]
  | number t n j => rw [hry] at h; cases s <;> simp [Datum.order] at h
 | number s m e =>
  rw [hrx] at h
  cases hry : Format.read double y with
  | nan t u => rw [hry] at h; simp [Datum.order] at h
  | infinity t => rw [hry] at h; cases t <;> simp [Datum.order] at h
  | number t n j =>
   rw [hry] at h
   obtain ⟨ex, px⟩ := read_number hrx hx
   obtain ⟨ey, py⟩ := read_number hry hy
   have hm : (m < 2 ^ 52 ∧ e = -1074) ∨ (2 ^ 52 ≤ m ∧ m < 2 ^ 53 ∧ -1074 ≤ e) := by
    rcases px with ⟨_, a, b⟩ | ⟨k, a, b, c, _⟩
    ·exact .inl ⟨a, b⟩
    ·exact .inr ⟨b, c, by omega⟩
   have hn : (n < 2 ^ 52 ∧ j = -1074) ∨ (2 ^ 52 ≤ n ∧ n < 2 ^ 53 ∧ -1074 ≤ j) := by
    rcases py with ⟨_, a, b⟩ | ⟨k, a, b, c, _⟩
    ·exact .inl ⟨a, b⟩
    ·exact .inr ⟨b, c, by omega⟩
   have heq : signed s m (e - min e j).toNat = signed t n (j - min e j).toNat := by
    simp only [Datum.order, Option.some.injEq, compare, compareOfLessAndEq] at h
    split at h
    ·cases h
    ·split at h
     ·assumption
     ·cases h
   have rung : ∀ {z : Nat} {m k' : Nat} {e : Int}, m = 0 → ((z % 2 ^ 63 = m ∧ m < 2 ^ 52 ∧ e = -1074) ∨ ∃ k : Nat, e = -1074 + (k : Int) ∧ 2 ^ 52 ≤ m ∧ m < 2 ^ 53 ∧ z % 2 ^ 63 = k * 2 ^ 52 + m) → z % 2 ^ 63 = 0 := by
    intro z m k' e h0 h
    rcases h with ⟨a, _⟩ | ⟨k, _, b, _⟩ <;> omega
   unfold signed at heq
   simp only [Nat.shiftLeft_eq] at heq
   have hpm : m = 0 ∨ 0 < m * 2 ^ (e - min e j).toNat := by
    rcases Nat.eq_zero_or_pos m with h | h
    ·exact .inl h
    ·exact .inr (Nat.mul_pos h (Nat.two_pow_pos _))
   have hpn : n = 0 ∨ 0 < n * 2 ^ (j - min e j).toNat := by
    rcases Nat.eq_zero_or_pos n with h | h
    ·exact .inl h
    ·exact .inr (Nat.mul_pos h (Nat.two_pow_pos _))
   have z0 : m = 0 → n = 0 → (x = 0 ∨ x = 2 ^ 63) ∧ (y = 0 ∨ y = 2 ^ 63) := fun h1 h2 => by
    have a := rung (k' := 0) h1 px
    have b := rung (k' := 0) h2 py
    cases s <;> cases t <;> simp only [if_true, Bool.false_eq_true, if_false] at ex ey <;> omega
   by_cases hst : s = t
   ·subst hst
    have hmn : m * 2 ^ (e - min e j).toNat = n * 2 ^ (j - min e j).toNat := by
     cases s <;> simp only [if_true, Bool.false_eq_true, if_false] at heq <;> omega
    obtain ⟨rfl, rfl⟩ := same_parts hm hn hmn
    left
    have hr : x % 2 ^ 63 = y % 2 ^ 63 := by
     rcases px with ⟨a, b, c⟩ | ⟨k, a, b, c, d⟩ <;> rcases py with ⟨a', b', c'⟩ | ⟨k', a', b', c', d'⟩
     ·omega
     ·omega
     ·omega
     ·have : k = k' := by omega
      subst this
      omega
    rw [ex, ey, hr]
   ·right
    have hz : m = 0 ∧ n = 0 := by
     cases s <;> cases t <;> first | (exact absurd rfl hst) | (simp only [if_true, Bool.false_eq_true, if_false] at heq; rcases hpm with h1 | h1 <;> rcases hpn with h2 | h2 <;> (try omega))
     all_goals (first | (subst h1; simp at heq; omega) | (subst h2; simp at heq; omega) | omega)
    exact z0 hz.1 hz.2
end Go.AM
namespace Go.AM
open Fo
variable {g : Gram} {k : Nat}
theorem less_at (hk : k < g.rules.length) {i : Nat} (h : i < (lessG g k).rules.length) : ∃ h2 : upN k i < g.rules.length, (lessG g k).rules[i] = g.rules[upN k i] := by
 have hl := less_len hk
 have h2 : upN k i < g.rules.length := by unfold upN; split <;> omega
 refine ⟨h2, ?_⟩
 have e := less_get hk (i := i)
 rw [List.getElem?_eq_getElem h, List.getElem?_eq_getElem h2] at e
 exact Option.some.inj e
theorem prd_less (hk : k < g.rules.length) {v : Int} (h : Prd (lessG g k) v) : Prd g v := by
 induction h with
 | mk i h _ ih =>
  obtain ⟨h2, e⟩ := less_at hk h
  rw [e]
  exact .mk _ h2 fun s hs h0 => ih s (by rw [e]; exact hs) h0
theorem nul_less (hk : k < g.rules.length) {v : Int} (h : Nul (lessG g k) v) : Nul g v := by
 induction h with
 | mk i h h0 _ ih =>
  obtain ⟨h2, e⟩ := less_at hk h
  rw [e]
  exact .mk _ h2 (fun s hs => h0 s (by rw [e]; exact hs)) fun s hs => ih s (by rw [e]; exact hs)
theorem wd_less (hk : k < g.rules.length) {l : List Int} {n : Nat} (h : WdL (lessG g k) l n) : WdL g l n := by
 induction h with
 | nil => exact .nil
 | term h _ ih => exact .term h ih
 | @var i h rest a b _ _ ih1 ih2 =>
  obtain ⟨h2, e⟩ := less_at hk h
  rw [e] at ih1 ⊢
  exact .var h2 ih1 ih2
theorem cost_less (hk : k < g.rules.length) {c c' : Nat → Nat} {b b' : Nat → Int} (h : CostOK (lessG g k) c b) (h' : CostOK g c' b') {v : Nat} (hv : v < g.vars.length) : c' v ≤ c v := by
 obtain ⟨ord, hr, hall⟩ := h.ranked
 have hcap := h'.cap v hv
 rcases hall v hv with h1 | ⟨_, h1, _⟩
 ·rcases h'.least v _ hv (wd_less hk (hr.wd v h1)) with h3 | ⟨h3, h4⟩ <;> omega
 ·omega
theorem nul_wd {v : Int} (h : Nul g v) : WdL g [v] 0 := by
 induction h with
 | mk i h _ _ ih =>
  have key : ∀ l : List Int, (∀ s ∈ l, WdL g [s] 0) → WdL g l 0 := by
   intro l
   induction l with
   | nil => intro _; exact .nil
   | cons s l ih2 =>
    intro hl
    have h1 := hl s (by simp)
    have h2 := ih2 fun t ht => hl t (by simp [ht])
    generalize hq : [s] = q at h1
    generalize hz : 0 = z at h1
    cases h1 with
    | nil => cases hq
    | term h k => omega
    | @var i h rest a b x k =>
     cases hq
     obtain ⟨rfl, rfl⟩ : a = 0 ∧ b = 0 := by omega
     exact WdL.var h x h2
  exact WdL.var h (key _ ih) .nil
theorem cost_prd {c : Nat → Nat} {b : Nat → Int} (h : CostOK g c b) {v : Nat} (hv : v < g.vars.length) (hc : c v < farN) : Prd g v := by
 obtain ⟨ord, hr, hall⟩ := h.ranked
 rcases hall v hv with h1 | ⟨_, h1, _⟩
 ·exact (hr.wd v h1).prd v (by simp) (by omega)
 ·omega
theorem cost_nul (hg : InG g) {c : Nat → Nat} {b : Nat → Int} (h : CostOK g c b) {v : Nat} (hv : v < g.vars.length) : c v = 0 ↔ Nul g v := by
 have hfar : farN = 1073741824 := rfl
 constructor
 ·intro h0
  obtain ⟨ord, hr, hall⟩ := h.ranked
  rcases hall v hv with h1 | ⟨_, h1, _⟩
  ·exact ((hr.wd v h1).nul h0 hg.left0 v (by simp)).2
  ·omega
 ·intro hn
  rcases h.least v 0 hv (nul_wd hn) with h1 | ⟨h1, _⟩ <;> omega
end Go.AM
