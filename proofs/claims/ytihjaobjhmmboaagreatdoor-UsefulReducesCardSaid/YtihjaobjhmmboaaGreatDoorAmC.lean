/- A part of a proof. Its conditions: none. -/
import Derived.Test.YtihjaobjhmmboaaGreatDoorAmE
import Derived.ProofKit
import Derived.Deep.Slices
import Derived.Carry
import Derived.Lib.LaidTab
import Derived.ChangeSame
import Derived.LaidOnce
import Derived.Lay
import Derived.Deep.DeepHandedRow
import Derived.Test.YtihjaobjhmmboaaGreatDoorAmD
set_option linter.all false
namespace Go.AM
open Go.RowKit
inductive AR (P : Program) (H : Heap) : TypeId → List Value → Prop where
  | bool (t : TypeId) (b : Bool) (ht : P.underlying t = some .bool) : AR P H t [.bool b]
  | int (t : TypeId) (k : IntKind) (n : Int) (ht : P.underlying t = some (.int k)) (hw : (Lit.int k n).wf = true) : AR P H t [.int k n]
  | float (t : TypeId) (k : FloatKind) (b : Nat) (ht : P.underlying t = some (.float k)) (hw : (Lit.float k b).wf = true) : AR P H t [.float k b]
  | string (t : TypeId) (s : ByteArray) (ht : P.underlying t = some .string) (hs : s.size ≤ maxLen) : AR P H t [.string s]
  | nil (t e : TypeId) (ht : P.underlying t = some (.slice e)) : AR P H t [.slice none 0 0]
  | slice (t e : TypeId) (x m : Nat) (cs : List Value) (ht : P.underlying t = some (.slice e)) (hx : H x = .cells cs e false) (hl : cs.length = m * P.cellsOf e) (hm : m ≤ maxLen)
      (he : ∀ i, i < m → AR P H e ((cs.drop (i * P.cellsOf e)).take (P.cellsOf e))) : AR P H t [.slice (some ⟨x, 0, none⟩) m m]
  | struct (t : TypeId) (fs : Array Field) (cs : List Value) (ht : P.underlying t = some (.struct fs)) (hl : cs.length = P.cellsOf t)
      (hf : ∀ (i : Nat) (f : Field), fs[i]? = some f → AR P H f.type ((cs.drop f.offset).take (P.cellsOf f.type))) : AR P H t cs
theorem AR.mono {P : Program} {H H' : Heap} {t : TypeId} {cs : List Value} (h : AR P H t cs) (hle : ∀ x, H x ≠ .dead → H' x = H x) : AR P H' t cs := by
 induction h with
 | bool t b ht => exact .bool t b ht
 | int t k n ht hw => exact .int t k n ht hw
 | float t k b ht hw => exact .float t k b ht hw
 | string t s ht hs => exact .string t s ht hs
 | nil t e ht => exact .nil t e ht
 | slice t e x m cs ht hx hl hm _ ih => exact .slice t e x m cs ht (by rw [hle x (by rw [hx]; intro e; cases e), hx]) hl hm ih
 | struct t fs cs ht hl _ ih => exact .struct t fs cs ht hl ih
def lined (P : Program) : Nat → List Field → Nat → Bool
 | at_, [], stop => at_ == stop
 | at_, f :: fs, stop => f.offset == at_ && lined P (at_ + P.cellsOf f.type) fs stop
def plainT (P : Program) : Nat → TypeId → Bool
 | 0, _ => false
 | d + 1, t => match P.underlying t with
  | some .bool | some (.int _) | some (.float _) | some .string => P.cellsOf t == 1
  | some (.slice e) => P.cellsOf t == 1 && decide (P.cellsOf e ≠ 0) && plainT P d e
  | some (.struct fs) => lined P 0 fs.toList (P.cellsOf t) && fs.toList.all fun f => plainT P d f.type
  | _ => false
structure Sofar (P : Program) (w : World) (ι : Inj) (C : Heap) (n : Nat) : Prop where
 hr : HR P w.heap.size ι C w
 free : ∀ x, n ≤ x → ι x = none
 wf : WF n C
 ro : ∀ x t, ι x = some t → t.own = false
 pos : 0 < w.heap.size
structure More (ι : Inj) (C : Heap) (n : Nat) (κ : Inj) (C' : Heap) (n' : Nat) : Prop where
 le : Inj.le ι κ
 heap : ∀ x, C x ≠ .dead → C' x = C x
 n : n ≤ n'
theorem More.refl (ι : Inj) (C : Heap) (n : Nat) : More ι C n ι C n := ⟨Inj.le_refl ι, fun _ _ => rfl, Nat.le_refl _⟩
theorem More.trans {ι κ μ : Inj} {C C1 C2 : Heap} {n n1 n2 : Nat} (a : More ι C n κ C1 n1) (b : More κ C1 n1 μ C2 n2) : More ι C n μ C2 n2 :=
 ⟨Inj.le_trans a.le b.le, fun x h => by rw [b.heap x (by rw [a.heap x h]; exact h), a.heap x h], Nat.le_trans a.n b.n⟩
section
variable {P : Program} {w : World}
theorem Sofar.addRO {ι : Inj} {C : Heap} {n : Nat} (h : Sofar P w ι C n) {cs : List Value} {e : TypeId} {b o : Nat} (hb : b < w.heap.size)
  (hc : ∀ (i : Nat) (v : Value), cs[i]? = some v → ∃ v', w.cell? ⟨b, o + i, none⟩ = some v' ∧ VR ι v v' ∧ one v = true) :
  Sofar P w (iset ι n ⟨b, o, false, 0, 0⟩) (hset C n (.cells cs e false)) (n + 1) ∧ More ι C n (iset ι n ⟨b, o, false, 0, 0⟩) (hset C n (.cells cs e false)) (n + 1) := by
 have hn := h.free n (Nat.le_refl _)
 have hle := iset_le (ι := ι) ⟨b, o, false, 0, 0⟩ hn
 refine ⟨⟨⟨fun x => ?_, fun x y t u hx hy ex ey ho hbl => ?_, fun x t e => ?_, Nat.le_refl _, fun g hg => hle g _ (h.hr.gl g hg), fun x y t u cs' ty b ds ty' hx hy ex ey hbl => ?_⟩, fun x hx => ?_, fun x hx => ?_, fun x t e => ?_, h.pos⟩, ⟨hle, fun x hx => ?_, Nat.le_succ n⟩⟩
 ·rw [hset_apply]; split
  ·rename_i e; subst e
   refine ⟨_, iset_same _ _ _, rfl, fun i v e => ?_, fun e => by cases e⟩
   obtain ⟨v', h1, h2, h3⟩ := hc i v e
   exact ⟨v', h1, h2.mono hle, h3⟩
  ·exact (h.hr.obj x).carry hle fun _ _ => rfl
 ·exfalso
  by_cases e : x = n
  ·subst e; rw [iset_same] at ex; cases ex; cases ho
  ·rw [iset_other _ _ e] at ex
   rw [h.ro x t ex] at ho; cases ho
 ·by_cases e1 : x = n
  ·subst e1; rw [iset_same] at e; cases e; exact ⟨hb, (fun k => by cases k), fun _ => hb⟩
  ·rw [iset_other _ _ e1] at e; exact h.hr.rng x t e
 ·by_cases e1 : x = n
  ·subst e1; rw [hset_same] at hx; cases hx
  ·by_cases e2 : y = n
   ·subst e2; rw [hset_same] at hy; cases hy
   ·rw [hset_other _ _ e1] at hx
    rw [hset_other _ _ e2] at hy
    rw [iset_other _ _ e1] at ex
    rw [iset_other _ _ e2] at ey
    exact h.hr.last x y t u cs' ty b ds ty' hx hy ex ey hbl
 ·rw [iset_other _ _ (by omega)]; exact h.free x (by omega)
 ·rw [hset_other _ _ (by omega)]; exact h.wf x (by omega)
 ·by_cases e1 : x = n
  ·subst e1; rw [iset_same] at e; cases e; rfl
  ·rw [iset_other _ _ e1] at e; exact h.ro x t e
 ·by_cases e : x = n
  ·subst e; exact absurd (h.wf x (Nat.le_refl _)) hx
  ·exact hset_other _ _ e
theorem cells?_spec {base : Nat} {a : Addr} {m : Nat} {cs : List Value} (h : w.cells? base a m = some cs) : cs.length = m ∧ ∀ i, i < m → w.cell? (a.add i) = cs[i]? := by
 obtain ⟨_, h1, h2⟩ := World.cells?_some h
 exact ⟨h1, h2⟩
variable {H : Type} {enc : TypeId × Value → H}
def Opened (P : Program) (w : World) (ι : Inj) (C : Heap) (n : Nat) (t : TypeId) (cs : List Value) : Prop :=
 ∃ acs κ C' n', Sofar P w κ C' n' ∧ More ι C n κ C' n' ∧ VRs κ acs cs ∧ AR P C' t acs ∧ acs.length = P.cellsOf t ∧ acs.all one = true
theorem opened_flat {ι : Inj} {C : Heap} {n : Nat} {t : TypeId} {v : Value} (h : Sofar P w ι C n) (hf : still1 v = true) (hr : VR ι v v) (ha : AR P C t [v]) (hc : (P.cellsOf t == 1) = true) : Opened P w ι C n t [v] := by
 refine ⟨[v], ι, C, n, h, More.refl _ _ _, .cons hr (.nil ι), ha, ?_, by simp [still1_one hf]⟩
 have : P.cellsOf t = 1 := by simpa using hc
 simp [this]
theorem open_elems {e : TypeId} {a : Addr} {f : TypeId → List Value → Prop} {len : Nat} (hop : ∀ cs, f e cs → ∀ ι C n, Sofar P w ι C n → Opened P w ι C n e cs)
  (he : ∀ i, i < len → ∃ cs, w.cells? 0 (a.add (i * P.cellsOf e)) (P.cellsOf e) = some cs ∧ f e cs) : ∀ m, m ≤ len → ∀ ι C n, Sofar P w ι C n →
  ∃ (acs : List Value) (κ : Inj) (C' : Heap) (n' : Nat), Sofar P w κ C' n' ∧ More ι C n κ C' n' ∧ acs.length = m * P.cellsOf e ∧ (∀ i, i < m → AR P C' e ((acs.drop (i * P.cellsOf e)).take (P.cellsOf e))) ∧
   ∀ (i : Nat) (v : Value), acs[i]? = some v → ∃ v', w.cell? (a.add i) = some v' ∧ VR κ v v' ∧ one v = true := by
 intro m
 induction m with
 | zero => intro _ ι C n h; exact ⟨[], ι, C, n, h, More.refl _ _ _, by simp, fun i hi => by omega, fun i v e => by simp at e⟩
 | succ m ih =>
  intro hm ι C n h
  obtain ⟨acs, κ, C', n', h1, h2, h3, h4, h5⟩ := ih (by omega) ι C n h
  obtain ⟨cs, hcs, hf⟩ := he m (by omega)
  obtain ⟨bcs, μ, C'', n'', g1, g2, g3, g4, g5, g6⟩ := hop cs hf κ C' n' h1
  obtain ⟨hlen, hcell⟩ := cells?_spec hcs
  refine ⟨acs ++ bcs, μ, C'', n'', g1, h2.trans g2, by rw [List.length_append, h3, g5, Nat.succ_mul], fun i hi => ?_, fun i v hq => ?_⟩
  ·by_cases him : i < m
   ·have hle : i * P.cellsOf e + P.cellsOf e ≤ m * P.cellsOf e := by rw [← Nat.succ_mul]; exact Nat.mul_le_mul_right _ him
    rw [List.drop_append_of_le_length (by omega), List.take_append_of_le_length (by simp; omega)]
    exact (h4 i him).mono g2.heap
   ·have : i = m := by omega
    subst this
    rw [← h3, List.drop_left, List.take_of_length_le (by omega)]
    exact g4
  ·by_cases hia : i < acs.length
   ·rw [List.getElem?_append_left hia] at hq
    obtain ⟨v', e1, e2, e3⟩ := h5 i v hq
    exact ⟨v', e1, e2.mono g2.le, e3⟩
   ·rw [List.getElem?_append_right (by omega)] at hq
    obtain ⟨v', e1, e2⟩ := g3.get hq
    refine ⟨v', ?_, e2, List.all_eq_true.1 g6 v (List.mem_of_getElem? hq)⟩
    have hi' : i - acs.length < bcs.length := by
     rcases Nat.lt_or_ge (i - acs.length) bcs.length with g | g
     ·exact g
     ·rw [List.getElem?_eq_none g] at hq; cases hq
    have := hcell (i - acs.length) (by omega)
    rw [Go.Deep.add_add, ← h3, show acs.length + (i - acs.length) = i by omega] at this
    rw [this]; exact e1
theorem open_fields {f : TypeId → List Value → Prop} {cs : List Value} : ∀ (fs : List Field) (at_ stop : Nat), lined P at_ fs stop = true → stop ≤ cs.length →
    (∀ g ∈ fs, ∀ cs', f g.type cs' → ∀ ι C n, Sofar P w ι C n → Opened P w ι C n g.type cs') → (∀ g ∈ fs, f g.type ((cs.drop g.offset).take (P.cellsOf g.type))) → ∀ ι C n, Sofar P w ι C n →
    ∃ acs κ C' n', Sofar P w κ C' n' ∧ More ι C n κ C' n' ∧ VRs κ acs ((cs.drop at_).take (stop - at_)) ∧ acs.all one = true ∧ acs.length = stop - at_ ∧ at_ ≤ stop ∧
      ∀ g ∈ fs, at_ ≤ g.offset ∧ AR P C' g.type ((acs.drop (g.offset - at_)).take (P.cellsOf g.type)) := by
  intro fs
  induction fs with
  | nil =>
    intro at_ stop hl _ _ _ ι C n h
    have : at_ = stop := by simpa [lined] using hl
    subst this
    exact ⟨[], ι, C, n, h, More.refl _ _ _, by simpa using VRs.nil ι, rfl, by simp, Nat.le_refl _, fun g hg => by cases hg⟩
  | cons g fs ih =>
    intro at_ stop hl hst hop hf ι C n h
    simp only [lined, Bool.and_eq_true, beq_iff_eq] at hl
    obtain ⟨hoff, hl⟩ := hl
    obtain ⟨bcs, κ, C', n', g1, g2, g3, g4, g5, g6⟩ := hop g (by simp) _ (hf g (by simp)) ι C n h
    obtain ⟨acs, μ, C'', n'', h1, h2, h3, h4, h5, h6, h7⟩ := ih _ stop hl hst (fun g' hg' => hop g' (by simp [hg'])) (fun g' hg' => hf g' (by simp [hg'])) κ C' n' g1
    rw [hoff] at g3
    refine ⟨bcs ++ acs, μ, C'', n'', h1, g2.trans h2, ?_, by simp [g6, h4], by rw [List.length_append, g5, h5]; omega, by omega, fun g' hg' => ?_⟩
    · have e1 : (cs.drop at_).take (stop - at_) = (cs.drop at_).take (P.cellsOf g.type) ++ (cs.drop (at_ + P.cellsOf g.type)).take (stop - (at_ + P.cellsOf g.type)) := by
        have : stop - at_ = P.cellsOf g.type + (stop - (at_ + P.cellsOf g.type)) := by omega
        rw [this, List.take_add, List.drop_drop]
      rw [e1]
      exact (g3.mono h2.le).append h3
    · rcases List.mem_cons.1 hg' with e | e
      · subst e
        refine ⟨by omega, ?_⟩
        rw [hoff, Nat.sub_self, List.drop_zero, List.take_append_of_le_length (by omega), List.take_of_length_le (by omega)]
        exact g4.mono h2.heap
      · obtain ⟨k1, k2⟩ := h7 g' e
        refine ⟨by omega, ?_⟩
        rw [List.drop_append, List.drop_of_length_le (by omega), List.nil_append, g5, show g'.offset - at_ - P.cellsOf g.type = g'.offset - (at_ + P.cellsOf g.type) by omega]
        exact k2
theorem open_cells : ∀ (fuel d : Nat) (t : TypeId) (cs : List Value) (x : DataW H × List MemPlace), plainT P d t = true → DataW.trod enc P w 0 (fun _ => true) true fuel t cs = some x →
  ∀ ι C n, Sofar P w ι C n → Opened P w ι C n t cs := by
 intro fuel
 induction fuel with
 | zero => intro d t cs x _ h; simp [DataW.trod] at h
 | succ fuel ih =>
  intro d t cs x hp h ι C n hs
  cases d with
  | zero => simp [plainT] at hp
  | succ d =>
   simp only [plainT] at hp
   split at hp
   ·rename_i ht
    obtain ⟨b, rfl, _⟩ := DataW.trod_bool ht h
    exact opened_flat hs rfl (.bool b) (.bool t b ht) hp
   ·rename_i k ht
    obtain ⟨m, rfl, _, hw⟩ := DataW.trod_int ht h
    exact opened_flat hs rfl (.int k m) (.int t k m ht hw) hp
   ·rename_i k ht
    have : ∃ b, cs = [.float k b] ∧ (Lit.float k b).wf = true := by
     unfold DataW.trod at h
     rw [ht] at h
     split at h <;> simp_all
    obtain ⟨b, rfl, hw⟩ := this
    exact opened_flat hs rfl (.float k b) (.float t k b ht hw) hp
   ·rename_i ht
    obtain ⟨s, rfl, _, hw⟩ := DataW.trod_string ht h
    exact opened_flat hs rfl (.string s) (.string t s ht hw) hp
   ·rename_i e ht
    simp only [Bool.and_eq_true, decide_eq_true_eq] at hp
    obtain ⟨⟨hc, he0⟩, hpe⟩ := hp
    have hc' : P.cellsOf t = 1 := by simpa using hc
    rcases DataW.trod_slice ht h with ⟨rfl, _⟩ | ⟨a, len, cap, elems, rest, m, hm, rfl, _, _, hlc, hmx, hel, h1, h2, _⟩
    ·exact opened_flat hs rfl .sliceNil (.nil t e ht) hc
    ·have hmf : m = fuel := by omega
     subst hmf
     by_cases hcap : cap = 0
     ·have hl0 : len = 0 := by omega
      subst hcap hl0
      obtain ⟨k1, k2⟩ := hs.addRO (cs := []) (e := e) (b := 0) (o := 0) hs.pos (fun i v e => by simp at e)
      exact ⟨[.slice (some ⟨n, 0, none⟩) 0 0], _, _, n + 1, k1, k2, .cons (.sliceE n 0 a _ (iset_same _ _ _) rfl) (.nil _), .slice t e n 0 [] ht (hset_same _ _ _) (by simp) (Nat.zero_le _) (fun i hi => absurd hi (Nat.not_lt_zero _)), by simp [hc'], rfl⟩
     ·obtain ⟨hr1, hr2⟩ := h2 rfl
      have hsome : ∀ i, i < len → ∃ cs, w.cells? 0 (a.add (i * P.cellsOf e)) (P.cellsOf e) = some cs ∧ (∃ x, DataW.trod enc P w 0 (fun _ => true) true m e cs = some x) := by
       intro i hi
       have := h1 i hi
       rw [List.getElem?_eq_getElem (by omega)] at this
       obtain ⟨cs', e1, e2⟩ := Option.bind_eq_some_iff.1 this
       exact ⟨cs', e1, _, e2⟩
      have hfirst : ∃ cs, w.cells? 0 (a.add 0) (P.cellsOf e) = some cs := by
       by_cases hl : 0 < len
       ·obtain ⟨cs', e1, _⟩ := hsome 0 hl
        exact ⟨cs', by simpa using e1⟩
       ·have hl0 : len = 0 := by omega
        have := hr2 0 (by omega)
        rw [List.getElem?_eq_getElem (by omega)] at this
        obtain ⟨cs', e1, _⟩ := Option.bind_eq_some_iff.1 this
        exact ⟨cs', by simpa [hl0] using e1⟩
      obtain ⟨cs0, hcs0⟩ := hfirst
      obtain ⟨hl0, hcell0⟩ := cells?_spec hcs0
      have hc0 := hcell0 0 (by omega)
      rw [List.getElem?_eq_getElem (by omega)] at hc0
      have ha : a.add 0 = a := by simp [Addr.add]
      rw [ha, ha] at hc0
      have hblk : a.block < w.heap.size := World.block_lt_of_cell? w a hc0
      have hspot : a.spot = none := by
       unfold World.cell? at hc0
       cases hsp : a.spot with
       | none => rfl
       | some s => simp [hsp] at hc0; split at hc0 <;> simp at hc0
      obtain ⟨b, o, sp⟩ := a
      simp only at hspot hblk
      subst hspot
      obtain ⟨acs, κ, C', n', g1, g2, g3, g4, g5⟩ := open_elems (f := fun e cs => ∃ x, DataW.trod enc P w 0 (fun _ => true) true m e cs = some x)
       (fun cs' hx ι C n h => by obtain ⟨x, hx⟩ := hx; exact ih d e cs' x hpe hx ι C n h) hsome len (Nat.le_refl _) ι C n hs
      obtain ⟨k1, k2⟩ := g1.addRO (e := e) hblk (fun i v e => by
       obtain ⟨v', e1, e2⟩ := g5 i v e
       rw [add_lit] at e1
       exact ⟨v', e1, e2⟩)
      refine ⟨[.slice (some ⟨n', 0, none⟩) len len], _, _, n' + 1, k1, g2.trans k2, .cons ?_ (.nil _), ?_, by simp [hc'], rfl⟩
      ·exact .slice n' 0 len o cap _ (iset_same _ _ _) (fun _ => rfl) hlc hmx (fun e => by cases e)
      ·refine .slice t e n' len acs ht (hset_same _ _ _) g3 (by omega) fun i hi => (g4 i hi).mono k2.heap
   ·rename_i fs ht
    simp only [Bool.and_eq_true, List.all_eq_true] at hp
    obtain ⟨xs, m, hm, _, hlen, hxs, hf⟩ := DataW.trod_struct ht h
    have hmf : m = fuel := by omega
    subst hmf
    obtain ⟨acs, κ, C', n', g1, g2, g3, g4, g5, _, g7⟩ := open_fields (w := w) (f := fun t cs => ∃ x, DataW.trod enc P w 0 (fun _ => true) true m t cs = some x) (cs := cs) fs.toList 0 (P.cellsOf t) hp.1 (by omega)
     (fun g hg cs' hx ι C n h => by obtain ⟨x, hx⟩ := hx; exact ih d g.type cs' x (hp.2 g hg) hx ι C n h)
     (fun g hg => by
      obtain ⟨i, hi, rfl⟩ := List.getElem_of_mem hg
      have hi' : i < fs.size := by simpa using hi
      have := hf i fs[i] (Array.getElem?_eq_getElem hi')
      rw [List.getElem?_eq_getElem (by omega)] at this
      exact ⟨_, by simpa using this⟩) ι C n hs
    refine ⟨acs, κ, C', n', g1, g2, ?_, ?_, by omega, g4⟩
    ·simpa [List.take_of_length_le (Nat.le_of_eq hlen)] using g3
    ·refine .struct t fs acs ht (by omega) fun i f hi => ?_
     have hmem : f ∈ fs.toList := by have := Array.mem_of_getElem? hi; simpa using this
     have := (g7 f hmem).2
     simpa using this
   ·cases hp
end
end Go.AM
namespace Go.AM
open Go.RowKit Go.ChangeShapes Go.WideShapes Go.ChangeAt
section
variable {P : Program} {H : Type} {enc : TypeId × Value → H}
def ARV (P : Program) (H : Heap) (t : TypeId) (v : Value) : Prop := AR P H t (vcells v) ∧ (aggT P t = some true → ∃ cs, v = .agg cs) ∧ (aggT P t = some false → one v = true)
inductive ARs (P : Program) (H : Heap) : List TypeId → List Value → Prop where
 | nil : ARs P H [] []
 | cons {t : TypeId} {v : Value} {ts : List TypeId} {vs : List Value} (h : ARV P H t v) (k : ARs P H ts vs) : ARs P H (t :: ts) (v :: vs)
theorem ARV.mono {H H' : Heap} {t : TypeId} {v : Value} (h : ARV P H t v) (hle : ∀ x, H x ≠ .dead → H' x = H x) : ARV P H' t v := ⟨h.1.mono hle, h.2⟩
theorem one_of_ok {t : TypeId} {W : World} {base d : Nat} {v : Value} (hp : plainT P d t = true) (ha : aggT P t = some false) (h : Value.okWide P W .any base t v) : v.oneCell' = true := by
 cases d with
 | zero => simp [plainT] at hp
 | succ d =>
  unfold aggT at ha
  simp only [plainT] at hp
  unfold Value.okWide at h
  unfold Cell.okWide Cell.ok at h
  split at hp <;> rename_i ht <;> (try rw [ht] at ha) <;> (try rw [ht] at h) <;> (first | (cases ha; done) | (cases hp; done) | skip) <;>
   (cases v <;> first | rfl | (simp at h) | (simp at hp))
theorem open_args : ∀ (ts : List TypeId) (vs : List Value) (ds : List (DataW H)) (ps : List MemPlace) (W : World) (base d : Nat), (∀ t ∈ ts, plainT P d t = true) →
  (∀ (j : Nat) t v, ts[j]? = some t → vs[j]? = some v → Value.okWide P W .any base t v) → DataW.TrodAll enc P W 0 (fun _ => true) true ts vs ds ps →
  ∀ ι C n, Sofar P W ι C n → ∃ avs κ C' n', Sofar P W κ C' n' ∧ More ι C n κ C' n' ∧ VRs κ avs vs ∧ ARs P C' ts avs := by
 intro ts
 induction ts with
 | nil =>
  intro vs ds ps W base d _ _ h ι C n hs
  obtain ⟨rfl, _, _⟩ := trodAll_nil h
  exact ⟨[], ι, C, n, hs, More.refl _ _ _, .nil ι, .nil⟩
 | cons t ts ih =>
  intro vs ds ps W base d hp hok h ι C n hs
  obtain ⟨v, vs1, d1, ds1, a, b, rfl, rfl, rfl, h1, h2⟩ := trodAll_cons h
  obtain ⟨fuel, h1⟩ := h1
  obtain ⟨acs, κ, C1, n1, g1, g2, g3, g4, g5, g6⟩ := open_cells fuel d t _ _ (hp t (by simp)) h1 ι C n hs
  obtain ⟨avs, μ, C2, n2, k1, k2, k3, k4⟩ := ih vs1 ds1 b W base d (fun t' ht' => hp t' (by simp [ht'])) (fun j t' v' e1 e2 => hok (j + 1) t' v' (by simpa using e1) (by simpa using e2)) h2 κ C1 n1 g1
  have hov := hok 0 t v rfl rfl
  have hagg : ∃ b, aggT P t = some b := by
   have hpt := hp t (by simp)
   cases d with
   | zero => simp [plainT] at hpt
   | succ d =>
    simp only [plainT] at hpt
    unfold aggT
    split at hpt <;> rename_i ht <;> simp [ht]
    cases hpt
  obtain ⟨b, hb⟩ := hagg
  have hval : ∃ av, VR κ av v ∧ ARV P C1 t av := by
   cases b with
   | true =>
    have hv : ∃ cs, v = .agg cs := by
     unfold aggT at hb
     unfold Value.okWide at hov
     split at hb <;> rename_i ht <;> simp only [ht] at hov <;> (try (cases hb; done))
     all_goals (obtain ⟨cs, e, _⟩ := hov; exact ⟨cs, e⟩)
    obtain ⟨cs, rfl⟩ := hv
    refine ⟨.agg acs.toArray, ?_, ?_, fun _ => ⟨_, rfl⟩, fun e => by rw [hb] at e; cases e⟩
    ·have := g3.agg; simpa [Value.cells] using this
    ·simpa [vcells, Value.cells] using g4
   | false =>
    have hv1 := one_of_ok (hp t (by simp)) hb hov
    have hc : v.cells.toList = [v] := by cases v <;> first | rfl | (simp [Value.oneCell'] at hv1)
    rw [hc] at g3
    match acs, g3 with
    | [av], g3 =>
     obtain ⟨v', k, e, r1, _⟩ := g3.cons_inv
     simp only [List.cons.injEq] at e
     obtain ⟨rfl, _⟩ := e
     have ho : one av = true := by simpa using g6
     have hvc : vcells av = [av] := by cases av <;> first | rfl | (simp [one] at ho)
     exact ⟨av, r1, by rw [hvc]; exact g4, fun e => by (rw [hb] at e; cases e), fun _ => ho⟩
    | [], g3 => simp [VRs] at g3
    | _ :: _ :: _, g3 => simp [VRs] at g3
  obtain ⟨av, r1, r2⟩ := hval
  exact ⟨av :: avs, μ, C2, n2, k1, g2.trans k2, .cons (r1.mono k2.le) k3, .cons (r2.mono k2.heap) k4⟩
theorem trodAll_stays (hl : laidOutB P = true) {W W' : World} (hb : Below W.heap.size W W') : ∀ (ts : List TypeId) (vs : List Value) (ds : List (DataW H)) (ps : List MemPlace),
  (∀ t ∈ ts, P.readableRec t = true ∧ t < P.types.size) → DataW.TrodAll enc P W 0 (fun _ => true) true ts vs ds ps → (∀ x ∈ ps, x.block < W.heap.size) →
  DataW.TrodAll enc P W' 0 (fun b => decide (b < W.heap.size)) true ts vs ds ps := by
 intro ts
 induction ts with
 | nil => intro vs ds ps _ h _; obtain ⟨rfl, rfl, rfl⟩ := trodAll_nil h; exact rfl
 | cons t ts ih =>
  intro vs ds ps ht h hp
  obtain ⟨v, vs1, d1, ds1, a, b, rfl, rfl, rfl, h1, h2⟩ := trodAll_cons h
  obtain ⟨hr, hrow⟩ := ht t (by simp)
  exact ⟨a, b, Below.trod hl hr hrow h1 hb (fun x hx => hp x (by simp [hx])), ih vs1 ds1 b (fun t' h' => ht t' (by simp [h'])) h2 (fun x hx => hp x (by simp [hx])), rfl⟩
theorem still1_of_flat1 {v : Value} (h : flat1 v = true) : still1 v = true := by
 unfold still1
 split
 ·rfl
 ·exact h
structure Globs (P : Program) (W : World) (G : Heap) : Prop where
 out : ∀ x, ngl P ≤ x → G x = .dead
 cells : ∀ x, G x ≠ .dead → ∃ cs ty, G x = .cells cs ty false ∧ cs.all flat1 = true ∧ ∀ (i : Nat) (v : Value), cs[i]? = some v → W.cell? ⟨x, i, none⟩ = some v
 there : ngl P ≤ W.heap.size
 pos : 0 < W.heap.size
def AllRO (H : Heap) : Prop := ∀ x cs ty own, H x = .cells cs ty own → own = false
def LawRuns (P : Program) (G : Heap) (F : FuncId) (ts : List TypeId) : Prop :=
 ∀ (n : Nat) (H : Heap) (vs : List Value), WF n H → ngl P ≤ n → (∀ x, G x ≠ .dead → H x = G x) → AllRO H → ARs P H ts vs → ∃ n' H', BS P (.call F vs n H) (.ret (.bool true) n' H')
theorem law_contract (hm : P.follows .mixedOrders = true) (hl : laidOutB P = true) {F : FuncId} {fn : Func} {s : ChangeSpec} {d : Nat} {tb : TypeId} {G : Heap} (hlaw : LawRuns P G F fn.params.toList) (hvars : s.vars = [])
    (hspec : ∀ ds : List (DataW H), ds.length = fn.params.size → s.fn H ds = { results := [.lit (.bool true)], args := ds })
    (hp : ∀ t ∈ fn.params.toList, plainT P d t = true ∧ P.readableRec t = true ∧ t < P.types.size) (hres : fn.resultTypes = #[tb]) (htb : P.underlying tb = some .bool)
    (W : World) (base : Nat) (args : Array Value) (ds gs : List (DataW H)) (before : List MemPlace)
    (hval : ∀ (j : Nat) t v, fn.params[j]? = some t → args[j]? = some v → Value.okWide P W .any base t v) (hW : DataW.Whole enc P fn.params.toList s.vars false W args.toList ds gs before) (hG : Globs P W G) :
    Calls P F args W fun e W' => ∃ v, e = .returned v ∧ s.post enc P fn false true false false W args v W' := by
  have hlt := hW.lt
  have hW' := hW
  obtain ⟨p, q, hA, hV, rfl, hfz, hnd⟩ := hW
  rw [hvars] at hV
  obtain ⟨rfl, rfl⟩ : gs = [] ∧ q = [] := by
    cases gs with
    | nil => exact ⟨rfl, hV⟩
    | cons => exact absurd hV (by simp [DataW.TrodVars])
  have hs0 : Sofar P W (fun x => if x < ngl P then some ⟨x, 0, false, 0, 0⟩ else none) G (ngl P) := by
    refine ⟨⟨fun x => ?_, fun x y t u hx hy ex ey ho => ?_, fun x t e => ?_, Nat.le_refl _, fun g hg => by simp [hg], fun x y t u cs ty b ds ty' hx hy ex ey hbl => ?_⟩, fun x hx => by rw [if_neg (by omega)], fun x hx => hG.out x hx, fun x t e => ?_, hG.pos⟩
    · by_cases hd : G x = .dead
      · rw [hd]; trivial
      · obtain ⟨cs, ty, hc, hf, hcell⟩ := hG.cells x hd
        have hx : x < ngl P := Nat.lt_of_not_le fun h => hd (hG.out x h)
        rw [hc]
        refine ⟨⟨x, 0, false, 0, 0⟩, by simp [hx], rfl, fun i v e => ?_, fun e => by cases e⟩
        have hv := List.all_eq_true.1 hf v (List.mem_of_getElem? e)
        refine ⟨v, by simpa using hcell i v e, flat1_refl _ hv, still1_one (still1_of_flat1 hv)⟩
    · split at ex
      · cases ex; cases ho
      · cases ex
    · split at e
      · rename_i hx; cases e; exact ⟨Nat.lt_of_lt_of_le hx hG.there, (fun k => by cases k), fun _ => Nat.lt_of_lt_of_le hx hG.there⟩
      · cases e
    · obtain ⟨_, _, hc, _⟩ := hG.cells x (by rw [hx]; intro e; cases e)
      rw [hc] at hx; cases hx
    · split at e
      · cases e; rfl
      · cases e
  obtain ⟨avs, κ, C, n, g1, g2, g3, g4⟩ := open_args fn.params.toList args.toList ds p W base d (fun t ht => (hp t ht).1) (fun j t v e1 e2 => hval j t v (by simpa using e1) (by simpa using e2)) hA _ _ _ hs0
  obtain ⟨n', H', hbs⟩ := hlaw n C avs g1.wf g2.n (fun x hx => g2.heap x hx) (fun x cs ty own hx => by
    have hob := g1.hr.obj x
    rw [hx] at hob
    obtain ⟨t, h1, h2, _⟩ := hob
    rw [← h2]; exact g1.ro x t h1) g4
  obtain ⟨hmono, hcs, _⟩ := sound hm hbs
  have hcall := hcs g1.wf W.heap.size κ C W args.toList g3 g1.hr (fun _ _ _ => rfl) (fun x h1 _ => g1.free x h1)
  rw [Array.toArray_toList] at hcall
  refine hcall.mono ?_
  rintro e W' ⟨v', κ', C', rfl, hvr, ha⟩
  cases hvr
  refine ⟨.bool true, rfl, ds, [], p, [], p, [], by simpa using hW', ?_, ?_, ?_, ?_, fun h => by cases h⟩
  · have hlen : ds.length = fn.params.size := by
      have key : ∀ (ts : List TypeId) (vs : List Value) (ds : List (DataW H)) (ps : List MemPlace), DataW.TrodAll enc P W 0 (fun _ => true) true ts vs ds ps → ds.length = ts.length := by
        intro ts
        induction ts with
        | nil => intro vs ds ps h; obtain ⟨_, rfl, _⟩ := trodAll_nil h; rfl
        | cons t ts ih =>
          intro vs ds ps h
          obtain ⟨v, vs1, d1, ds1, a, b, rfl, rfl, rfl, _, h2⟩ := trodAll_cons h
          simp [ih _ _ _ h2]
      rw [key _ _ _ _ hA]; simp
    rw [hres, List.append_nil, hspec ds hlen]
    exact trodAll_mk1 (shut_bool htb true)
  · have hlen : ds.length = fn.params.size := by
      have key : ∀ (ts : List TypeId) (vs : List Value) (ds : List (DataW H)) (ps : List MemPlace), DataW.TrodAll enc P W 0 (fun _ => true) true ts vs ds ps → ds.length = ts.length := by
        intro ts
        induction ts with
        | nil => intro vs ds ps h; obtain ⟨_, rfl, _⟩ := trodAll_nil h; rfl
        | cons t ts ih =>
          intro vs ds ps h
          obtain ⟨v, vs1, d1, ds1, a, b, rfl, rfl, rfl, _, h2⟩ := trodAll_cons h
          simp [ih _ _ _ h2]
      rw [key _ _ _ _ hA]; simp
    rw [List.append_nil, hspec ds hlen]
    exact trodAll_stays hl ha.below _ _ _ _ (fun t ht => (hp t ht).2) hA (fun x hx => by simpa using hlt x (by simp [hx]))
  · rw [hvars]
    have hlen : True := trivial
    have : (s.fn H (ds ++ [])).vars = [] := by
      rw [List.append_nil, hspec ds (by
        have key : ∀ (ts : List TypeId) (vs : List Value) (ds : List (DataW H)) (ps : List MemPlace), DataW.TrodAll enc P W 0 (fun _ => true) true ts vs ds ps → ds.length = ts.length := by
          intro ts
          induction ts with
          | nil => intro vs ds ps h; obtain ⟨_, rfl, _⟩ := trodAll_nil h; rfl
          | cons t ts ih =>
            intro vs ds ps h
            obtain ⟨v, vs1, d1, ds1, a, b, rfl, rfl, rfl, _, h2⟩ := trodAll_cons h
            simp [ih _ _ _ h2]
        rw [key _ _ _ _ hA]; simp)]
    rw [this]
    exact rfl
  · exact World.keptBut_mono (fun x hx => by cases hx) (ha.below.frame (fun _ => False))
end
end Go.AM
namespace Go.AM
open Go.RowKit
theorem laid_at {P : Program} {w : World} : ∀ {l : List (String × DataW Unit)} {ps : List MemPlace}, DataW.LaidVars P w l ps → ∀ (i : Nat) (nm : String) (d : DataW Unit), l[i]? = some (nm, d) →
  ∃ g t cs fuel p, P.globalNamed nm = some g ∧ (P.globals[g]?).map (·.type) = some t ∧ w.var? P nm = some cs ∧ DataW.trod (fun _ => ()) P w 0 (fun _ => true) false fuel t cs.toList = some (d, p)
 | [], _, _, i, nm, d, e => by simp at e
 | (n, d') :: r, ps, h, i, nm, d, e => by
  obtain ⟨g, t, cs, fuel, p, q, h1, h2, h3, h4, h5, _⟩ := h
  cases i with
  | zero => simp at e; obtain ⟨rfl, rfl⟩ := e; exact ⟨g, t, cs, fuel, p, h1, h2, h3, h4⟩
  | succ i => exact laid_at h5 i nm d (by simpa using e)
theorem flat_pairs {α : Type} (f : α → List Value) (hf : ∀ x, (f x).length = 2) : ∀ (rows : List α) (cs : List Value), cs.length = rows.length * 2 → (∀ (i : Nat) (x : α), rows[i]? = some x → (cs.drop (i * 2)).take 2 = f x) → cs = rows.flatMap f
 | [], cs, hl, _ => by simp at hl; simp [hl]
 | x :: rows, cs, hl, h => by
  have h0 := h 0 x rfl
  simp only [Nat.zero_mul, List.drop_zero] at h0
  have ih := flat_pairs f hf rows (cs.drop 2) (by simp at hl ⊢; omega) (fun i y e => by
   have := h (i + 1) y (by simpa using e)
   rw [List.drop_drop]
   rwa [show 2 + i * 2 = (i + 1) * 2 by omega])
  rw [List.flatMap_cons, ← h0, ← ih, List.take_append_drop]
theorem cells_of_pairs {H : Type} {enc : TypeId × Value → H} {P : Program} {w : World} {base : Nat} {sp : Nat → Bool} {held : Bool} {fuel : Nat} {t e : TypeId} {n : Nat} {k : IntKind} {f0 f1 : Field} {cs : List Value} {rows : List (Nat × Nat)} {p : List MemPlace}
  (ht : P.underlying t = some (.array n e)) (he : P.underlying e = some (.struct #[f0, f1])) (o0 : f0.offset = 0) (o1 : f1.offset = 1) (k0 : P.underlying f0.type = some (.int k)) (k1 : P.underlying f1.type = some (.int k))
  (c0 : P.cellsOf f0.type = 1) (c1 : P.cellsOf f1.type = 1) (hce : P.cellsOf e = 2) (hct : P.cellsOf t = n * 2)
  (h : DataW.trod enc P w base sp held fuel t cs = some (.agg (rows.map fun x => .agg [.lit (.int k x.1), .lit (.int k x.2)]), p)) : cs = rows.flatMap fun x => [Value.int k x.1, Value.int k x.2] := by
 cases fuel with
 | zero => simp [DataW.trod] at h
 | succ fuel =>
  simp only [DataW.trod, ht, hce, hct] at h
  split at h
  case isFalse => cases h
  rename_i hl
  obtain ⟨xs, hm, hx⟩ := Option.map_eq_some_iff.1 h
  have hxs : xs.map (·.1) = rows.map fun x => (DataW.agg [.lit (.int k x.1), .lit (.int k x.2)] : DataW H) := by
   have := congrArg Prod.fst hx
   simpa using this
  have hxl : xs.length = n := by simpa using Lib.mapM_length hm
  have hrl : rows.length = n := by
   have := congrArg List.length hxs
   simp at this; omega
  refine flat_pairs _ (fun _ => rfl) rows cs (by rw [hl, hrl]) fun i x hi => ?_
  have hin : i < n := by
   rw [← hrl]
   rcases Nat.lt_or_ge i rows.length with g | g
   ·exact g
   ·rw [List.getElem?_eq_none g] at hi; cases hi
  obtain ⟨b, hb, hf⟩ := Lib.mapM_at hm i i (by simp [hin])
  obtain ⟨y0, y1, m, rfl, hlen, e0, e1⟩ := ChangeShapes.trod_struct2 he hf
  rw [o0, c0] at e0
  rw [o1, c1] at e1
  obtain ⟨z0, q0, rfl, _⟩ := DataW.trod_int k0 e0
  obtain ⟨z1, q1, rfl, _⟩ := DataW.trod_int k1 e1
  have h2 : (xs.map (·.1))[i]? = some (DataW.agg [.lit (.int k z0), .lit (.int k z1)] : DataW H) := by simp [hb]
  rw [hxs] at h2
  simp only [List.getElem?_map, hi, Option.map_some, Option.some.injEq, DataW.agg.injEq, List.cons.injEq, DataW.lit.injEq, Lit.int.injEq, true_and, and_true] at h2
  obtain ⟨rfl, rfl⟩ := h2
  rw [hce] at hlen
  generalize (cs.drop (i * 2)).take 2 = l at *
  match l, hlen with
  | [a, b], _ =>
   simp at q0 q1
   rw [q0, q1]
theorem heap_of_shaped {P : Program} {W : World} (hs : W.ShapedOpen P) {g : Nat} {zero : Array Value} {t : TypeId} (hg : g < P.globals.size)
  (h : ((begin P (fun _ _ => 0) default).world.heap[g]?).bind Obj.row? = some (zero, t)) : g < W.heap.size := by
 obtain ⟨cs, h1, _⟩ := hs.1 g zero t hg h
 rcases Nat.lt_or_ge g W.heap.size with k | k
 ·exact k
 ·rw [Array.getElem?_eq_none k] at h1; cases h1
theorem mapM_of {α β : Type} {f : α → Option β} {g : α → β} : ∀ (l : List α), (∀ x ∈ l, f x = some (g x)) → l.mapM f = some (l.map g)
 | [], _ => rfl
 | x :: l, h => by rw [List.mapM_cons, h x (by simp), mapM_of l fun y hy => h y (by simp [hy])]; rfl
theorem drop_flat {α : Type} (f : α → List Value) (hf : ∀ x, (f x).length = 2) : ∀ (rows : List α) (i : Nat) (x : α), rows[i]? = some x → ((rows.flatMap f).drop (i * 2)).take 2 = f x
 | [], i, x, h => by simp at h
 | y :: rows, 0, x, h => by
  simp at h
  subst h
  rw [List.flatMap_cons, Nat.zero_mul, List.drop_zero, List.take_append_of_le_length (by rw [hf]; exact Nat.le_refl _), List.take_of_length_le (by rw [hf]; exact Nat.le_refl _)]
 | y :: rows, i + 1, x, h => by
  rw [List.flatMap_cons, List.drop_append, List.drop_of_length_le (by rw [hf]; omega), List.nil_append, hf, show (i + 1) * 2 - 2 = i * 2 by omega]
  exact drop_flat f hf rows i x (by simpa using h)
theorem flat_len {α : Type} (f : α → List Value) (hf : ∀ x, (f x).length = 2) : ∀ rows : List α, (rows.flatMap f).length = rows.length * 2
 | [] => rfl
 | x :: rows => by rw [List.flatMap_cons, List.length_append, hf, flat_len f hf rows, List.length_cons]; omega
theorem pairs_trod {H : Type} {enc : TypeId × Value → H} {P : Program} {w : World} {base : Nat} {sp : Nat → Bool} {held : Bool} {t e : TypeId} {n : Nat} {k : IntKind} {f0 f1 : Field} {rows : List (Nat × Nat)}
    (ht : P.underlying t = some (.array n e)) (he : P.underlying e = some (.struct #[f0, f1])) (o0 : f0.offset = 0) (o1 : f1.offset = 1) (k0 : P.underlying f0.type = some (.int k)) (k1 : P.underlying f1.type = some (.int k))
    (c0 : P.cellsOf f0.type = 1) (c1 : P.cellsOf f1.type = 1) (hce : P.cellsOf e = 2) (hct : P.cellsOf t = n * 2) (hn : rows.length = n)
    (hwf : (rows.all fun x => (Lit.int k x.1).wf && (Lit.int k x.2).wf) = true) :
    DataW.trod enc P w base sp held 3 t (rows.flatMap fun x => [Value.int k x.1, Value.int k x.2]) = some (.agg (rows.map fun x => .agg [.lit (.int k x.1), .lit (.int k x.2)]), []) := by
  have hl : (rows.flatMap fun x => [Value.int k x.1, Value.int k x.2]).length = n * 2 := by rw [flat_len _ (fun _ => rfl), hn]
  have hstep : ∀ i ∈ List.range n, DataW.trod enc P w base sp held 2 e (((rows.flatMap fun x => [Value.int k x.1, Value.int k x.2]).drop (i * 2)).take 2) =
      some ((fun i => ((.agg [.lit (.int k (rows.getD i (0, 0)).1), .lit (.int k (rows.getD i (0, 0)).2)], []) : DataW H × List MemPlace)) i) := by
    intro i hi
    have hi' : i < rows.length := by rw [hn]; simpa using hi
    have hx : rows[i]? = some rows[i] := List.getElem?_eq_getElem hi'
    rw [drop_flat _ (fun _ => rfl) rows i rows[i] hx]
    have hw := List.all_eq_true.1 hwf rows[i] (List.getElem_mem hi')
    simp only [Bool.and_eq_true] at hw
    simp only [List.getD, hx, Option.getD_some]
    have e0 : DataW.trod enc P w base sp held 1 f0.type [Value.int k (rows[i].1 : Int)] = some (.lit (.int k rows[i].1), []) := by simp [DataW.trod, k0, hw.1]
    have e1 : DataW.trod enc P w base sp held 1 f1.type [Value.int k (rows[i].2 : Int)] = some (.lit (.int k rows[i].2), []) := by simp [DataW.trod, k1, hw.2]
    have := ChangeShapes.trod_struct_mk (enc := enc) (w := w) (base := base) (spare := sp) (held := held) (n := 1) (cs := [Value.int k (rows[i].1 : Int), Value.int k (rows[i].2 : Int)])
      (xs := [(.lit (.int k rows[i].1), []), (.lit (.int k rows[i].2), [])]) he (by simp [hce]) (by
        simp [List.mapM_cons, o0, o1, c0, c1, e0, e1])
    simpa using this
  have key : ∀ m, (∀ i ∈ List.range n, DataW.trod enc P w base sp held m e (((rows.flatMap fun x => [Value.int k x.1, Value.int k x.2]).drop (i * 2)).take 2) =
      some ((fun i => ((.agg [.lit (.int k (rows.getD i (0, 0)).1), .lit (.int k (rows.getD i (0, 0)).2)], []) : DataW H × List MemPlace)) i)) →
      DataW.trod enc P w base sp held (m + 1) t (rows.flatMap fun x => [Value.int k x.1, Value.int k x.2]) = some (.agg (rows.map fun x => .agg [.lit (.int k x.1), .lit (.int k x.2)]), []) := by
    intro m hm
    simp only [DataW.trod, ht, hce, hct, hl, if_true]
    rw [mapM_of _ hm]
    simp only [Option.map_some, Option.some.injEq, Prod.mk.injEq, DataW.agg.injEq]
    refine ⟨?_, ?_⟩
    · rw [List.map_map]
      apply List.ext_getElem?
      intro i
      by_cases hi : i < n
      · have hx : rows[i]? = some rows[i] := List.getElem?_eq_getElem (by omega)
        simp [hi, hx]
      · rw [List.getElem?_eq_none (by simp; omega), List.getElem?_eq_none (by simp; omega)]
    · simp
  exact key 2 hstep
def noIface : Value → Bool
 | .iface _ _ => false
 | _ => true
theorem laidMet_mk {P : Program} {w : World} {l : List (String × DataW Unit)} {ps : List MemPlace} (M : Nat) (bs : List Nat) (h : DataW.LaidVars P w l ps) (hn : nodupBits M ps 0 = true)
  (hb : (ps.all fun p => match p with | .cell b _ => bs.contains b | .map _ => false) = true) (ho : ∀ b ∈ bs, ∃ c t, w.heap[b]? = some (.cells c t (0, 0)) ∧ c.toList.all noIface = true) : laidMet P l w := by
 refine ⟨ps, h, (nodupBits_sound hn).1, fun b off hp => ?_⟩
 have := List.all_eq_true.1 hb _ hp
 obtain ⟨c, t, h1, h2⟩ := ho b (by simpa using this)
 refine ⟨⟨c, t, h1⟩, fun u v hc => ?_⟩
 exfalso
 have h3 : c[off]? = some (.iface u v) := by
  unfold World.cell? at hc
  simpa [h1] using hc
 have h4 := List.all_eq_true.1 h2 (.iface u v) (by
  have := Array.mem_of_getElem? h3
  simpa using this)
 cases h4
theorem witness_zip {H : Type} {enc : TypeId × Value → H} {C : Checked} {os : Os} {f : FuncId} {fn : Func} {s : OpenSpec} {conds : List PathCond} {apart : Bool} {laid : List (String × DataW Unit)} (w0 : World) (args : Array Value) (hos : w0.os = os)
  (hv : (w0.forCall (fun _ _ => 0) ⟨#[], args, []⟩).variablesZipB C.prog = true)
  (hr : ((w0.forCall (fun _ _ => 0) ⟨#[], args, []⟩).heap.toList.drop C.prog.globals.size).take ((begin C.prog (fun _ _ => 0) default).world.heap.size - C.prog.globals.size) =
   (begin C.prog (fun _ _ => 0) default).world.heap.toList.drop C.prog.globals.size)
  (hok : Input.okWideB C.prog (w0.forCall (fun _ _ => 0) ⟨#[], args, []⟩) f ⟨#[], args, []⟩ = true)
  (hrow : s.preRow enc C.prog fn conds apart laid (w0.forCall (fun _ _ => 0) ⟨#[], args, []⟩).memory args) :
  ∃ (w : World) (tape : Tape) (i : Input), w.os = os ∧ (w.forCall tape i).Shaped C.prog ∧ i.vars = [] ∧ Input.okWide C.prog (w.forCall tape i) .any w.heap.size f i ∧
   s.preRow enc C.prog fn conds apart laid (w.forCall tape i).memory i.args ∧ ({} : Assume).holds C.prog (lone (Frame.enter C.prog f i.args .normal) [] (w.forCall tape i)) :=
 ⟨w0, fun _ _ => 0, ⟨#[], args, []⟩, hos, World.shaped_of_ZipB hv hr, (Input.okWide_of_okWideB (base := 0) hok).1, (Input.okWide_of_okWideB hok).2, hrow, by
  simp only [Assume.holds]
  exact ⟨by simp, by simp, by simp, by simp, by simp⟩⟩
end Go.AM
namespace Go.AM
open Go.RowKit
structure GRule where
 left : Int
 right : List Int
 weight : Nat
structure Gram where
 terms : List ByteArray
 vars : List ByteArray
 rules : List GRule
def RR (H : Heap) (a : Option Addr) (l : List GRule) : Prop :=
 l ≠ [] → ∃ x k cs ty own, a = some ⟨x, k, none⟩ ∧ H x = .cells cs ty own ∧ ∀ i r, l[i]? = some r →
  ∃ p, cs[k + i * 3]? = some (.int .i64 r.left) ∧ cs[k + i * 3 + 1]? = some (.slice p r.right.length r.right.length) ∧ cs[k + i * 3 + 2]? = some (.float .f64 r.weight) ∧ RS (Value.int .i64) H p r.right
theorem RR.mono {n n' : Nat} {H H' : Heap} {a : Option Addr} {l : List GRule} (h : RR H a l) (hw : WF n H) (hk : Kp n H n' H') : RR H' a l := by
 intro hl
 obtain ⟨x, k, cs, ty, own, e1, e2, e3⟩ := h hl
 refine ⟨x, k, cs, ty, own, e1, ?_, fun i r hi => ?_⟩
 ·rw [hk.keep x, e2]
  apply Classical.byContradiction
  intro hx
  rw [hw x (by omega)] at e2; cases e2
 ·obtain ⟨p, c1, c2, c3, c4⟩ := e3 i r hi
  exact ⟨p, c1, c2, c3, c4.mono hw hk⟩
theorem RR.atS {H : Heap} {a : Option Addr} {l : List GRule} (h : RR H a l) {i : Nat} (hi : i < l.length) :
  ∃ x k cs ty own p, a = some ⟨x, k, none⟩ ∧ H x = .cells cs ty own ∧ cs[k + i * 3]? = some (.int .i64 l[i].left) ∧ cs[k + i * 3 + 1]? = some (.slice p l[i].right.length l[i].right.length) ∧
   cs[k + i * 3 + 2]? = some (.float .f64 l[i].weight) ∧ RS (Value.int .i64) H p l[i].right := by
 obtain ⟨x, k, cs, ty, own, e1, e2, e3⟩ := h (by intro e; simp [e] at hi)
 obtain ⟨p, c1, c2, c3, c4⟩ := e3 i _ (List.getElem?_eq_getElem hi)
 exact ⟨x, k, cs, ty, own, p, e1, e2, c1, c2, c3, c4⟩
theorem RR.at {H : Heap} {a : Option Addr} {l : List GRule} (h : RR H a l) {i : Nat} (hi : i < l.length) :
  ∃ x k cs ty own p, a = some ⟨x, k, none⟩ ∧ H x = .cells cs ty own ∧ cs[k + i * 3]? = some (.int .i64 l[i].left) ∧ cs[k + i * 3 + 1]? = some (.slice p l[i].right.length l[i].right.length) ∧
   cs[k + i * 3 + 2]? = some (.float .f64 l[i].weight) ∧ RA (Value.int .i64) H p l[i].right := by
 obtain ⟨x, k, cs, ty, own, p, e1, e2, c1, c2, c3, c4⟩ := h.atS hi
 exact ⟨x, k, cs, ty, own, p, e1, e2, c1, c2, c3, c4.ra⟩
theorem take3 {cs : List Value} {k : Nat} {a b c : Value} (h0 : cs[k]? = some a) (h1 : cs[k + 1]? = some b) (h2 : cs[k + 2]? = some c) : (cs.drop k).take 3 = [a, b, c] := by
 apply List.ext_getElem?
 intro i
 rw [List.getElem?_take, List.getElem?_drop]
 match i with
 | 0 => simpa using h0
 | 1 => simpa using h1
 | 2 => simpa using h2
 | i + 3 => simp; omega
theorem len3 {cs : List Value} {k : Nat} {c : Value} (h2 : cs[k + 2]? = some c) : k + 3 ≤ cs.length := by
 rcases Nat.lt_or_ge (k + 2) cs.length with h | h
 ·omega
 ·rw [List.getElem?_eq_none h] at h2; cases h2
def gcells (pt pv pr : Option Addr) (g : Gram) : List Value :=
 [.slice pt g.terms.length g.terms.length, .slice pv g.vars.length g.vars.length, .slice pr g.rules.length g.rules.length]
def RG (H : Heap) (v : Value) (g : Gram) : Prop :=
 ∃ pt pv pr, v = .agg (gcells pt pv pr g).toArray ∧ RA Value.string H pt g.terms ∧ RA Value.string H pv g.vars ∧ RR H pr g.rules
theorem RG.mono {n n' : Nat} {H H' : Heap} {v : Value} {g : Gram} (h : RG H v g) (hw : WF n H) (hk : Kp n H n' H') : RG H' v g := by
 obtain ⟨pt, pv, pr, e, h1, h2, h3⟩ := h
 exact ⟨pt, pv, pr, e, h1.mono hw hk, h2.mono hw hk, h3.mono hw hk⟩
def inI (n : Int) : Prop := -9223372036854775808 ≤ n ∧ n ≤ 9223372036854775807
def maxL : Nat := 9223372036854775807
structure WG (g : Gram) : Prop where
 terms : g.terms.length ≤ maxL
 vars : g.vars.length ≤ maxL
 rules : g.rules.length ≤ maxL
 left : ∀ r ∈ g.rules, inI r.left
 right : ∀ r ∈ g.rules, r.right.length ≤ maxL ∧ ∀ s ∈ r.right, inI s
 weight : ∀ r ∈ g.rules, r.weight < 2 ^ 64
 size : ∀ s ∈ g.terms ++ g.vars, s.size ≤ maxL
theorem box_cells (pt pv pr : Option Addr) (g : Gram) : vcells (.agg (gcells pt pv pr g).toArray) = gcells pt pv pr g := rfl
theorem box_one (pt pv pr : Option Addr) (g : Gram) : (gcells pt pv pr g).all one = true := rfl
theorem gc_0 (pt pv pr : Option Addr) (g : Gram) : (gcells pt pv pr g)[0]? = some (.slice pt g.terms.length g.terms.length) := rfl
theorem gc_1 (pt pv pr : Option Addr) (g : Gram) : (gcells pt pv pr g)[1]? = some (.slice pv g.vars.length g.vars.length) := rfl
theorem gc_2 (pt pv pr : Option Addr) (g : Gram) : (gcells pt pv pr g)[2]? = some (.slice pr g.rules.length g.rules.length) := rfl
theorem gc_len (pt pv pr : Option Addr) (g : Gram) : (gcells pt pv pr g).length = 3 := rfl
theorem gc_all (pt pv pr : Option Addr) (g : Gram) : ((gcells pt pv pr g).drop 0).take 3 = gcells pt pv pr g := rfl
end Go.AM
namespace Go.AM
open Go.RowKit
theorem pick_list {α : Type} {Q : Nat → α → Prop} : ∀ (m : Nat), (∀ i, i < m → ∃ y, Q i y) → ∃ l : List α, l.length = m ∧ ∀ i y, l[i]? = some y → Q i y := by
 intro m
 induction m with
 | zero => intro _; exact ⟨[], rfl, fun i y h => by simp at h⟩
 | succ m ih =>
  intro h
  obtain ⟨l, h1, h2⟩ := ih fun i hi => h i (by omega)
  obtain ⟨y, hy⟩ := h m (by omega)
  refine ⟨l ++ [y], by simp [h1], fun i z e => ?_⟩
  by_cases hi : i < l.length
  ·rw [List.getElem?_append_left hi] at e; exact h2 i z e
  ·rw [List.getElem?_append_right (by omega)] at e
   have : i - l.length = 0 := by
    apply Classical.byContradiction
    intro hc
    obtain ⟨q, hq⟩ : ∃ q, i - l.length = q + 1 := ⟨i - l.length - 1, by omega⟩
    rw [hq] at e; simp at e
   have e' : i = m := by omega
   rw [this] at e
   simp at e
   subst e
   rw [e']; exact hy
theorem at1 {cs : List Value} {i : Nat} {v : Value} (h : (cs.drop i).take 1 = [v]) : cs[i]? = some v := by
 have : ((cs.drop i).take 1)[0]? = some v := by rw [h]; rfl
 rw [List.getElem?_take, List.getElem?_drop] at this
 simpa using this
variable {P : Program} {H : Heap}
theorem AR.int_inv {t : TypeId} {cs : List Value} (h : AR P H t cs) (ht : P.underlying t = some (.int .i64)) : ∃ n, cs = [.int .i64 n] ∧ inI n := by
 cases h with
 | int t k n ht' hw =>
  rw [ht] at ht'; cases ht'
  refine ⟨n, rfl, ?_⟩
  simp [Lit.wf, IntKind.min, IntKind.max, IntKind.signed, IntKind.bits] at hw
  unfold inI
  omega
 | _ => simp_all
theorem AR.str_inv {t : TypeId} {cs : List Value} (h : AR P H t cs) (ht : P.underlying t = some .string) : ∃ s, cs = [.string s] ∧ s.size ≤ maxL := by
 cases h with
 | string t s ht' hs =>
  refine ⟨s, rfl, Nat.le_trans hs ?_⟩
  unfold maxL maxLen
  omega
 | _ => simp_all
theorem AR.float_inv {t : TypeId} {cs : List Value} (h : AR P H t cs) (ht : P.underlying t = some (.float .f64)) : ∃ b, cs = [.float .f64 b] ∧ b < 2 ^ 64 := by
 cases h with
 | float t k b ht' hw =>
  rw [ht] at ht'; cases ht'
  refine ⟨b, rfl, ?_⟩
  simpa [Lit.wf] using hw
 | _ => simp_all
theorem AR.slice_inv {t e : TypeId} {cs : List Value} (h : AR P H t cs) (ht : P.underlying t = some (.slice e)) : cs = [.slice none 0 0] ∨ ∃ x m ds, cs = [.slice (some ⟨x, 0, none⟩) m m] ∧ H x = .cells ds e false ∧ m ≤ maxL ∧ ∀ i, i < m → AR P H e ((ds.drop (i * P.cellsOf e)).take (P.cellsOf e)) := by
 cases h with
 | nil => exact .inl rfl
 | slice t e' x m ds ht' hx hl hm he =>
  rw [ht] at ht'; cases ht'
  refine .inr ⟨x, m, ds, rfl, hx, Nat.le_trans hm ?_, he⟩
  unfold maxL maxLen
  omega
 | _ => simp_all
theorem AR.list_inv {α : Type} {enc : α → Value} {good : α → Prop} {t e : TypeId} {cs : List Value} (h : AR P H t cs) (ht : P.underlying t = some (.slice e)) (hc : P.cellsOf e = 1) (hi : ∀ ds, AR P H e ds → ∃ y, ds = [enc y] ∧ good y) :
    ∃ p l, cs = [.slice p l.length l.length] ∧ RS enc H p l ∧ l.length ≤ maxL ∧ ∀ y ∈ l, good y := by
  rcases h.slice_inv ht with rfl | ⟨x, m, ds, rfl, hx, hm, he⟩
  · exact ⟨none, [], rfl, .inl ⟨rfl, rfl⟩, by simp, fun y hy => by cases hy⟩
  · obtain ⟨l, h1, h2⟩ := pick_list (Q := fun i y => ds[i]? = some (enc y) ∧ good y) m fun i hi' => by
      obtain ⟨y, e1, e2⟩ := hi _ (he i hi')
      rw [hc, Nat.mul_one] at e1
      exact ⟨y, at1 e1, e2⟩
    subst h1
    refine ⟨_, l, rfl, .inr ⟨x, 0, ds, e, false, rfl, hx, ?_, fun i y e => by rw [Nat.zero_add]; exact (h2 i y e).1⟩, hm, fun y hy => ?_⟩
    · rw [Nat.zero_add]
      apply Classical.byContradiction
      intro hc
      have hlt : ds.length < l.length := by omega
      have := (h2 ds.length _ (List.getElem?_eq_getElem hlt)).1
      rw [List.getElem?_eq_none (Nat.le_refl _)] at this
      cases this
    obtain ⟨i, hi', rfl⟩ := List.getElem_of_mem hy
    exact (h2 i _ (List.getElem?_eq_getElem hi')).2
theorem AR.ints {t e : TypeId} {cs : List Value} (h : AR P H t cs) (ht : P.underlying t = some (.slice e)) (hc : P.cellsOf e = 1) (he : P.underlying e = some (.int .i64)) :
  ∃ p l, cs = [.slice p l.length l.length] ∧ RS (Value.int .i64) H p l ∧ l.length ≤ maxL ∧ ∀ y ∈ l, inI y := h.list_inv ht hc fun _ hd => hd.int_inv he
theorem AR.strs {t e : TypeId} {cs : List Value} (h : AR P H t cs) (ht : P.underlying t = some (.slice e)) (hc : P.cellsOf e = 1) (he : P.underlying e = some .string) :
  ∃ p l, cs = [.slice p l.length l.length] ∧ RA Value.string H p l ∧ l.length ≤ maxL ∧ ∀ y ∈ l, y.size ≤ maxL := by
 obtain ⟨p, l, e, h1, h2⟩ := h.list_inv ht hc fun _ hd => hd.str_inv he
 exact ⟨p, l, e, h1.ra, h2⟩
structure GramT (P : Program) (tg tr ti tn tss trs tis tf : TypeId) : Prop where
 g : ∃ f1 f2 f3 : Field, P.underlying tg = some (.struct #[f1, f2, f3]) ∧ f1.type = tss ∧ f1.offset = 0 ∧ f2.type = tss ∧ f2.offset = 1 ∧ f3.type = trs ∧ f3.offset = 2
 r : ∃ f1 f2 f3 : Field, P.underlying tr = some (.struct #[f1, f2, f3]) ∧ f1.type = ti ∧ f1.offset = 0 ∧ f2.type = tis ∧ f2.offset = 1 ∧ f3.type = tf ∧ f3.offset = 2
 i : P.underlying ti = some (.int .i64)
 n : P.underlying tn = some .string
 ss : P.underlying tss = some (.slice tn)
 rs : P.underlying trs = some (.slice tr)
 is : P.underlying tis = some (.slice ti)
 f : P.underlying tf = some (.float .f64)
 ci : P.cellsOf ti = 1
 cn : P.cellsOf tn = 1
 css : P.cellsOf tss = 1
 crs : P.cellsOf trs = 1
 cis : P.cellsOf tis = 1
 cf : P.cellsOf tf = 1
 cr : P.cellsOf tr = 3
 cg : P.cellsOf tg = 3
theorem AR.struct_inv {t : TypeId} {fs : Array Field} {cs : List Value} (h : AR P H t cs) (ht : P.underlying t = some (.struct fs)) : cs.length = P.cellsOf t ∧ ∀ (i : Nat) (f : Field), fs[i]? = some f → AR P H f.type ((cs.drop f.offset).take (P.cellsOf f.type)) := by
 cases h with
 | struct t fs' cs ht' hl hf =>
  rw [ht] at ht'; cases ht'
  exact ⟨hl, hf⟩
 | _ => simp_all
section
variable {tg tr ti tn tss trs tis tf : TypeId}
theorem AR.rule (T : GramT P tg tr ti tn tss trs tis tf) {cs : List Value} (h : AR P H tr cs) : ∃ (r : GRule) (p : Option Addr), cs = [.int .i64 r.left, .slice p r.right.length r.right.length, .float .f64 r.weight] ∧ RS (Value.int .i64) H p r.right ∧ inI r.left ∧ r.right.length ≤ maxL ∧ (∀ s ∈ r.right, inI s) ∧ r.weight < 2 ^ 64 := by
 obtain ⟨f1, f2, f3, e, a1, b1, a2, b2, a3, b3⟩ := T.r
 obtain ⟨hl, hf⟩ := h.struct_inv e
 rw [T.cr] at hl
 match cs, hl with
 | [x, y, z], _ =>
  have h1 := hf 0 f1 rfl
  have h2 := hf 1 f2 rfl
  have h3 := hf 2 f3 rfl
  rw [a1, b1, T.ci] at h1
  rw [a2, b2, T.cis] at h2
  rw [a3, b3, T.cf] at h3
  obtain ⟨n, e1, hn⟩ := h1.int_inv T.i
  obtain ⟨p, l, e2, hp, hl, hs⟩ := h2.ints T.is T.ci T.i
  obtain ⟨w, e3, hw⟩ := h3.float_inv T.f
  simp at e1 e2 e3
  subst e1 e2 e3
  exact ⟨⟨n, l, w⟩, p, rfl, hp, hn, hl, hs, hw⟩
theorem AR.rules (T : GramT P tg tr ti tn tss trs tis tf) {cs : List Value} (h : AR P H trs cs) : ∃ p l, cs = [.slice p l.length l.length] ∧ RR H p l ∧ l.length ≤ maxL ∧ ∀ r ∈ l, inI r.left ∧ (r.right.length ≤ maxL ∧ ∀ s ∈ r.right, inI s) ∧ r.weight < 2 ^ 64 := by
  rcases h.slice_inv T.rs with rfl | ⟨x, m, ds, rfl, hx, hm, he⟩
  · exact ⟨none, [], rfl, fun h => absurd rfl h, by simp, fun y hy => by cases hy⟩
  · obtain ⟨l, h1, h2⟩ := pick_list (Q := fun i (r : GRule) => (∃ p, ds[i * 3]? = some (.int .i64 r.left) ∧ ds[i * 3 + 1]? = some (.slice p r.right.length r.right.length) ∧ ds[i * 3 + 2]? = some (.float .f64 r.weight) ∧ RS (Value.int .i64) H p r.right) ∧ inI r.left ∧ (r.right.length ≤ maxL ∧ ∀ s ∈ r.right, inI s) ∧ r.weight < 2 ^ 64) m fun i hi' => by
      have h := he i hi'
      rw [T.cr] at h
      obtain ⟨r, p, e, hp, q1, q2, q3, q4⟩ := AR.rule T h
      have g : ∀ j, j < 3 → ds[i * 3 + j]? = ((ds.drop (i * 3)).take 3)[j]? := fun j hj => by rw [List.getElem?_take, if_pos hj, List.getElem?_drop]
      refine ⟨r, ⟨p, ?_, ?_, ?_, hp⟩, q1, ⟨q2, q3⟩, q4⟩
      · have := g 0 (by omega); rw [e] at this; simpa using this
      · have := g 1 (by omega); rw [e] at this; simpa using this
      · have := g 2 (by omega); rw [e] at this; simpa using this
    subst h1
    refine ⟨_, l, rfl, fun _ => ⟨x, 0, ds, tr, false, rfl, hx, fun i r e => ?_⟩, hm, fun r hr => ?_⟩
    · obtain ⟨⟨p, c0, c1, c2, c3⟩, _⟩ := h2 i r e
      exact ⟨p, by rw [Nat.zero_add]; exact c0, by rw [Nat.zero_add]; exact c1, by rw [Nat.zero_add]; exact c2, c3⟩
    · obtain ⟨i, hi', rfl⟩ := List.getElem_of_mem hr
      exact (h2 i _ (List.getElem?_eq_getElem hi')).2
theorem ARV.gram (T : GramT P tg tr ti tn tss trs tis tf) {v : Value} (ha : aggT P tg = some true) (h : ARV P H tg v) : ∃ g, RG H v g ∧ WG g := by
 obtain ⟨h1, h2, _⟩ := h
 obtain ⟨cs, rfl⟩ := h2 ha
 obtain ⟨f1, f2, f3, e, a1, b1, a2, b2, a3, b3⟩ := T.g
 have hvc : vcells (.agg cs) = cs.toList := rfl
 rw [hvc] at h1
 obtain ⟨hl, hf⟩ := h1.struct_inv e
 rw [T.cg] at hl
 obtain ⟨cs⟩ := cs
 simp only at hl hf
 match cs, hl with
 | [x, y, z], _ =>
  have h1 := hf 0 f1 rfl
  have h2 := hf 1 f2 rfl
  have h3 := hf 2 f3 rfl
  rw [a1, b1, T.css] at h1
  rw [a2, b2, T.css] at h2
  rw [a3, b3, T.crs] at h3
  obtain ⟨pt, lt, e1, ht, ht1, ht2⟩ := h1.strs T.ss T.cn T.n
  obtain ⟨pv, lv, e2, hv, hv1, hv2⟩ := h2.strs T.ss T.cn T.n
  obtain ⟨pr, lr, e3, hr, hr1, hr2⟩ := AR.rules T h3
  simp at e1 e2 e3
  subst e1 e2 e3
  refine ⟨⟨lt, lv, lr⟩, ⟨pt, pv, pr, rfl, ht, hv, hr⟩, ht1, hv1, hr1, fun r h => (hr2 r h).1, fun r h => (hr2 r h).2.1, fun r h => (hr2 r h).2.2, fun s hs => ?_⟩
  rcases List.mem_append.1 hs with hs | hs
  ·exact ht2 s hs
  ·exact hv2 s hs
def RO (P : Program) (H : Heap) (v : Value) : Prop := ∀ (pt pv pr : Option Addr) (g : Gram), v = .agg (gcells pt pv pr g).toArray → ∀ x k sp, pr = some ⟨x, k, sp⟩ → ∀ cs ty own, H x = .cells cs ty own → own = true → isz P ty = some 3
theorem ARV.gramO (T : GramT P tg tr ti tn tss trs tis tf) {v : Value} (ha : aggT P tg = some true) (h : ARV P H tg v) : RO P H v := by
 intro pt pv pr g hv x k sp hp cs ty own hx ho
 subst hv hp
 obtain ⟨h1, _, _⟩ := h
 obtain ⟨f1, f2, f3, e, a1, b1, a2, b2, a3, b3⟩ := T.g
 have hvc : vcells (.agg (gcells pt pv (some ⟨x, k, sp⟩) g).toArray) = gcells pt pv (some ⟨x, k, sp⟩) g := rfl
 rw [hvc] at h1
 obtain ⟨_, hf⟩ := h1.struct_inv e
 have h3 := hf 2 f3 rfl
 rw [a3, b3, T.crs] at h3
 have e3 : (List.drop 2 (gcells pt pv (some ⟨x, k, sp⟩) g)).take 1 = [.slice (some ⟨x, k, sp⟩) g.rules.length g.rules.length] := rfl
 rw [e3] at h3
 rcases h3.slice_inv T.rs with h4 | ⟨y, m, ds, e4, hy, _⟩
 ·simp at h4
 ·simp at e4
  obtain ⟨⟨rfl, rfl, rfl⟩, _⟩ := e4
  rw [hy] at hx
  cases hx
  cases ho
end
end Go.AM
namespace Go.AM
open Ieee
def Low (K : Int) (m : Nat) (e : Int) : Prop := m = 0 ∨ e + (m.log2 : Int) ≤ K
theorem Low.mono {K L : Int} {m : Nat} {e : Int} (h : Low K m e) (hl : K ≤ L) : Low L m e := by
 rcases h with h | h
 ·exact .inl h
 ·exact .inr (by omega)
theorem cut_even_le (neg : Bool) (n drop B : Nat) (h : n < B * 2 ^ drop) (hB : 0 < B) : Toward.cut .even neg n drop ≤ B := by
 unfold Toward.cut
 simp only
 have key : n / 1 <<< min drop (n.log2 + 2) < B := by
  rw [Nat.shiftLeft_eq, Nat.one_mul]
  rcases Nat.le_total drop (n.log2 + 2) with hd | hd
  ·rw [Nat.min_eq_left hd]
   exact (Nat.div_lt_iff_lt_mul (Nat.two_pow_pos _)).2 h
  ·rw [Nat.min_eq_right hd]
   have : n < 2 ^ (n.log2 + 2) := Nat.lt_of_lt_of_le Nat.lt_log2_self (Nat.pow_le_pow_right (by omega) (by omega))
   rw [Nat.div_eq_of_lt this]; exact hB
 have h1 : ∀ b : Bool, b.toNat ≤ 1 := fun b => by cases b <;> simp
 exact Nat.le_trans (Nat.add_le_add_left (h1 _) _) key
theorem low_write {K : Int} {s : Bool} {m : Nat} {e : Int} (h : Low K m e) (h0 : 0 ≤ K) (h1 : K ≤ 900) :
  ∃ m' e', Format.read double (Format.write double (.number s m e)) = .number s m' e' ∧ Low (K + 1) m' e' := by
 have rd : ∀ R : Nat, R ≤ (K + 1024).toNat * 2 ^ 52 → ∃ m' e', Format.read double (Format.word double s R) = .number s m' e' ∧ Low (K + 1) m' e' := by
  intro R hR
  have hK : (K + 1024).toNat ≤ 1924 := by omega
  have hR2 : R ≤ 1924 * 2 ^ 52 := Nat.le_trans hR (Nat.mul_le_mul_right _ hK)
  have hsw : Format.signWeight double = 2 ^ 63 := rfl
  have hbin : Format.binade double = 2 ^ 52 := rfl
  have hinf : Format.infRung double = 2047 * 2 ^ 52 := rfl
  have hlp : Format.leastPlace double = -1074 := rfl
  have hneg : (Format.word double s R / 2 ^ 63 % 2 == 1) = s := by
   unfold Format.word; rw [hsw]
   cases s
   ·simp only [Bool.false_eq_true, if_false]; rw [Nat.div_eq_of_lt (by omega)]; rfl
   ·simp only [if_true]; rw [show (2 ^ 63 + R) / 2 ^ 63 = 1 by omega]; rfl
  have hrung : Format.word double s R % 2 ^ 63 = R := by
   unfold Format.word; rw [hsw]
   cases s
   ·simp only [Bool.false_eq_true, if_false]; omega
   ·simp only [if_true]; omega
  unfold Format.read
  simp only [hsw, hbin, hinf, hlp, hneg, hrung]
  split
  ·rename_i hlt
   refine ⟨_, _, rfl, ?_⟩
   rcases Nat.eq_zero_or_pos R with e | e
   ·exact .inl e
   ·right
    have : R.log2 < 52 := (Nat.log2_lt (by omega)).2 hlt
    omega
  ·rename_i hge
   rw [if_pos (by omega)]
   refine ⟨_, _, rfl, .inr ?_⟩
   have hm : R % 2 ^ 52 < 2 ^ 52 := Nat.mod_lt _ (Nat.two_pow_pos _)
   have hl : (2 ^ 52 + R % 2 ^ 52).log2 < 53 := (Nat.log2_lt (by omega)).2 (by omega)
   have hq : R / 2 ^ 52 ≤ (K + 1024).toNat := by
    have := Nat.div_le_div_right (c := 2 ^ 52) hR
    rwa [Nat.mul_div_cancel _ (Nat.two_pow_pos _)] at this
   have hq1 : 1 ≤ R / 2 ^ 52 := by omega
   omega
 unfold Format.write Format.nearest
 simp only
 split
 ·exact rd 0 (Nat.zero_le _)
 rename_i hm
 have hL : e + (m.log2 : Int) ≤ K := by rcases h with h | h; exact absurd h hm; exact h
 have hlp : Format.leastPlace double = -1074 := rfl
 have hfb : ((Format.fractionBits double : Nat) : Int) = 52 := rfl
 have hbin : Format.binade double = 2 ^ 52 := rfl
 have hinf : Format.infRung double = 2047 * 2 ^ 52 := rfl
 rw [hlp, hfb, hbin, hinf]
 generalize hlast : max (e + (m.log2 : Int) - 52) (-1074) = last
 have hl1 : e + (m.log2 : Int) - 52 ≤ last := by omega
 have hl2 : last ≤ K - 52 ∨ last = -1074 := by omega
 have hl3 : -1074 ≤ last := by omega
 have hkept : Toward.cut .even s (m <<< (e - last).toNat) (last - e).toNat ≤ 2 ^ 53 := by
  refine cut_even_le _ _ _ _ ?_ (Nat.two_pow_pos _)
  rw [Nat.shiftLeft_eq, ← Nat.pow_add]
  have h2 : m < 2 ^ (m.log2 + 1) := Nat.lt_log2_self
  calc m * 2 ^ (e - last).toNat < 2 ^ (m.log2 + 1) * 2 ^ (e - last).toNat := Nat.mul_lt_mul_of_pos_right h2 (Nat.two_pow_pos _)
   _ = 2 ^ (m.log2 + 1 + (e - last).toNat) := by rw [← Nat.pow_add]
   _ ≤ 2 ^ (53 + (last - e).toNat) := Nat.pow_le_pow_right (by omega) (by omega)
 refine rd _ (Nat.le_trans (Nat.min_le_left _ _) ?_)
 have hpl : (last - -1074).toNat ≤ (K + 1022).toNat := by omega
 calc (last - -1074).toNat * 2 ^ 52 + Toward.cut .even s (m <<< (e - last).toNat) (last - e).toNat ≤ (K + 1022).toNat * 2 ^ 52 + 2 ^ 53 := Nat.add_le_add (Nat.mul_le_mul_right _ hpl) hkept
  _ = ((K + 1022).toNat + 2) * 2 ^ 52 := by rw [Nat.add_mul]
  _ ≤ (K + 1024).toNat * 2 ^ 52 := Nat.mul_le_mul_right _ (by omega)
theorem log2_mul_le {m n : Nat} (hm : m ≠ 0) (hn : n ≠ 0) : (m * n).log2 ≤ m.log2 + n.log2 + 1 := by
 have h1 : m < 2 ^ (m.log2 + 1) := Nat.lt_log2_self
 have h2 : n < 2 ^ (n.log2 + 1) := Nat.lt_log2_self
 have : m * n < 2 ^ (m.log2 + n.log2 + 2) := by
  calc m * n < 2 ^ (m.log2 + 1) * 2 ^ (n.log2 + 1) := Nat.mul_lt_mul'' h1 h2
   _ = 2 ^ (m.log2 + n.log2 + 2) := by rw [← Nat.pow_add]; congr 1; omega
 have := (Nat.log2_lt (Nat.mul_ne_zero hm hn)).2 this
 omega
theorem low_mul {K L : Int} {x y : Nat} {s t : Bool} {m n : Nat} {e j : Int} (hx : Format.read double x = .number s m e) (hy : Format.read double y = .number t n j) (h1 : Low K m e) (h2 : Low L n j) (h0 : 0 ≤ K + L + 1) (h9 : K + L + 1 ≤ 900) :
  ∃ r m' e', Format.mul double x y = some r ∧ Format.read double r = .number (s ^^ t) m' e' ∧ Low (K + L + 2) m' e' := by
 have hl : Low (K + L + 1) (m * n) (e + j) := by
  rcases Nat.eq_zero_or_pos m with hm | hm
  ·exact .inl (by simp [hm])
  rcases Nat.eq_zero_or_pos n with hn | hn
  ·exact .inl (by simp [hn])
  right
  have a : e + (m.log2 : Int) ≤ K := by rcases h1 with h | h; omega; exact h
  have b : j + (n.log2 : Int) ≤ L := by rcases h2 with h | h; omega; exact h
  have := log2_mul_le (m := m) (n := n) (by omega) (by omega)
  omega
 obtain ⟨m', e', h3, h4⟩ := low_write (s := s ^^ t) hl h0 h9
 exact ⟨_, m', e', by unfold Format.mul; rw [hx, hy]; rfl, h3, h4.mono (by omega)⟩
theorem signed_abs (s : Bool) (m up : Nat) : (signed s m up).natAbs = m * 2 ^ up := by
 unfold signed
 rw [Nat.shiftLeft_eq]
 cases s <;> simp [Int.natAbs_mul, Int.natAbs_pow]
theorem low_add {K : Int} {x y : Nat} {s t : Bool} {m n : Nat} {e j : Int} (hx : Format.read double x = .number s m e) (hy : Format.read double y = .number t n j) (h1 : Low K m e) (h2 : Low K n j) (h0 : 0 ≤ K) (h9 : K ≤ 899) :
  ∃ r s' m' e', Format.add double x y = some r ∧ Format.read double r = .number s' m' e' ∧ Low (K + 2) m' e' := by
 have part : ∀ (m : Nat) (e base : Int), Low K m e → base ≤ e → m * 2 ^ (e - base).toNat < 2 ^ (K + 1 - base).toNat ∨ m = 0 := by
  intro m e base h hb
  rcases Nat.eq_zero_or_pos m with hm | hm
  ·exact .inr hm
  left
  have a : e + (m.log2 : Int) ≤ K := by rcases h with h | h; omega; exact h
  have h2 : m < 2 ^ (m.log2 + 1) := Nat.lt_log2_self
  calc m * 2 ^ (e - base).toNat < 2 ^ (m.log2 + 1) * 2 ^ (e - base).toNat := Nat.mul_lt_mul_of_pos_right h2 (Nat.two_pow_pos _)
   _ = 2 ^ (m.log2 + 1 + (e - base).toNat) := by rw [← Nat.pow_add]
   _ ≤ 2 ^ (K + 1 - base).toNat := Nat.pow_le_pow_right (by omega) (by omega)
 generalize hb : min e j = base
 have hl : Low (K + 1) (signed s m (e - base).toNat + signed t n (j - base).toNat).natAbs base := by
  rcases Nat.eq_zero_or_pos (signed s m (e - base).toNat + signed t n (j - base).toNat).natAbs with h | h
  ·exact .inl h
  right
  have tri := Int.natAbs_add_le (signed s m (e - base).toNat) (signed t n (j - base).toNat)
  rw [signed_abs, signed_abs] at tri
  have hbound : (signed s m (e - base).toNat + signed t n (j - base).toNat).natAbs < 2 ^ ((K + 1 - base).toNat + 1) := by
   rw [Nat.pow_succ]
   have p1 := part m e base h1 (by omega)
   have p2 := part n j base h2 (by omega)
   have pos := Nat.two_pow_pos (K + 1 - base).toNat
   rcases p1 with p1 | p1 <;> rcases p2 with p2 | p2
   ·omega
   ·subst p2; simp only [Nat.zero_mul] at tri; omega
   ·subst p1; simp only [Nat.zero_mul] at tri; omega
   ·subst p1; subst p2; simp only [Nat.zero_mul] at tri; omega
  have := (Nat.log2_lt (by omega)).2 hbound
  have hK : 0 ≤ K + 1 - base := by
   apply Classical.byContradiction
   intro hc
   have p1 := part m e base h1 (by omega)
   have p2 := part n j base h2 (by omega)
   rw [show (K + 1 - base).toNat = 0 by omega] at p1 p2
   have q1 : m = 0 := by
    rcases p1 with p1 | p1
    ·have := Nat.two_pow_pos (e - base).toNat
     rcases Nat.eq_zero_or_pos m with h | h
     ·exact h
     ·have := Nat.mul_pos h this; omega
    ·exact p1
   have q2 : n = 0 := by
    rcases p2 with p2 | p2
    ·have := Nat.two_pow_pos (j - base).toNat
     rcases Nat.eq_zero_or_pos n with h | h
     ·exact h
     ·have := Nat.mul_pos h this; omega
    ·exact p2
   subst q1; subst q2; simp only [Nat.zero_mul] at tri; omega
  omega
 obtain ⟨m', e', h3, h4⟩ := low_write (s := if signed s m (e - base).toNat + signed t n (j - base).toNat = 0 then s && t else decide (signed s m (e - base).toNat + signed t n (j - base).toNat < 0)) hl (by omega) (by omega)
 refine ⟨_, _, m', e', ?_, h3, h4.mono (by omega)⟩
 unfold Format.add
 rw [hx, hy]
 simp only [Datum.sum, hb, Option.map_some]
theorem low_int {K : Int} {s : Bool} {m : Nat} {e : Int} (h : Low K m e) (h0 : 0 ≤ K) : ∃ z, Datum.toInt .zero (.number s m e) = some z ∧ z.natAbs < 2 ^ (K + 1).toNat := by
 refine ⟨_, rfl, ?_⟩
 rw [signed_abs, Nat.pow_zero, Nat.mul_one]
 unfold Toward.cut
 simp only [Bool.toNat_false, Nat.add_zero]
 have hn : m <<< e.toNat < 2 ^ (K + 1).toNat * 2 ^ (-e).toNat := by
  rw [Nat.shiftLeft_eq]
  rcases Nat.eq_zero_or_pos m with hm | hm
  ·subst hm; rw [Nat.zero_mul]; exact Nat.mul_pos (Nat.two_pow_pos _) (Nat.two_pow_pos _)
  have a : e + (m.log2 : Int) ≤ K := by rcases h with h | h; omega; exact h
  have h2 : m < 2 ^ (m.log2 + 1) := Nat.lt_log2_self
  calc m * 2 ^ e.toNat < 2 ^ (m.log2 + 1) * 2 ^ e.toNat := Nat.mul_lt_mul_of_pos_right h2 (Nat.two_pow_pos _)
   _ = 2 ^ (m.log2 + 1 + e.toNat) := by rw [← Nat.pow_add]
   _ ≤ 2 ^ ((K + 1).toNat + (-e).toNat) := Nat.pow_le_pow_right (by omega) (by omega)
   _ = _ := by rw [Nat.pow_add]
 generalize m <<< e.toNat = n at *
 rw [Nat.shiftLeft_eq, Nat.one_mul]
 rcases Nat.le_total (-e).toNat (n.log2 + 2) with hd | hd
 ·rw [Nat.min_eq_left hd]
  exact (Nat.div_lt_iff_lt_mul (Nat.two_pow_pos _)).2 hn
 ·rw [Nat.min_eq_right hd]
  have : n < 2 ^ (n.log2 + 2) := Nat.lt_of_lt_of_le Nat.lt_log2_self (Nat.pow_le_pow_right (by omega) (by omega))
  rw [Nat.div_eq_of_lt this]; exact Nat.two_pow_pos _
theorem low_order {x y : Nat} {m n : Nat} {e j : Int} (hx : Format.read double x = .number false m e) (hy : Format.read double y = .number false n j) (h : Format.order double x y = some .lt) : Low (j + (n.log2 : Int)) m e := by
 unfold Format.order at h
 rw [hx, hy] at h
 simp only [Datum.order, signed, Bool.false_eq_true, if_false, Option.some.injEq] at h
 rcases Nat.eq_zero_or_pos m with hm | hm
 ·exact .inl hm
 right
 generalize hb : min e j = base at h
 rw [Nat.shiftLeft_eq, Nat.shiftLeft_eq] at h
 have hlt : m * 2 ^ (e - base).toNat < n * 2 ^ (j - base).toNat := by
  have hi : ((m * 2 ^ (e - base).toNat : Nat) : Int) < ((n * 2 ^ (j - base).toNat : Nat) : Int) := by
   apply Classical.byContradiction
   intro hc
   simp only [compare, compareOfLessAndEq, if_neg hc] at h
   split at h <;> cases h
  omega
 have h1 : 2 ^ m.log2 ≤ m := Nat.log2_self_le (by omega)
 have h2 : n < 2 ^ (n.log2 + 1) := Nat.lt_log2_self
 have h3 : 2 ^ (m.log2 + (e - base).toNat) < 2 ^ (n.log2 + 1 + (j - base).toNat) := by
  calc 2 ^ (m.log2 + (e - base).toNat) = 2 ^ m.log2 * 2 ^ (e - base).toNat := by rw [Nat.pow_add]
   _ ≤ m * 2 ^ (e - base).toNat := Nat.mul_le_mul_right _ h1
   _ < n * 2 ^ (j - base).toNat := hlt
   _ ≤ 2 ^ (n.log2 + 1) * 2 ^ (j - base).toNat := Nat.mul_le_mul_right _ (Nat.le_of_lt h2)
   _ = 2 ^ (n.log2 + 1 + (j - base).toNat) := (Nat.pow_add 2 (n.log2 + 1) (j - base).toNat).symm
 have h4 := (Nat.pow_lt_pow_iff_right (a := 2) (by omega)).1 h3
 omega
theorem read_e9 : Format.read double 4741671816366391296 = .number false 8388608000000000 (-23) := by decide
theorem read_e6 : Format.read double 4696837146684686336 = .number false 8589934592000000 (-33) := by decide
theorem read_half : Format.read double 4602678819172646912 = .number false 4503599627370496 (-53) := by decide
theorem read_zero : Format.read double 0 = .number false 0 (-1074) := by decide
theorem read_neg {b : Nat} (hb : b < 2 ^ 64) : Format.read double (b ^^^ 2 ^ 63) = (Format.read double b).opposite := by
 have h1 : (b ^^^ 2 ^ 63) % 2 ^ 63 = b % 2 ^ 63 := by rw [Nat.xor_mod_two_pow]; simp
 have h2 : (b ^^^ 2 ^ 63) / 2 ^ 63 = (b / 2 ^ 63) ^^^ 1 := by rw [Nat.xor_div_two_pow]
 have hsw : Format.signWeight double = 2 ^ 63 := rfl
 have hneg : ((b ^^^ 2 ^ 63) / 2 ^ 63 % 2 == 1) = !(b / 2 ^ 63 % 2 == 1) := by
  rw [h2]
  have hq : b / 2 ^ 63 = 0 ∨ b / 2 ^ 63 = 1 := by omega
  rcases hq with hq | hq <;> rw [hq] <;> rfl
 unfold Format.read
 simp only [hsw, h1, hneg]
 split
 ·rfl
 ·split
  ·rfl
  ·split <;> rfl
theorem told_ok {a : Nat} (h : Format.order double a 4741671816366391296 = some .lt) (hs : ∀ m e, Format.read double a = .number true m e → m = 0) (hi : Format.read double a ≠ .infinity true) :
  ∃ r1 r2 z, Format.mul double a 4696837146684686336 = some r1 ∧ Format.add double r1 4602678819172646912 = some r2 ∧ (Format.read double r2).toInt .zero = some z ∧ z.natAbs < 2 ^ 60 := by
 have key : ∃ s m e, Format.read double a = .number s m e ∧ Low 29 m e := by
  cases hr : Format.read double a with
  | nan s t => unfold Format.order at h; rw [hr] at h; simp [Datum.order] at h
  | infinity s =>
   unfold Format.order at h
   rw [hr, read_e9] at h
   cases s
   ·simp [Datum.order] at h
   ·exact absurd hr hi
  | number s m e =>
   refine ⟨s, m, e, rfl, ?_⟩
   cases s with
   | true => exact .inl (hs m e hr)
   | false =>
    have := low_order hr read_e9 h
    exact this.mono (by decide)
 obtain ⟨s, m, e, h1, h2⟩ := key
 obtain ⟨r1, m1, e1, a1, a2, a3⟩ := low_mul h1 read_e6 h2 (L := 20) (.inr (by decide)) (by omega) (by omega)
 obtain ⟨r2, s2, m2, e2, b1, b2, b3⟩ := low_add a2 read_half (a3.mono (by omega : _ ≤ (52 : Int))) (.inr (by decide)) (by omega) (by omega)
 obtain ⟨z, c1, c2⟩ := low_int (s := s2) b3 (by omega)
 refine ⟨r1, r2, z, a1, b1, by rw [b2]; exact c1, Nat.lt_of_lt_of_le c2 (Nat.pow_le_pow_right (by omega) (by omega))⟩
theorem div_ok (k : Int) (hk : k.natAbs < 2 ^ 64) : ∃ q, Format.div double (FloatKind.nearest .f64 k) 4696837146684686336 = some q := by
 have hl : Low 64 k.natAbs 0 := by
  rcases Nat.eq_zero_or_pos k.natAbs with h | h
  ·exact .inl h
  ·have := (Nat.log2_lt (by omega)).2 hk
   exact .inr (by omega)
 obtain ⟨m, e, h1, h2⟩ := low_write (s := decide (k < 0)) hl (by omega) (by omega)
 have hd : ∃ d, Datum.quotient (double.fractionBits + 2) (Format.read double (Format.write double (.number (decide (k < 0)) k.natAbs 0))) (Format.read double 4696837146684686336) = some d := by
  rw [h1, read_e6]
  exact ⟨_, rfl⟩
 obtain ⟨d, hd⟩ := hd
 refine ⟨Format.write double d, ?_⟩
 show (Datum.quotient (double.fractionBits + 2) (Format.read double (Format.write double (.number (decide (k < 0)) k.natAbs 0))) (Format.read double 4696837146684686336)).map _ = _
 rw [hd]; rfl
theorem pos_ok {b : Nat} (h : Format.order double b 0 ≠ some .lt) : (∀ m e, Format.read double b = .number true m e → m = 0) ∧ Format.read double b ≠ .infinity true := by
 unfold Format.order at h
 rw [read_zero] at h
 constructor
 ·intro m e hr
  rw [hr] at h
  apply Classical.byContradiction
  intro hm
  apply h
  simp only [Datum.order, signed, Option.some.injEq]
  simp only [if_true, Bool.false_eq_true, if_false, Nat.zero_shiftLeft, Nat.shiftLeft_eq]
  have hp : 0 < m * 2 ^ (e - min e (-1074)).toNat := Nat.mul_pos (by omega) (Nat.two_pow_pos _)
  simp only [compare, compareOfLessAndEq]
  rw [if_pos (by omega)]
 ·intro hr
  rw [hr] at h
  exact h rfl
theorem neg_ok {b : Nat} (hb : b < 2 ^ 64) (h : Format.order double b 0 = some .lt) (h9 : Format.order double (b ^^^ 2 ^ 63) 4741671816366391296 = some .lt) :
  (∀ m e, Format.read double (b ^^^ 2 ^ 63) = .number true m e → m = 0) ∧ Format.read double (b ^^^ 2 ^ 63) ≠ .infinity true := by
 have hn := read_neg hb
 unfold Format.order at h
 rw [read_zero] at h
 constructor
 ·intro m e hr
  rw [hn] at hr
  cases hrb : Format.read double b with
  | nan s t => rw [hrb] at hr; cases hr
  | infinity s => rw [hrb] at hr; cases hr
  | number s m' e' =>
   rw [hrb] at hr h
   simp only [Datum.opposite, Datum.number.injEq, Bool.not_eq_true'] at hr
   obtain ⟨rfl, rfl, rfl⟩ := hr
   exfalso
   simp only [Datum.order, signed, Bool.false_eq_true, if_false, Option.some.injEq, Nat.zero_shiftLeft] at h
   generalize m' <<< (e' - min e' (-1074)).toNat = q at h
   simp only [compare, compareOfLessAndEq] at h
   rw [if_neg (by omega)] at h
   split at h <;> cases h
 ·intro hr
  rw [hn] at hr
  cases hrb : Format.read double b with
  | nan s t => rw [hrb] at hr; cases hr
  | number s m' e' => rw [hrb] at hr; cases hr
  | infinity s =>
   rw [hrb] at hr h
   cases s
   ·cases h
   ·cases hr
end Go.AM
namespace Go.AM
open Go.RowKit
variable {α : Type}
def sl (y : Nat) : Nat → Value
 | 0 => .slice none 0 0
 | m + 1 => .slice (some ⟨y, 0, none⟩) (m + 1 : Nat) (m + 1 : Nat)
theorem sl_pos {y m : Nat} (h : m ≠ 0) : sl y m = .slice (some ⟨y, 0, none⟩) m m := by
 cases m with
 | zero => exact absurd rfl h
 | succ m => rfl
def slp (y : Nat) : Nat → Option Addr
 | 0 => none
 | _ + 1 => some ⟨y, 0, none⟩
theorem sl_eq (y m : Nat) : sl y m = .slice (slp y m) m m := by cases m <;> rfl
theorem slp_pos {y m : Nat} (h : m ≠ 0) : slp y m = some ⟨y, 0, none⟩ := by
 cases m with
 | zero => exact absurd rfl h
 | succ m => rfl
def llcells (ys : Nat → Nat) (ls : List (List α)) : List Value := ls.mapIdx fun v l => sl (ys v) l.length
structure LL (m : Nat) (H : Heap) (x ty ety : Nat) (enc : α → List Value) (ls : List (List α)) (ys : Nat → Nat) : Prop where
 hx : H x = .cells (llcells ys ls) ty true
 hy : ∀ v (h : v < ls.length), ls[v] ≠ [] → H (ys v) = .cells (ls[v].flatMap enc) ety true
 inj : ∀ u v (hu : u < ls.length) (hv : v < ls.length), ls[u] ≠ [] → ls[v] ≠ [] → ys u = ys v → u = v
 fy : ∀ v (h : v < ls.length), ls[v] ≠ [] → m ≤ ys v
 ne : ∀ v (h : v < ls.length), ls[v] ≠ [] → ys v ≠ x
section
variable {m n n' x ty ety : Nat} {H H' : Heap} {enc : α → List Value} {ls : List (List α)} {ys : Nat → Nat}
theorem live_lt (hw : WF n H) {z : Nat} (h : H z ≠ .dead) : z < n := by
 apply Classical.byContradiction
 intro hc
 exact h (hw z (by omega))
theorem live_of {z : Nat} {cs : List Value} {t : TypeId} {own : Bool} (h : H z = .cells cs t own) : H z ≠ .dead := by rw [h]; intro e; cases e
end
end Go.AM
namespace Go.AM
inductive Nul (g : Gram) : Int → Prop
 | mk (i : Nat) (h : i < g.rules.length) (h0 : ∀ s ∈ g.rules[i].right, 0 ≤ s) (h1 : ∀ s ∈ g.rules[i].right, Nul g s) : Nul g g.rules[i].left
inductive Prd (g : Gram) : Int → Prop
 | mk (i : Nat) (h : i < g.rules.length) (h1 : ∀ s ∈ g.rules[i].right, 0 ≤ s → Prd g s) : Prd g g.rules[i].left
inductive Der (rb : GRule → List Bool → Bool) (rules : List GRule) (hs : List Bool) : List Bool → Prop
 | refl : Der rb rules hs hs
 | step {h1 : List Bool} (d : Der rb rules hs h1) (r : GRule) (hr : r ∈ rules) (hb : rb r h1 = true) : Der rb rules hs (h1.set r.left.toNat true)
def nulB (right : List Int) (hs : List Bool) : Bool := right.all fun s => decide (0 ≤ s) && hs.getD s.toNat false
def prdB (right : List Int) (hs : List Bool) : Bool := right.all fun s => decide (s < 0) || hs.getD s.toNat false
structure InG (g : Gram) : Prop where
 left0 : ∀ r ∈ g.rules, 0 ≤ r.left
 left1 : ∀ r ∈ g.rules, r.left < g.vars.length
 right : ∀ r ∈ g.rules, ∀ s ∈ r.right, s < g.vars.length
 rightT : ∀ r ∈ g.rules, ∀ s ∈ r.right, s < 0 → -s - 1 < g.terms.length
def hold (hs : List Bool) (v : Int) : Prop := 0 ≤ v ∧ hs.getD v.toNat false = true
theorem hold_set {hs : List Bool} {w v : Int} (hw : 0 ≤ w) (h : hold (hs.set w.toNat true) v) : hold hs v ∨ v = w := by
 obtain ⟨h0, h⟩ := h
 rw [List.getD_eq_getElem?_getD, List.getElem?_set] at h
 by_cases e : w.toNat = v.toNat
 ·exact .inr (by omega)
 ·rw [if_neg e] at h
  exact .inl ⟨h0, by rwa [List.getD_eq_getElem?_getD]⟩
theorem nulB_hold {right : List Int} {hs : List Bool} : nulB right hs = true ↔ ∀ s ∈ right, hold hs s := by
 unfold nulB hold
 rw [List.all_eq_true]
 simp
theorem prdB_hold {right : List Int} {hs : List Bool} : prdB right hs = true ↔ ∀ s ∈ right, 0 ≤ s → hold hs s := by
 unfold prdB hold
 rw [List.all_eq_true]
 constructor
 ·intro h s hs h0
  have := h s hs
  simp at this
  exact ⟨h0, by rcases this with h | h; omega; simpa using h⟩
 ·intro h s hs
  rcases Int.lt_or_le s 0 with h0 | h0
  ·simp [h0]
  ·have := (h s hs h0).2
   simp at this
   simp [this]
theorem closed_nul {g : Gram} (hg : InG g) {hs : List Bool} (hc : ∀ r ∈ g.rules, hs.getD r.left.toNat false = true ∨ nulB r.right hs = false) : ∀ v, Nul g v → hold hs v := by
 intro v h
 induction h with
 | mk i h h0 h1 ih =>
  have hm := List.getElem_mem h
  rcases hc _ hm with e | e
  ·exact ⟨hg.left0 _ hm, e⟩
  ·rw [nulB_hold.2 fun s hs => ih s hs] at e; cases e
theorem der_prd {g : Gram} (hg : InG g) {n : Nat} {hs : List Bool} (d : Der (fun r => prdB r.right) g.rules (List.replicate n false) hs) : ∀ v, hold hs v → Prd g v := by
 induction d with
 | refl =>
  intro v h
  exfalso
  have := h.2
  rw [List.getD_eq_getElem?_getD, List.getElem?_replicate] at this
  split at this <;> simp at this
 | step d r hr hb ih =>
  intro v h
  rcases hold_set (hg.left0 r hr) h with h | rfl
  ·exact ih v h
  ·obtain ⟨i, hi, rfl⟩ := List.getElem_of_mem hr
   exact .mk i hi (fun s hs h0 => ih s ((prdB_hold.1 hb) s hs h0))
theorem closed_prd {g : Gram} (hg : InG g) {hs : List Bool} (hc : ∀ r ∈ g.rules, hs.getD r.left.toNat false = true ∨ prdB r.right hs = false) : ∀ v, Prd g v → hold hs v := by
 intro v h
 induction h with
 | mk i h h1 ih =>
  have hm := List.getElem_mem h
  rcases hc _ hm with e | e
  ·exact ⟨hg.left0 _ hm, e⟩
  ·rw [prdB_hold.2 fun s hs h0 => ih s hs h0] at e; cases e
structure Edg (g : Gram) (v : Int) (i at_ : Nat) (u : Int) : Prop where
 hi : i < g.rules.length
 left : g.rules[i].left = v
 hat : g.rules[i].right[at_]? = some u
 u0 : 0 ≤ u
 nul : ∀ q, q < at_ → ∀ s, g.rules[i].right[q]? = some s → Nul g s
def Beg (g : Gram) (v u : Int) : Prop := ∃ i at_, Edg g v i at_ u
inductive Rch (g : Gram) (v : Int) : Int → Prop
 | one {u : Int} (h : Beg g v u) : Rch g v u
 | more {u w : Int} (h : Rch g v u) (k : Beg g u w) : Rch g v w
end Go.AM
namespace Go.AM
structure RoundTo (rb : GRule → List Bool → Bool) (rules : List GRule) (k : Nat) (hs nx : List Bool) : Prop where
 len : nx.length = hs.length
 mem : ∀ v : Nat, v < hs.length → (nx.getD v false = true ↔ hs.getD v false = true ∨ ∃ i, ∃ h : i < rules.length, i < k ∧ rules[i].left = v ∧ rb rules[i] hs = true)
def ClosedR (rb : GRule → List Bool → Bool) (rules : List GRule) (hs : List Bool) : Prop := ∀ r ∈ rules, hs.getD r.left.toNat false = true ∨ rb r hs = false
theorem RoundTo.start (rb : GRule → List Bool → Bool) (rules : List GRule) (hs : List Bool) : RoundTo rb rules 0 hs hs := by
 refine ⟨rfl, fun v hv => ⟨.inl, ?_⟩⟩
 rintro (h | ⟨i, _, h, _⟩)
 ·exact h
 ·omega
theorem RoundTo.skip {rb : GRule → List Bool → Bool} {rules : List GRule} {k : Nat} {hs nx : List Bool} (h : RoundTo rb rules k hs nx) (hk : k < rules.length) (hb : rb rules[k] hs = false) : RoundTo rb rules (k + 1) hs nx := by
 refine ⟨h.len, fun v hv => (h.mem v hv).trans ?_⟩
 constructor
 ·rintro (e | ⟨i, h1, h2, h3⟩)
  ·exact .inl e
  ·exact .inr ⟨i, h1, by omega, h3⟩
 ·rintro (e | ⟨i, h1, h2, h3, h4⟩)
  ·exact .inl e
  ·by_cases e : i = k
   ·subst e; rw [hb] at h4; cases h4
   ·exact .inr ⟨i, h1, by omega, h3, h4⟩
theorem RoundTo.take {rb : GRule → List Bool → Bool} {rules : List GRule} {k l : Nat} {hs nx : List Bool} (h : RoundTo rb rules k hs nx) (hk : k < rules.length) (hl : rules[k].left = l) (hll : l < hs.length) (hb : rb rules[k] hs = true) : RoundTo rb rules (k + 1) hs (nx.set l true) := by
 refine ⟨by rw [List.length_set, h.len], fun v hv => ?_⟩
 have hvn : v < nx.length := by rw [h.len]; exact hv
 rw [List.getD_eq_getElem?_getD, List.getElem?_set]
 by_cases e : l = v
 ·subst e
  simp [hvn]
  exact .inr ⟨k, by omega, hk, hl, hb⟩
 ·rw [if_neg e, ← List.getD_eq_getElem?_getD, h.mem v hv]
  constructor
  ·rintro (e | ⟨i, h1, h2, h3⟩)
   ·exact .inl e
   ·exact .inr ⟨i, h1, by omega, h3⟩
  ·rintro (e' | ⟨i, h1, h2, h3, h4⟩)
   ·exact .inl e'
   ·by_cases e2 : i = k
    ·subst e2
     rw [hl] at h3
     exact absurd (by omega) e
    ·exact .inr ⟨i, h1, by omega, h3, h4⟩
theorem count_le_of {hs nx : List Bool} (hl : nx.length = hs.length) (h : ∀ v, v < hs.length → hs.getD v false = true → nx.getD v false = true) : hs.count true ≤ nx.count true := by
 induction hs generalizing nx with
 | nil => simp
 | cons a hs ih =>
  match nx, hl with
  | b :: nx, hl =>
   have h0 := h 0 (by simp)
   have h1 := ih (nx := nx) (by simpa using hl) (fun v hv e => by
    have := h (v + 1) (by simpa using hv) (by simpa using e)
    simpa using this)
   simp at h0
   cases a <;> cases b <;> simp_all <;> omega
theorem count_lt_of {hs nx : List Bool} (hl : nx.length = hs.length) (h : ∀ v, v < hs.length → hs.getD v false = true → nx.getD v false = true) {w : Nat} (hw : w < hs.length) (h1 : hs.getD w false = false) (h2 : nx.getD w false = true) : hs.count true < nx.count true := by
 induction hs generalizing nx w with
 | nil => simp at hw
 | cons a hs ih =>
  match nx, hl with
  | b :: nx, hl =>
   have h0 := h 0 (by simp)
   have hr : ∀ v, v < hs.length → hs.getD v false = true → nx.getD v false = true := fun v hv e => by
    have := h (v + 1) (by simpa using hv) (by simpa using e)
    simpa using this
   cases w with
   | zero =>
    simp at h1 h2
    subst h1 h2
    have := count_le_of (by simpa using hl) hr
    simp; omega
   | succ w =>
    have := ih (nx := nx) (w := w) (by simpa using hl) hr (by simpa using hw) (by simpa using h1) (by simpa using h2)
    simp at h0
    cases a <;> cases b <;> simp_all <;> omega
theorem RoundTo.next {rb : GRule → List Bool → Bool} {rules : List GRule} {hs nx : List Bool} {n : Nat} (h : RoundTo rb rules rules.length hs nx) (hleft : ∀ r ∈ rules, 0 ≤ r.left ∧ r.left < hs.length) (hp : ClosedR rb rules hs ∨ n ≤ hs.count true) :
    ClosedR rb rules nx ∨ n + 1 ≤ nx.count true := by
  have up : ∀ v, v < hs.length → hs.getD v false = true → nx.getD v false = true := fun v hv e => (h.mem v hv).2 (.inl e)
  by_cases hc : ClosedR rb rules hs
  · left
    have e : nx = hs := by
      apply List.ext_getElem?
      intro i
      by_cases hi : i < hs.length
      · have hin : i < nx.length := by rw [h.len]; exact hi
        have := h.mem i hi
        rw [List.getElem?_eq_getElem hi, List.getElem?_eq_getElem hin]
        simp only [List.getD_eq_getElem?_getD, List.getElem?_eq_getElem hi, List.getElem?_eq_getElem hin, Option.getD_some] at this
        congr 1
        rw [Bool.eq_iff_iff, this]
        refine ⟨?_, .inl⟩
        rintro (e | ⟨q, h1, _, h3, h4⟩)
        · exact e
        · rcases hc _ (List.getElem_mem h1) with e | e
          · rw [h3] at e
            simpa [hi] using e
          · rw [e] at h4; cases h4
      · rw [List.getElem?_eq_none (l := nx) (by rw [h.len]; omega), List.getElem?_eq_none (l := hs) (by omega)]
    rw [e]; exact hc
  · right
    rcases hp with hp | hp
    · exact absurd hp hc
    · have : ∃ r ∈ rules, hs.getD r.left.toNat false = false ∧ rb r hs = true := by
        apply Classical.byContradiction
        intro hn
        refine hc fun r hr => ?_
        by_cases e1 : hs.getD r.left.toNat false = true
        · exact .inl e1
        · by_cases e2 : rb r hs = true
          · exact absurd ⟨r, hr, by simpa using e1, e2⟩ hn
          · exact .inr (by simpa using e2)
      obtain ⟨r, hr, e1, e2⟩ := this
      obtain ⟨i, hi, rfl⟩ := List.getElem_of_mem hr
      have hl := hleft _ hr
      have hw : rules[i].left.toNat < hs.length := by omega
      have := count_lt_of h.len up hw e1 ((h.mem _ hw).2 (.inr ⟨i, hi, hi, by omega, e2⟩))
      omega
theorem closed_full {rb : GRule → List Bool → Bool} {rules : List GRule} {hs : List Bool} (hleft : ∀ r ∈ rules, 0 ≤ r.left ∧ r.left < hs.length) (hp : ClosedR rb rules hs ∨ hs.length ≤ hs.count true) : ClosedR rb rules hs := by
 rcases hp with h | h
 ·exact h
 ·intro r hr
  left
  have hl := hleft r hr
  have hall : ∀ b ∈ hs, true = b := List.count_eq_length.1 (Nat.le_antisymm List.count_le_length h)
  have hw : r.left.toNat < hs.length := by omega
  rw [List.getD_eq_getElem?_getD, List.getElem?_eq_getElem hw]
  exact (hall _ (List.getElem_mem hw)).symm
end Go.AM
namespace Go.AM
def farN : Nat := 1073741824
inductive WdL (g : Gram) : List Int → Nat → Prop
 | nil : WdL g [] 0
 | term {s : Int} {rest : List Int} {n : Nat} (h : s < 0) (k : WdL g rest n) : WdL g (s :: rest) (n + 1)
 | var {i : Nat} (h : i < g.rules.length) {rest : List Int} {a b : Nat} (x : WdL g g.rules[i].right a) (k : WdL g rest b) : WdL g (g.rules[i].left :: rest) (a + b)
def sumC (c : Nat → Nat) : List Int → Nat
 | [] => 0
 | s :: rest => (if s < 0 then 1 else c s.toNat) + sumC c rest
def allDone (d : Nat → Bool) (l : List Int) : Prop := ∀ s ∈ l, 0 ≤ s → d s.toNat = true
inductive Ranked (g : Gram) (c : Nat → Nat) (best : Nat → Int) : List Nat → Prop
 | nil : Ranked g c best []
 | snoc {l : List Nat} {v i : Nat} (h : Ranked g c best l) (hv : v ∉ l) (hi : i < g.rules.length) (hb : best v = (i : Int)) (hl : g.rules[i].left = (v : Int)) (hr : ∀ s ∈ g.rules[i].right, 0 ≤ s → s.toNat ∈ l) (hc : c v = sumC c g.rules[i].right) (hf : c v < farN) : Ranked g c best (l ++ [v])
structure Dij (g : Gram) (c : Nat → Nat) (d : Nat → Bool) : Prop where
 least : ∀ v k, v < g.vars.length → d v = true → WdL g [(v : Int)] k → c v ≤ k
 relax : ∀ i (h : i < g.rules.length), d g.rules[i].left.toNat = false → allDone d g.rules[i].right → sumC c g.rules[i].right < farN → c g.rules[i].left.toNat ≤ sumC c g.rules[i].right
end Go.AM
namespace Go.AM
structure CInv (g : Gram) (c : Nat → Nat) (b : Nat → Int) (d : Nat → Bool) (ord : List Nat) (i : Nat) : Prop where
 ranked : Ranked g c b ord
 done : ∀ v, v < g.vars.length → (d v = true ↔ v ∈ ord)
 least : ∀ v k, v < g.vars.length → d v = true → WdL g [(v : Int)] k → c v ≤ k
 cap : ∀ v, v < g.vars.length → c v ≤ farN
 ach : ∀ v, v < g.vars.length → d v = false → c v < farN → ∃ i, ∃ h : i < g.rules.length, b v = (i : Int) ∧ g.rules[i].left = (v : Int) ∧ (∀ s ∈ g.rules[i].right, 0 ≤ s → s.toNat ∈ ord) ∧ c v = sumC c g.rules[i].right
 relax : ∀ j (h : j < g.rules.length), j < i → d g.rules[j].left.toNat = false → allDone d g.rules[j].right → sumC c g.rules[j].right < farN → c g.rules[j].left.toNat ≤ sumC c g.rules[j].right
section
variable {g : Gram} {c : Nat → Nat} {b : Nat → Int} {d : Nat → Bool} {ord : List Nat} {i : Nat}
structure CostOK (g : Gram) (c : Nat → Nat) (b : Nat → Int) : Prop where
 ranked : ∃ ord, Ranked g c b ord ∧ ∀ v, v < g.vars.length → v ∈ ord ∨ v ∉ ord ∧ c v = farN ∧ b v = -1
 least : ∀ v k, v < g.vars.length → WdL g [(v : Int)] k → c v ≤ k ∨ farN ≤ k ∧ c v = farN
end
end Go.AM
namespace Go.AM
inductive Usd (g : Gram) : Int → Prop
 | base (h : Prd g 0) : Usd g 0
 | step (i : Nat) (h : i < g.rules.length) (hu : Usd g g.rules[i].left) (hp : ∀ s ∈ g.rules[i].right, 0 ≤ s → Prd g s) {s : Int} (hs : s ∈ g.rules[i].right) (h0 : 0 ≤ s) : Usd g s
def UClosed (g : Gram) (ws o : List Bool) : Prop := ∀ r ∈ g.rules, hold o r.left → prdB r.right ws = true → ∀ s ∈ r.right, 0 ≤ s → hold o s
theorem usd_of {g : Gram} {ws o : List Bool} (hws : ∀ v, hold ws v ↔ Prd g v) (hsound : ∀ v, hold o v → Usd g v) (hb : Prd g 0 → hold o 0) (hc : UClosed g ws o) (v : Int) : hold o v ↔ Usd g v := by
 refine ⟨hsound v, fun h => ?_⟩
 induction h with
 | base h => exact hb h
 | step i h hu hp hs h0 ih => exact hc _ (List.getElem_mem h) ih (prdB_hold.2 fun s hs h0 => (hws s).2 (hp s hs h0)) _ hs h0
theorem hold_nat {l : List Bool} {u : Nat} : hold l (u : Int) ↔ l[u]? = some true := by
 unfold hold
 rw [Int.toNat_natCast, List.getD_eq_getElem?_getD]
 cases l[u]? with
 | none => simp
 | some b => simp
theorem hold_setI {l : List Bool} {i : Nat} (hi : i < l.length) {v : Int} : hold (l.set i true) v ↔ v = (i : Int) ∨ hold l v := by
 unfold hold
 simp only [List.getD_eq_getElem?_getD, List.getElem?_set]
 by_cases e : i = v.toNat
 ·subst e
  simp only [if_true, hi, Option.getD_some, and_true]
  constructor
  ·intro h; left; omega
  ·rintro (h | h)
   ·omega
   ·exact h.1
 ·rw [if_neg e]
  constructor
  ·exact .inr
  ·rintro (h | h)
   ·omega
   ·exact h
structure UWork (g : Gram) (ws r : List Bool) (todo : List Nat) (busy : Nat → Prop) : Prop where
 sound : ∀ u : Int, hold r u → Usd g u
 known : ∀ u, u ∈ todo → hold r (u : Nat)
 base : hold r 0
 closed : ∀ u : Nat, hold r u → u ∈ todo ∨ busy u ∨ ∀ q ∈ g.rules, q.left = (u : Int) → prdB q.right ws = true → ∀ s ∈ q.right, 0 ≤ s → hold r s
theorem UWork.start {g : Gram} (ws : List Bool) {k : Nat} (hk : 0 < k) (h0 : Prd g 0) : UWork g ws ((List.replicate k false).set 0 true) [0] (fun _ => False) := by
 have hl : 0 < (List.replicate k false).length := by simpa using hk
 have hn : ∀ v, ¬ hold (List.replicate k false) v := by
  intro v h
  have := h.2
  rw [List.getD_eq_getElem?_getD, List.getElem?_replicate] at this
  split at this <;> simp at this
 have hz : ∀ v, hold ((List.replicate k false).set 0 true) v → v = 0 := fun v h => by
  rcases (hold_setI hl).1 h with h | h
  ·exact h
  ·exact absurd h (hn v)
 have hb : hold ((List.replicate k false).set 0 true) 0 := (hold_setI hl).2 (.inl rfl)
 refine ⟨fun u h => by rw [hz u h]; exact .base h0, fun u hu => ?_, hb, fun u h => .inl ?_⟩
 ·have : u = 0 := by simpa using hu
  subst this; exact hb
 ·have := hz _ h
  simp; omega
theorem UWork.pop {g : Gram} {ws r : List Bool} {todo : List Nat} {u : Nat} (h : UWork g ws r (todo ++ [u]) (fun _ => False)) : UWork g ws r todo (fun w => w = u) := by
 refine ⟨h.sound, fun w hw => h.known w (by simp [hw]), h.base, fun w hw => ?_⟩
 rcases h.closed w hw with h1 | h1 | h1
 ·simp at h1
  rcases h1 with h1 | h1
  ·exact .inl h1
  ·exact .inr (.inl h1)
 ·exact h1.elim
 ·exact .inr (.inr h1)
theorem UWork.push {g : Gram} {ws r : List Bool} {todo : List Nat} {u w : Nat} (h : UWork g ws r todo (fun w => w = u)) (hw : w < r.length) (hu : Usd g w) : UWork g ws (r.set w true) (todo ++ [w]) (fun w => w = u) := by
  have up : ∀ x, hold r x → hold (r.set w true) x := fun x hx => (hold_setI hw).2 (.inr hx)
  refine ⟨fun x hx => ?_, fun x hx => ?_, up _ h.base, fun x hx => ?_⟩
  · rcases (hold_setI hw).1 hx with rfl | hx
    · exact hu
    · exact h.sound x hx
  · rcases List.mem_append.1 hx with hx | hx
    · exact up _ (h.known x hx)
    · have : x = w := by simpa using hx
      subst this; exact (hold_setI hw).2 (.inl rfl)
  · rcases (hold_setI hw).1 hx with e | hx'
    · exact .inl (by have : x = w := by omega
                     simp [this])
    · rcases h.closed x hx' with h1 | h1 | h1
      · exact .inl (by simp [h1])
      · exact .inr (.inl h1)
      · exact .inr (.inr fun q hq e hp s hs h0 => up _ (h1 q hq e hp s hs h0))
theorem UWork.done {g : Gram} {ws r : List Bool} {todo : List Nat} {u : Nat} (h : UWork g ws r todo (fun w => w = u)) (ha : ∀ q ∈ g.rules, q.left = (u : Int) → prdB q.right ws = true → ∀ s ∈ q.right, 0 ≤ s → hold r s) : UWork g ws r todo (fun _ => False) := by
 refine ⟨h.sound, h.known, h.base, fun w hw => ?_⟩
 rcases h.closed w hw with h1 | h1 | h1
 ·exact .inl h1
 ·subst h1; exact .inr (.inr ha)
 ·exact .inr (.inr h1)
theorem UWork.over {g : Gram} (hg : InG g) {ws r : List Bool} (h : UWork g ws r [] (fun _ => False)) : UClosed g ws r := by
 intro q hq hl hp s hs h0
 obtain ⟨u, hu⟩ : ∃ u : Nat, q.left = u := ⟨q.left.toNat, by have := hg.left0 q hq; omega⟩
 rw [hu] at hl
 rcases h.closed u hl with h1 | h1 | h1
 ·cases h1
 ·exact h1.elim
 ·exact h1 q hq hu hp s hs h0
def RUr (ws o : List Bool) (r : GRule) (j : Nat) : Prop := hold o r.left → prdB r.right ws = true → ∀ (p : Nat) (s : Int), p < j → r.right[p]? = some s → 0 ≤ s → hold o s
structure RU (g : Gram) (ws o0 o : List Bool) (k j : Nat) : Prop where
 len : o.length = o0.length
 sound : ∀ v, hold o v → Usd g v
 mono : ∀ v, hold o0 v → hold o v
 stay : UClosed g ws o0 → ∀ v, hold o v → hold o0 v
 prog : (o = o0 ∧ (∀ (i : Nat) (h : i < g.rules.length), i < k → RUr ws o0 g.rules[i] g.rules[i].right.length) ∧ ∀ h : k < g.rules.length, RUr ws o0 g.rules[k] j) ∨ o0.count true < o.count true
theorem RUr.zero (ws o : List Bool) (r : GRule) : RUr ws o r 0 := fun _ _ _ _ h => absurd h (Nat.not_lt_zero _)
section
variable {g : Gram} {ws o0 o : List Bool} {k j : Nat}
theorem RU.start (hs : ∀ v, hold o0 v → Usd g v) : RU g ws o0 o0 0 0 := ⟨rfl, hs, fun _ h => h, fun _ _ h => h, .inl ⟨rfl, fun i h hi => absurd hi (Nat.not_lt_zero _), fun _ => .zero _ _ _⟩⟩
theorem RU.skip (h : RU g ws o0 o k j) (hk : k < g.rules.length) {s : Int} (hs : g.rules[k].right[j]? = some s) (hn : ¬ (0 ≤ s ∧ hold o g.rules[k].left ∧ prdB g.rules[k].right ws = true)) : RU g ws o0 o k (j + 1) := by
 refine ⟨h.len, h.sound, h.mono, h.stay, ?_⟩
 rcases h.prog with ⟨e, h1, h2⟩ | h1
 ·refine .inl ⟨e, h1, fun _ hl hp p t hpj ht h0 => ?_⟩
  by_cases hj : p = j
  ·subst hj
   rw [hs] at ht
   cases ht
   exact absurd ⟨h0, by rw [e]; exact hl, hp⟩ hn
  ·exact h2 hk hl hp p t (by omega) ht h0
 ·exact .inr h1
theorem count_set_le {l : List Bool} {i : Nat} (hi : i < l.length) : l.count true ≤ (l.set i true).count true :=
 count_le_of (by simp) fun v hv hv2 => by
  rw [List.getD_eq_getElem?_getD, List.getElem?_set]
  split
  ·rename_i e; subst e; simp [hv]
  ·rwa [← List.getD_eq_getElem?_getD]
theorem RU.take (h : RU g ws o0 o k j) (hk : k < g.rules.length) (hws : ∀ v, hold ws v ↔ Prd g v) {s : Nat} (hs : g.rules[k].right[j]? = some (s : Int)) (hsl : s < o.length) (hl : hold o g.rules[k].left) (hp : prdB g.rules[k].right ws = true) :
  RU g ws o0 (o.set s true) k (j + 1) := by
 have hus : Usd g s := .step k hk (h.sound _ hl) (fun t ht h0 => (hws t).1 (prdB_hold.1 hp t ht h0)) (List.mem_of_getElem? hs) (by omega)
 refine ⟨by rw [List.length_set]; exact h.len, fun v hv => ?_, fun v hv => (hold_setI hsl).2 (.inr (h.mono v hv)), fun hc v hv => ?_, ?_⟩
 ·rcases (hold_setI hsl).1 hv with rfl | hv
  ·exact hus
  ·exact h.sound v hv
 ·rcases (hold_setI hsl).1 hv with rfl | hv
  ·exact hc _ (List.getElem_mem hk) (h.stay hc _ hl) hp _ (List.mem_of_getElem? hs) (by omega)
  ·exact h.stay hc v hv
 ·rcases h.prog with ⟨e, h1, h2⟩ | h1
  ·subst e
   cases hb : o[s] with
   | true =>
    have hsame : o.set s true = o := by
     apply List.ext_getElem? ; intro q
     rw [List.getElem?_set]
     split
     ·rename_i e; subst e; simp [hsl, hb]
     ·rfl
    rw [hsame]
    refine .inl ⟨rfl, h1, fun _ hl hp p t hpj ht h0 => ?_⟩
    by_cases hj : p = j
    ·subst hj
     rw [hs] at ht
     cases ht
     exact hold_nat.2 (by rw [List.getElem?_eq_getElem hsl, hb])
    ·exact h2 hk hl hp p t (by omega) ht h0
   | false =>
    right
    refine count_lt_of (w := s) (by simp) (fun v hv hv2 => ?_) hsl ?_ ?_
    ·rw [List.getD_eq_getElem?_getD, List.getElem?_set]
     split
     ·rename_i e; subst e; simp [hv]
     ·rwa [← List.getD_eq_getElem?_getD]
    ·rw [List.getD_eq_getElem?_getD, List.getElem?_eq_getElem hsl, hb]; rfl
    ·rw [List.getD_eq_getElem?_getD, List.getElem?_set]; simp [hsl]
  ·exact .inr (Nat.lt_of_lt_of_le h1 (count_set_le hsl))
theorem RU.rule (h : RU g ws o0 o k j) (hk : k < g.rules.length) (hj : g.rules[k].right.length ≤ j) : RU g ws o0 o (k + 1) 0 := by
 refine ⟨h.len, h.sound, h.mono, h.stay, ?_⟩
 rcases h.prog with ⟨e, h1, h2⟩ | h1
 ·refine .inl ⟨e, fun i hi hik => ?_, fun _ => .zero _ _ _⟩
  by_cases e2 : i = k
  ·subst e2
   exact fun hl hp p s hpl hs h0 => h2 hk hl hp p s (by omega) hs h0
  ·exact h1 i hi (by omega)
 ·exact .inr h1
theorem RU.next (h : RU g ws o0 o g.rules.length 0) {n : Nat} (hp : UClosed g ws o0 ∨ n ≤ o0.count true) : UClosed g ws o ∨ n + 1 ≤ o.count true := by
 have clo : ∀ o : List Bool, (∀ (i : Nat) (h : i < g.rules.length), i < g.rules.length → RUr ws o g.rules[i] g.rules[i].right.length) → UClosed g ws o := by
  intro o h r hr hl hp s hs h0
  obtain ⟨i, hi, rfl⟩ := List.getElem_of_mem hr
  obtain ⟨p, hp', rfl⟩ := List.getElem_of_mem hs
  exact h i hi hi hl hp p _ hp' (List.getElem?_eq_getElem hp') h0
 rcases h.prog with ⟨e, h1, _⟩ | h1
 ·subst e
  exact .inl (clo _ h1)
 ·rcases hp with hc | hc
  ·left
   intro r hr hl hpr t ht h0
   exact h.mono _ (hc r hr (h.stay hc _ hl) hpr t ht h0)
  ·exact .inr (by omega)
end
theorem uclosed_full {g : Gram} (hg : InG g) {ws o : List Bool} (hl : o.length = g.vars.length) (h : UClosed g ws o ∨ g.vars.length ≤ o.count true) : UClosed g ws o := by
 rcases h with h | h
 ·exact h
 ·intro r hr _ _ s hs h0
  have hall : ∀ b ∈ o, true = b := List.count_eq_length.1 (Nat.le_antisymm List.count_le_length (by omega))
  obtain ⟨u, rfl⟩ : ∃ u : Nat, s = u := ⟨s.toNat, by omega⟩
  have hu : u < o.length := by have := hg.right r hr _ hs; omega
  rw [hold_nat, List.getElem?_eq_getElem hu, ← hall _ (List.getElem_mem hu)]
structure Least (g : Gram) (c : Nat → Nat) : Prop where
 cap : ∀ v, v < g.vars.length → c v ≤ farN
 rel : ∀ r ∈ g.rules, c r.left.toNat ≤ min (sumC c r.right) farN
structure BF (g : Gram) (c : Nat → Nat) (b : Nat → Int) (ord : List Nat) (o : Nat → Nat) (i k : Nat) : Prop where
 lo : ∀ v, v < g.vars.length → c v ≤ o v
 hi : ∀ v, v < g.vars.length → o v ≤ farN
 rank : ∀ p v, p < i → ord[p]? = some v → o v = c v
 cur : ∀ v q, ord[i]? = some v → q < k → b v = (q : Int) → o v = c v
section
variable {g : Gram} {c : Nat → Nat} {b : Nat → Int} {ord : List Nat} {o : Nat → Nat} {i k : Nat}
end
end Go.AM
namespace Go.AM
open Go.RowKit
def wz (P : Program) (all : Array Oper) (K : List Fk) (Q : AExit → St → Prop) : List Bool → List Oper → Fr → Nat → Heap → Prop
 | _, [], f, n, H => WK P .skip K ⟨f, n, H⟩ Q
 | b :: fl, o :: rest, f, n, H => w1 P b (wz P all K Q fl rest) o f n H (wantedA all f o)
 | [], o :: rest, f, n, H => w1 P true (wz P all K Q [] rest) o f n H (wantedA all f o)
theorem wz_sound {P : Program} {all : Array Oper} {K : List Fk} {Q : AExit → St → Prop} : ∀ (rest : List Oper) (fl : List Bool) (j : Nat), (∀ k : Nat, fl[k]? = some false → soloB all (j + k) = true) → ∀ (f : Fr) (n : Nat) (H : Heap), wz P all K Q fl rest f n H →
    ∃ s1 l, BS P (.ops all rest ⟨f, n, H⟩) (.log s1 l) ∧ (∀ (k : Nat) (r : Rec), l[k]? = some r → r.call = true → soloB all (j + k) = true ∨ ∀ x, x < r.pre.n → r.H x = r.pre.H x) ∧ WK P .skip K s1 Q := by
  intro rest
  induction rest with
  | nil =>
    intro fl j hfl f n H h
    refine ⟨⟨f, n, H⟩, [], .opsNil all _, (fun k r hr => by simp at hr), ?_⟩
    cases fl <;> exact h
  | cons o rest ih =>
    intro fl j hfl f n H h
    obtain ⟨b, fl', hfl', hb, h⟩ : ∃ b fl', (∀ k : Nat, fl'[k]? = some false → soloB all (j + 1 + k) = true) ∧ (b = false → soloB all j = true) ∧ w1 P b (wz P all K Q fl' rest) o f n H (wantedA all f o) := by
      cases fl with
      | nil => exact ⟨true, [], fun k hk => by simp at hk, fun e => (by cases e), h⟩
      | cons b fl => exact ⟨b, fl, fun k hk => by rw [show j + 1 + k = j + (k + 1) by omega]; exact hfl (k + 1) (by simpa using hk), fun e => hfl 0 (by subst e; rfl), h⟩
    have op : ∀ t, (∀ r, t = some r → aop P (evalA f) n H o = some r) → wantedA all f o = true → w3 (wz P all K Q fl' rest) f o.dst n H t →
        ∃ s1 l, BS P (.ops all (o :: rest) ⟨f, n, H⟩) (.log s1 l) ∧ (∀ (k : Nat) (r : Rec), l[k]? = some r → r.call = true → soloB all (j + k) = true ∨ ∀ x, x < r.pre.n → r.H x = r.pre.H x) ∧ WK P .skip K s1 Q := fun t ht hw h => by
      cases t with
      | none => cases h
      | some r =>
        obtain ⟨s1, l, h1, h2, h3⟩ := ih fl' (j + 1) hfl' _ _ _ h
        refine ⟨s1, _, .opsOp hw (ht r rfl) h1, fun k q hq hc => ?_, h3⟩
        cases k with
        | zero => simp at hq; subst hq; cases hc
        | succ k => rw [show j + (k + 1) = j + 1 + k by omega]; exact h2 k q (by simpa using hq) hc
    cases hw : wantedA all f o with
    | false =>
      rw [hw] at h
      obtain ⟨s1, l, h1, h2, h3⟩ := ih fl' (j + 1) hfl' _ _ _ h
      refine ⟨s1, _, .opsSkip hw h1, fun k q hq hc => ?_, h3⟩
      cases k with
      | zero => simp at hq; subst hq; cases hc
      | succ k => rw [show j + (k + 1) = j + 1 + k by omega]; exact h2 k q (by simpa using hq) hc
    | true =>
      rw [hw] at h
      simp only [w1] at h
      cases hg : acallee (evalA f) o with
      | none => rw [hg] at h; exact op _ (fun r hr => top_sound hr) hw h
      | some c =>
        obtain ⟨g, args⟩ := c
        rw [hg] at h
        rcases h with h | ⟨v, n1, H1, hbs, hf, h⟩
        · exact op _ (fun r hr => hr) hw h
        · obtain ⟨s1, l, h1, h2, h3⟩ := ih fl' (j + 1) hfl' _ _ _ h
          refine ⟨s1, _, .opsCall hw hg hbs h1, fun k q hq hc => ?_, h3⟩
          cases k with
          | zero =>
            simp at hq; subst hq
            cases b with
            | false => exact .inl (hb rfl)
            | true => exact .inr (hf rfl)
          | succ k => rw [show j + (k + 1) = j + 1 + k by omega]; exact h2 k q (by simpa using hq) hc
def soloFl (ops : Array Oper) (fl : List Bool) : Bool := (List.range fl.length).all fun k => (fl.getD k true) || soloB ops k
theorem WK.rgs {P : Program} {K : List Fk} {Q : AExit → St → Prop} {f : Fr} {n : Nat} {H : Heap} {id : Nat} {ops : Array Oper} (fl : List Bool) (hfl : soloFl ops fl = true) (hp : (sPairs ops).isEmpty = true) (h : wz P ops K Q fl ops.toList f n H) :
  WK P (.region id ops true) K ⟨f, n, H⟩ Q := by
 obtain ⟨s1, l, h1, h2, h3⟩ := wz_sound ops.toList fl 0 (by
  intro k hk
  have hlt := (List.getElem?_eq_some_iff.1 hk).1
  have := List.all_eq_true.1 hfl k (List.mem_range.2 hlt)
  rw [List.getD_eq_getElem?_getD, hk] at this
  rw [Nat.zero_add]
  simpa using this) _ _ _ h
 refine WK.imp (d := .skip) (t := s1) (fun e s2 h => ?_) h3
 cases h
 refine .regionDraw h1 ⟨fun p hp' => ?_, fun k r e hcl => by have := h2 k r e hcl; rwa [Nat.zero_add] at this⟩
 rw [List.isEmpty_iff.1 hp] at hp'; cases hp'
end Go.AM
namespace Go.AM
open Go.RowKit
def BA (l : List UInt8) : ByteArray := ⟨l.toArray⟩
theorem ba_def (l : List UInt8) : (⟨l.toArray⟩ : ByteArray) = BA l := rfl
theorem ba_size (l : List UInt8) : (BA l).size = l.length := by simp [BA, ByteArray.size]
theorem ba_loop (l : List UInt8) : ∀ (k i : Nat) (r : List UInt8), l.length - i = k → ByteArray.toList.loop (BA l) i r = r.reverse ++ l.drop i := by
 intro k
 induction k with
 | zero =>
  intro i r h
  rw [ByteArray.toList.loop, if_neg (by rw [ba_size]; omega), List.drop_eq_nil_of_le (by omega), List.append_nil]
 | succ k ih =>
  intro i r h
  have hi : i < l.length := by omega
  rw [ByteArray.toList.loop, if_pos (by rw [ba_size]; exact hi), ih (i + 1) _ (by omega), List.drop_eq_getElem_cons hi]
  have hg : (BA l).get! i = l[i] := by
   show l.toArray[i]! = l[i]
   simp [hi]
  rw [hg, List.reverse_cons, List.append_assoc]; rfl
theorem ba_list (l : List UInt8) : (BA l).toList = l := by
 have := ba_loop l l.length 0 [] rfl
 simpa [ByteArray.toList] using this
theorem ba_get (l : List UInt8) (i : Nat) : (BA l)[i]? = l[i]? := by
 by_cases h : i < l.length
 ·rw [getElem?_pos (BA l) i (by rw [ba_size]; exact h), getElem?_pos l i h]; rfl
 ·rw [getElem?_neg (BA l) i (by rw [ba_size]; exact h), getElem?_neg l i h]
theorem ba_app (a b : List UInt8) : BA a ++ BA b = BA (a ++ b) := by
 apply ByteArray.ext
 simp [BA]
theorem ba_ext (l : List UInt8) (a b : Nat) : (BA l).extract a b = BA ((l.take b).drop a) := by
 apply ByteArray.ext
 simp [BA, List.drop_take]
def sbnd (d : Nat) : Option Value → Option Nat
 | none => some d
 | some (.int _ i) => if 0 ≤ i then some i.toNat else none
 | _ => none
def tss2 (s : ByteArray) (alt : Option Res) : Option TypeDesc → Option Nat → Option Nat → Option Res
 | some .string, some l, some h => if l ≤ h ∧ h ≤ s.size then some { v := .string (s.extract l h) } else alt
 | _, _, _ => alt
def tss (P : Program) (t : TypeId) (alt : Option Res) (lo hi : Option Value) : Value → Option Res
 | .string s => tss2 s alt (P.underlying t) (sbnd 0 lo) (sbnd s.size hi)
 | _ => alt
def aopK (P : Program) (ρ : Operand → Value) (n : Nat) (H : Heap) (o : Oper) : Option Res := aop P ρ n H o
theorem bounds_run {P : Program} {N : Nat} {lo hi : Option Value} {l h : Nat} (hl : sbnd 0 lo = some l) (hh : sbnd N hi = some h) (h1 : l ≤ h) (h2 : h ≤ N) :
  pureRun P (Instr.sliceBounds false N N lo hi none) = some (l, h, N) := by
 have ilo : lo = none ∧ l = 0 ∨ ∃ k i, lo = some (.int k i) ∧ 0 ≤ i ∧ i.toNat = l := by
  cases lo with
  | none => left; cases hl; exact ⟨rfl, rfl⟩
  | some v =>
   right
   cases v <;> try (cases hl; done)
   rename_i k i
   simp only [sbnd] at hl
   split at hl
   ·cases hl; exact ⟨k, i, rfl, by omega, rfl⟩
   ·cases hl
 have ihi : hi = none ∧ h = N ∨ ∃ k i, hi = some (.int k i) ∧ 0 ≤ i ∧ i.toNat = h := by
  cases hi with
  | none => left; cases hh; exact ⟨rfl, rfl⟩
  | some v =>
   right
   cases v <;> try (cases hh; done)
   rename_i k i
   simp only [sbnd] at hh
   split at hh
   ·cases hh; exact ⟨k, i, rfl, by omega, rfl⟩
   ·cases hh
 rcases ilo with ⟨rfl, rfl⟩ | ⟨k, i, rfl, hi0, rfl⟩ <;> rcases ihi with ⟨rfl, rfl⟩ | ⟨k', j, rfl, hj0, rfl⟩
 ·rfl
 ·have c : 0 ≤ j ∧ j ≤ N := by omega
  simp [Instr.sliceBounds, Instr.sliceBound, asIntOf, bind, Sem.bind, pure, c, pureRun]
 ·have c : 0 ≤ i ∧ i ≤ h := by omega
  simp [Instr.sliceBounds, Instr.sliceBound, asIntOf, bind, Sem.bind, pure, c, pureRun]
 ·have c : 0 ≤ j ∧ j ≤ N := by omega
  have c2 : 0 ≤ i ∧ i ≤ j := by omega
  simp [Instr.sliceBounds, Instr.sliceBound, asIntOf, bind, Sem.bind, pure, c, pureRun]
  rw [if_pos (by omega)]; rfl
theorem slice_run {P : Program} {t : TypeId} {s : ByteArray} {lo hi : Option Value} {l h : Nat} (ht : P.underlying t = some .string) (hl : sbnd 0 lo = some l) (hh : sbnd s.size hi = some h) (h1 : l ≤ h) (h2 : h ≤ s.size) :
  pureRun P (Instr.sliceAt t (.string s) lo hi none) = some (.string (s.extract l h)) := by
 have hu : pureRun P (underlying t) = some .string := by
  unfold underlying
  refine (pureRun_bind _ _ (a := P) rfl).trans ?_
  rw [ht]; rfl
 unfold Instr.sliceAt
 refine (pureRun_bind _ _ hu).trans ?_
 show pureRun P (Instr.slice t (.string s) lo hi none) = _
 unfold Instr.slice
 refine (pureRun_bind _ _ hu).trans ?_
 refine (pureRun_bind _ _ (a := (l, h, s.size)) (bounds_run hl hh h1 h2)).trans rfl
theorem aop_ssl {P : Program} {f : Fr} {n : Nat} {H : Heap} {d : Option Nat} {t : TypeId} {x : Operand} {lo hi : Option Operand} {ty : TypeId} {p : String} {af : Array Edge} {gd : Option (Nat × Bool)} :
  aop P (evalA f) n H ⟨d, .slice t x lo hi none, ty, p, af, gd⟩ = tss P t (aopK P (evalA f) n H ⟨d, .slice t x lo hi none, ty, p, af, gd⟩) (lo.map (evalA f)) (hi.map (evalA f)) (evalA f x) := by
 unfold tss
 split
 ·rename_i s hx
  unfold tss2
  split
  ·rename_i l h ht hl hh
   split
   ·rename_i hb
    have hr := slice_run ht hl hh hb.1 hb.2
    have fl : ∀ (o : Option Operand) (d m : Nat), sbnd d (o.map (evalA f)) = some m → ∀ y ∈ o.toList, flat (evalA f y) = true := by
     intro o d m ho y hy
     cases o with
     | none => simp at hy
     | some z =>
      simp at hy; subst hy
      simp only [Option.map_some] at ho
      cases hv : evalA f y <;> rw [hv] at ho <;> first | rfl | (simp [sbnd] at ho)
    simp only [aop, hx]
    unfold aflat
    have hf : opFlat (evalA f) ⟨d, .slice t x lo hi none, ty, p, af, gd⟩ = true := by
     unfold opFlat
     rw [Array.all_eq_true']
     intro y hy
     simp only [Op.operands, Array.mem_append, Option.mem_toArray] at hy
     rcases hy with ((hy | hy) | hy) | hy
     ·simp at hy; subst hy; rw [hx]; rfl
     ·exact fl lo _ _ hl y (by simpa using hy)
     ·exact fl hi _ _ hh y (by simpa using hy)
     ·cases hy
    rw [if_pos hf]
    have he : pureRun P (execOp (evalA f) ⟨d, .slice t x lo hi none, ty, p, af, gd⟩) = some (.value (.string (s.extract l h))) := by
     simp only [execOp, hx]
     exact (pureRun_bind _ _ hr).trans rfl
    rw [he]; rfl
   ·rfl
  ·rfl
 ·rfl
def tan (alt : Option Res) : Value → Value → Option Res
 | .int k a, .int k' b => if k = k' then some { v := .int k (k.wrap (BitVec.ofInt k.bits a &&& ~~~ BitVec.ofInt k.bits b).toNat) } else alt
 | _, _ => alt
theorem aop_andnot {P : Program} {f : Fr} {n : Nat} {H : Heap} {d : Option Nat} {t u : TypeId} {x y : Operand} {ty : TypeId} {p : String} {af : Array Edge} {gd : Option (Nat × Bool)} :
  aop P (evalA f) n H ⟨d, .binOp .andNot t x y u, ty, p, af, gd⟩ = tan (aopK P (evalA f) n H ⟨d, .binOp .andNot t x y u, ty, p, af, gd⟩) (evalA f x) (evalA f y) := by
 unfold tan
 split
 ·rename_i k a k' b e1 e2
  split
  ·rename_i hk
   subst hk
   have h0 : aeqNil P t (evalA f x) (evalA f y) = none := by
    unfold aeqNil; rw [e1, e2]; split <;> first | rfl | simp_all
   have h2 : anan P .andNot t (evalA f x) (evalA f y) = none := by rw [e1, e2]; exact anan_int
   unfold aop
   simp only [h0, h2]
   refine flat_op (by simp [opFlat, Op.operands, e1, e2, flat, flat1]) ?_ (by simp [flat, flat1])
   simp [execOp, eqGuard, binOp, Op.intBits, pureRun, bind, Sem.bind, pure, e1, e2]
  ·rfl
 ·rfl
theorem andnot_u64 (a b : Nat) (ha : a < 18446744073709551616) (hb : b < 18446744073709551616) :
  IntKind.u64.wrap ((BitVec.ofInt IntKind.u64.bits (a : Int) &&& ~~~ BitVec.ofInt IntKind.u64.bits (b : Int)).toNat : Int) = ((a &&& (18446744073709551615 - b) : Nat) : Int) := by
 have e : (BitVec.ofInt IntKind.u64.bits (a : Int) &&& ~~~ BitVec.ofInt IntKind.u64.bits (b : Int)).toNat = a &&& (18446744073709551615 - b) := by
  show (BitVec.ofInt 64 (a : Int) &&& ~~~ BitVec.ofInt 64 (b : Int)).toNat = _
  rw [BitVec.toNat_and, BitVec.toNat_not, ofInt_toNat 64 a ha, ofInt_toNat 64 b hb]
 rw [e, wrap_u64n, Nat.mod_eq_of_lt (Nat.lt_of_le_of_lt Nat.and_le_left ha)]
end Go.AM
namespace Go.AM
open Go.RowKit Ieee
theorem read_number {x : Nat} {s : Bool} {m : Nat} {e : Int} (h : Format.read double x = .number s m e) (hx : x < 2 ^ 64) :
  x = (if s then 2 ^ 63 else 0) + x % 2 ^ 63 ∧ ((x % 2 ^ 63 = m ∧ m < 2 ^ 52 ∧ e = -1074) ∨ ∃ k : Nat, e = -1074 + (k : Int) ∧ 2 ^ 52 ≤ m ∧ m < 2 ^ 53 ∧ x % 2 ^ 63 = k * 2 ^ 52 + m) := by
 have hsw : Format.signWeight double = 2 ^ 63 := rfl
 have hb : Format.binade double = 2 ^ 52 := rfl
 have hl : Format.leastPlace double = -1074 := rfl
 unfold Format.read at h
 simp only [hsw, hb, hl] at h
 have hs : ∀ {s : Bool}, (x / 2 ^ 63 % 2 == 1) = s → x = (if s then 2 ^ 63 else 0) + x % 2 ^ 63 := fun {s} e => by
  cases s with
  | true =>
   have : x / 2 ^ 63 % 2 = 1 := by simpa using e
   rw [if_pos rfl]; omega
  | false =>
   have : ¬ x / 2 ^ 63 % 2 = 1 := by simpa using e
   rw [if_neg (by simp)]; omega
 split at h
 ·rename_i h1
  cases h
  exact ⟨hs rfl, .inl ⟨rfl, h1, rfl⟩⟩
 ·rename_i h1
  split at h
  ·cases h
   refine ⟨hs rfl, .inr ⟨x % 2 ^ 63 / 2 ^ 52 - 1, rfl, by omega, by omega, by omega⟩⟩
  ·split at h <;> cases h
theorem same_parts {m n : Nat} {e j : Int} (hm : (m < 2 ^ 52 ∧ e = -1074) ∨ (2 ^ 52 ≤ m ∧ m < 2 ^ 53 ∧ -1074 ≤ e)) (hn : (n < 2 ^ 52 ∧ j = -1074) ∨ (2 ^ 52 ≤ n ∧ n < 2 ^ 53 ∧ -1074 ≤ j)) (h : m * 2 ^ (e - min e j).toNat = n * 2 ^ (j - min e j).toNat) : m = n ∧ e = j := by
 have key : ∀ {m n : Nat} {e j : Int}, ((m < 2 ^ 52 ∧ e = -1074) ∨ (2 ^ 52 ≤ m ∧ m < 2 ^ 53 ∧ -1074 ≤ e)) → ((n < 2 ^ 52 ∧ j = -1074) ∨ (2 ^ 52 ≤ n ∧ n < 2 ^ 53 ∧ -1074 ≤ j)) → e < j → m * 2 ^ (e - min e j).toNat = n * 2 ^ (j - min e j).toNat → False := by
  intro m n e j hm hn hlt h
  rw [Int.min_eq_left (by omega), show (e - e).toNat = 0 by omega, Nat.pow_zero, Nat.mul_one] at h
  have hn' : 2 ^ 52 ≤ n := by rcases hn with hn | hn <;> omega
  have h2 : 2 ^ 1 ≤ 2 ^ (j - e).toNat := Nat.pow_le_pow_right (by omega) (by omega)
  have h3 : 2 ^ 52 * 2 ^ 1 ≤ n * 2 ^ (j - e).toNat := Nat.mul_le_mul hn' h2
  rcases hm with hm | hm <;> omega
 rcases Int.lt_trichotomy e j with hlt | rfl | hlt
 ·exact (key hm hn hlt h).elim
 ·refine ⟨?_, rfl⟩
  rw [Int.min_self, show (e - e).toNat = 0 by omega] at h
  omega
 ·refine (key hn hm hlt ?_).elim
  rw [Int.min_comm]
  exact h.symm
theorem order_eq {x y : Nat} (hx : x < 2 ^ 64) (hy : y < 2 ^ 64) (h : Format.order double x y = some .eq) : x = y ∨ ((x = 0 ∨ x = 2 ^ 63) ∧ (y = 0 ∨ y = 2 ^ 63)) := by
 unfold Format.order at h
 cases hrx : Format.read double x with
 | nan s t => rw [hrx] at h; simp [Datum.order] at h
 | infinity s =>
  rw [hrx] at h
  cases hry : Format.read double y with
  | nan s t => rw [hry] at h; simp [Datum.order] at h
  | infinity t =>
   have hinf : ∀ {z : Nat} {s : Bool}, z < 2 ^ 64 → Format.read double z = .infinity s → z = (if s then 2 ^ 63 else 0) + 2047 * 2 ^ 52 := by
    intro z s hz hr
    have hsw : Format.signWeight double = 2 ^ 63 := rfl
    have hi : Format.infRung double = 2047 * 2 ^ 52 := rfl
    have hb : Format.binade double = 2 ^ 52 := rfl
    unfold Format.read at hr
    simp only [hsw, hi, hb] at hr
    split at hr
    ·cases hr
    ·split at hr
     ·cases hr
     ·split at hr
      ·rename_i h3
       simp only [Datum.infinity.injEq] at hr
       cases s with
       | true =>
        have : z / 2 ^ 63 % 2 = 1 := by simpa using hr
        rw [if_pos rfl]; omega
       | false =>
        have : ¬ z / 2 ^ 63 % 2 = 1 := by simpa using hr
        rw [if_neg (by simp)]; omega
      ·cases hr
   rw [hry] at h
   left
   have hst : s = t := by
    cases s <;> cases t <;> simp [Datum.order, compare, compareOfLessAndEq] at h <;> rfl
   rw [hinf hx hrx, hinf hy hry, hst]
  | number t n j => rw [hry] at h; cases s <;> simp [Datum.order] at h
 | number s m e =>
  rw [hrx] at h
  cases hry : Format.read double y with
  | nan t u => rw [hry] at h; simp [Datum.order] at h
  | infinity t => rw [hry] at h; cases t <;> simp [Datum.order] at h
  | number t n j =>
   rw [hry] at h
   obtain ⟨ex, px⟩ := read_number hrx hx
   obtain ⟨ey, py⟩ := read_number hry hy
   have hm : (m < 2 ^ 52 ∧ e = -1074) ∨ (2 ^ 52 ≤ m ∧ m < 2 ^ 53 ∧ -1074 ≤ e) := by
    rcases px with ⟨_, a, b⟩ | ⟨k, a, b, c, _⟩
    ·exact .inl ⟨a, b⟩
    ·exact .inr ⟨b, c, by omega⟩
   have hn : (n < 2 ^ 52 ∧ j = -1074) ∨ (2 ^ 52 ≤ n ∧ n < 2 ^ 53 ∧ -1074 ≤ j) := by
    rcases py with ⟨_, a, b⟩ | ⟨k, a, b, c, _⟩
    ·exact .inl ⟨a, b⟩
    ·exact .inr ⟨b, c, by omega⟩
   have heq : signed s m (e - min e j).toNat = signed t n (j - min e j).toNat := by
    simp only [Datum.order, Option.some.injEq, compare, compareOfLessAndEq] at h
    split at h
    ·cases h
    ·split at h
     ·assumption
     ·cases h
   have rung : ∀ {z : Nat} {m k' : Nat} {e : Int}, m = 0 → ((z % 2 ^ 63 = m ∧ m < 2 ^ 52 ∧ e = -1074) ∨ ∃ k : Nat, e = -1074 + (k : Int) ∧ 2 ^ 52 ≤ m ∧ m < 2 ^ 53 ∧ z % 2 ^ 63 = k * 2 ^ 52 + m) → z % 2 ^ 63 = 0 := by
    intro z m k' e h0 h
    rcases h with ⟨a, _⟩ | ⟨k, _, b, _⟩ <;> omega
   unfold signed at heq
   simp only [Nat.shiftLeft_eq] at heq
   have hpm : m = 0 ∨ 0 < m * 2 ^ (e - min e j).toNat := by
    rcases Nat.eq_zero_or_pos m with h | h
    ·exact .inl h
    ·exact .inr (Nat.mul_pos h (Nat.two_pow_pos _))
   have hpn : n = 0 ∨ 0 < n * 2 ^ (j - min e j).toNat := by
    rcases Nat.eq_zero_or_pos n with h | h
    ·exact .inl h
    ·exact .inr (Nat.mul_pos h (Nat.two_pow_pos _))
   have z0 : m = 0 → n = 0 → (x = 0 ∨ x = 2 ^ 63) ∧ (y = 0 ∨ y = 2 ^ 63) := fun h1 h2 => by
    have a := rung (k' := 0) h1 px
    have b := rung (k' := 0) h2 py
    cases s <;> cases t <;> simp only [if_true, Bool.false_eq_true, if_false] at ex ey <;> omega
   by_cases hst : s = t
   ·subst hst
    have hmn : m * 2 ^ (e - min e j).toNat = n * 2 ^ (j - min e j).toNat := by
     cases s <;> simp only [if_true, Bool.false_eq_true, if_false] at heq <;> omega
    obtain ⟨rfl, rfl⟩ := same_parts hm hn hmn
    left
    have hr : x % 2 ^ 63 = y % 2 ^ 63 := by
     rcases px with ⟨a, b, c⟩ | ⟨k, a, b, c, d⟩ <;> rcases py with ⟨a', b', c'⟩ | ⟨k', a', b', c', d'⟩
     ·omega
     ·omega
     ·omega
     ·have : k = k' := by omega
      subst this
      omega
    rw [ex, ey, hr]
   ·right
    have hz : m = 0 ∧ n = 0 := by
     cases s <;> cases t <;> first | (exact absurd rfl hst) | (simp only [if_true, Bool.false_eq_true, if_false] at heq; rcases hpm with h1 | h1 <;> rcases hpn with h2 | h2 <;> (try omega))
     all_goals (first | (subst h1; simp at heq; omega) | (subst h2; simp at heq; omega) | omega)
    exact z0 hz.1 hz.2
end Go.AM
namespace Go.AM
def rk (p : Nat → Bool) : Nat → Nat
 | 0 => 0
 | v + 1 => rk p v + if p v then 1 else 0
def pk {α : Type} (p : Nat → Bool) : Nat → List α → List α
 | _, [] => []
 | i, a :: l => if p i then a :: pk p (i + 1) l else pk p (i + 1) l
theorem rk_le {p : Nat → Bool} : ∀ v, rk p v ≤ v
 | 0 => Nat.le_refl _
 | v + 1 => by have := rk_le (p := p) v; simp only [rk]; split <;> omega
theorem rk_mono {p : Nat → Bool} {a b : Nat} (h : a ≤ b) : rk p a ≤ rk p b := by
  induction b with
  | zero => obtain rfl : a = 0 := by omega
            exact Nat.le_refl _
  | succ b ih =>
    by_cases e : a = b + 1
    · subst e; exact Nat.le_refl _
    · have := ih (by omega); simp only [rk]; omega
theorem rk_lt {p : Nat → Bool} {a b : Nat} (h : a < b) (ha : p a = true) : rk p a < rk p b := by
 have := rk_mono (p := p) (show a + 1 ≤ b from h)
 simp only [rk, ha, if_true] at this
 omega
theorem rk_inj {p : Nat → Bool} {a b : Nat} (ha : p a = true) (hb : p b = true) (h : rk p a = rk p b) : a = b := by
 rcases Nat.lt_trichotomy a b with k | k | k
 ·have := rk_lt k ha; omega
 ·exact k
 ·have := rk_lt k hb; omega
theorem rk_surj {p : Nat → Bool} {n k : Nat} (h : k < rk p n) : ∃ i, i < n ∧ p i = true ∧ rk p i = k := by
 induction n with
 | zero => exact absurd h (Nat.not_lt_zero _)
 | succ n ih =>
  simp only [rk] at h
  by_cases e : k < rk p n
  ·obtain ⟨i, h1, h2, h3⟩ := ih e
   exact ⟨i, by omega, h2, h3⟩
  ·by_cases hp : p n = true
   ·simp only [hp, if_true] at h
    exact ⟨n, by omega, hp, by omega⟩
   ·simp only [hp] at h
    simp at h; omega
theorem rk_all {p : Nat → Bool} {n : Nat} (h : ∀ i, i < n → p i = true) : ∀ i, i ≤ n → rk p i = i
 | 0, _ => rfl
 | i + 1, hi => by simp only [rk, rk_all h i (by omega), h i (by omega), if_true]
theorem pk_snoc {α : Type} {p : Nat → Bool} (a : α) : ∀ (l : List α) (i : Nat), pk p i (l ++ [a]) = pk p i l ++ if p (i + l.length) then [a] else []
 | [], i => by simp [pk]
 | b :: l, i => by
  simp only [List.cons_append, pk, pk_snoc a l (i + 1), List.length_cons, show i + 1 + l.length = i + (l.length + 1) by omega]
  split <;> rfl
theorem pk_take {α : Type} {p : Nat → Bool} {l : List α} {i : Nat} (h : i < l.length) : pk p 0 (l.take (i + 1)) = pk p 0 (l.take i) ++ if p i then [l[i]] else [] := by
 rw [List.take_succ_eq_append_getElem h, pk_snoc]
 simp only [List.length_take, Nat.min_eq_left (Nat.le_of_lt h), Nat.zero_add]
theorem pk_takeLen {α : Type} {p : Nat → Bool} {l : List α} : ∀ i, i ≤ l.length → (pk p 0 (l.take i)).length = rk p i
 | 0, _ => rfl
 | i + 1, h => by
  rw [pk_take (by omega), List.length_append, pk_takeLen i (by omega)]
  simp only [rk]
  split <;> rfl
theorem pk_len {α : Type} {p : Nat → Bool} {l : List α} : (pk p 0 l).length = rk p l.length := by
 have := pk_takeLen (p := p) (l := l) l.length (Nat.le_refl _)
 rwa [List.take_length] at this
theorem pk_pre {α : Type} {p : Nat → Bool} {l : List α} {i j : Nat} (hi : i ≤ j) (hj : j ≤ l.length) : ∃ t, pk p 0 (l.take j) = pk p 0 (l.take i) ++ t := by
  induction j with
  | zero => obtain rfl : i = 0 := by omega
            exact ⟨[], by simp⟩
  | succ j ih =>
    by_cases e : i = j + 1
    · subst e; exact ⟨[], by simp⟩
    · obtain ⟨t, ht⟩ := ih (by omega) (by omega)
      refine ⟨t ++ if p j then [l[j]'(by omega)] else [], ?_⟩
      rw [pk_take (by omega), ht, List.append_assoc]
theorem pk_at {α : Type} {p : Nat → Bool} {l : List α} {i : Nat} (h : i < l.length) (hp : p i = true) : (pk p 0 l)[rk p i]? = some l[i] := by
 obtain ⟨t, ht⟩ := pk_pre (p := p) (l := l) (show i + 1 ≤ l.length from h) (Nat.le_refl _)
 rw [List.take_length, pk_take h, hp, if_pos rfl] at ht
 have hl := pk_takeLen (p := p) (l := l) i (by omega)
 rw [ht, List.append_assoc, List.getElem?_append_right (by omega), hl, Nat.sub_self]
 rfl
theorem pk_all {α : Type} {p : Nat → Bool} : ∀ (l : List α) (i : Nat), (∀ j, i ≤ j → j < i + l.length → p j = true) → pk p i l = l
 | [], _, _ => rfl
 | a :: l, i, h => by
  have h0 := h i (Nat.le_refl _) (by simp)
  simp only [pk, h0, if_true]
  rw [pk_all l (i + 1) (fun j h1 h2 => h j (by omega) (by simp only [List.length_cons]; omega))]
theorem pk_mem {α : Type} {p : Nat → Bool} {l : List α} {k : Nat} {a : α} (h : (pk p 0 l)[k]? = some a) : ∃ (i : Nat) (hi : i < l.length), p i = true ∧ rk p i = k ∧ l[i] = a := by
 have hk : k < rk p l.length := by
  have := (List.getElem?_eq_some_iff.1 h).1
  rwa [pk_len] at this
 obtain ⟨i, h1, h2, h3⟩ := rk_surj hk
 refine ⟨i, h1, h2, h3, ?_⟩
 have := pk_at h1 h2
 rw [h3, h] at this
 exact (Option.some.inj this).symm
end Go.AM
namespace Go.AM
theorem pk_sub {α : Type} {p : Nat → Bool} : ∀ (l : List α) (i : Nat), (pk p i l).Sublist l
 | [], _ => .slnil
 | a :: l, i => by
  simp only [pk]
  split
  ·exact (pk_sub l (i + 1)).cons_cons a
  ·exact (pk_sub l (i + 1)).cons a
structure GoodG (NB QB : ByteArray → Prop) (LT : ByteArray → ByteArray → Prop) (W : Nat → Prop) (g : Gram) : Prop where
 vars1 : 1 ≤ g.vars.length
 vars : g.vars.length ≤ 64
 terms : g.terms.length ≤ 64
 rules : g.rules.length ≤ 256
 inG : InG g
 len : ∀ r ∈ g.rules, r.right.length ≤ 24
 told : ∀ r ∈ g.rules, W r.weight
 up : g.rules.Pairwise fun a b => a.left ≤ b.left
 unlike : g.rules.Pairwise fun a b => a.left = b.left → a.right ≠ b.right
 has : ∀ v : Nat, v < g.vars.length → ∃ r ∈ g.rules, r.left = v
 used : ∀ t : Nat, t < g.terms.length → ∃ r ∈ g.rules, -(t : Int) - 1 ∈ r.right
 names : ∀ s ∈ g.vars, NB s
 uniq : g.vars.Pairwise fun a b => a.toList ≠ b.toList
 quotes : ∀ s ∈ g.terms, QB s
 rise : g.terms.Pairwise LT
def mapS (u st : Nat → Bool) (s : Int) : Int := if 0 ≤ s then (rk u s.toNat : Int) else -(rk st (-s - 1).toNat : Int) - 1
def mapR (u st : Nat → Bool) (r : GRule) : GRule := ⟨rk u r.left.toNat, r.right.map (mapS u st), r.weight⟩
def redG (g : Gram) (u st : Nat → Bool) (kp : GRule → Bool) : Gram := ⟨pk st 0 g.terms, pk u 0 g.vars, (g.rules.filter kp).map (mapR u st)⟩
structure Keeps (g : Gram) (u st : Nat → Bool) (kp : GRule → Bool) : Prop where
 inG : InG g
 var : ∀ v : Nat, v < g.vars.length → (u v = true ↔ Usd g v)
 rule : ∀ r ∈ g.rules, (kp r = true ↔ Usd g r.left ∧ ∀ s ∈ r.right, 0 ≤ s → Prd g s)
 term : ∀ t : Nat, t < g.terms.length → (st t = true ↔ ∃ r ∈ g.rules, kp r = true ∧ -(t : Int) - 1 ∈ r.right)
theorem Usd.prd {g : Gram} {v : Int} (h : Usd g v) : Prd g v := by
 cases h with
 | base h => exact h
 | step i h hu hp hs h0 => exact hp _ hs h0
theorem Usd.of {g : Gram} {r : GRule} (hr : r ∈ g.rules) (hu : Usd g r.left) (hp : ∀ s ∈ r.right, 0 ≤ s → Prd g s) {s : Int} (hs : s ∈ r.right) (h0 : 0 ≤ s) : Usd g s := by
 obtain ⟨i, hi, rfl⟩ := List.getElem_of_mem hr
 exact .step i hi hu hp hs h0
theorem Prd.of {g : Gram} {r : GRule} (hr : r ∈ g.rules) (hp : ∀ s ∈ r.right, 0 ≤ s → Prd g s) : Prd g r.left := by
 obtain ⟨i, hi, rfl⟩ := List.getElem_of_mem hr
 exact .mk i hi hp
namespace Keeps
variable {g : Gram} {u st : Nat → Bool} {kp : GRule → Bool} (K : Keeps g u st kp)
include K
theorem left {r : GRule} (hr : r ∈ g.rules) (hk : kp r = true) : u r.left.toNat = true := by
 have h0 := K.inG.left0 r hr
 have h1 := K.inG.left1 r hr
 refine (K.var r.left.toNat (by omega)).2 ?_
 rw [show ((r.left.toNat : Nat) : Int) = r.left by omega]
 exact ((K.rule r hr).1 hk).1
theorem symV {r : GRule} (hr : r ∈ g.rules) (hk : kp r = true) {s : Int} (hs : s ∈ r.right) (h0 : 0 ≤ s) : u s.toNat = true := by
 have h1 := K.inG.right r hr s hs
 refine (K.var s.toNat (by omega)).2 ?_
 rw [show ((s.toNat : Nat) : Int) = s by omega]
 exact Usd.of hr ((K.rule r hr).1 hk).1 ((K.rule r hr).1 hk).2 hs h0
theorem symT {r : GRule} (hr : r ∈ g.rules) (hk : kp r = true) {s : Int} (hs : s ∈ r.right) (h0 : s < 0) : st (-s - 1).toNat = true := by
 have h1 := K.inG.rightT r hr s hs h0
 refine (K.term (-s - 1).toNat (by omega)).2 ⟨r, hr, hk, ?_⟩
 rwa [show -(((-s - 1).toNat : Nat) : Int) - 1 = s by omega]
theorem mem {r : GRule} (hr : r ∈ g.rules) (hk : kp r = true) : mapR u st r ∈ (redG g u st kp).rules :=
 List.mem_map.2 ⟨r, List.mem_filter.2 ⟨hr, hk⟩, rfl⟩
theorem of_mem {q : GRule} (hq : q ∈ (redG g u st kp).rules) : ∃ r ∈ g.rules, kp r = true ∧ q = mapR u st r := by
 obtain ⟨r, h, rfl⟩ := List.mem_map.1 hq
 exact ⟨r, (List.mem_filter.1 h).1, (List.mem_filter.1 h).2, rfl⟩
theorem prd {v : Int} (h : Prd g v) : Usd g v → Prd (redG g u st kp) (rk u v.toNat) := by
 induction h with
 | mk i hi h1 ih =>
  intro hu
  have hk := (K.rule _ (List.getElem_mem hi)).2 ⟨hu, h1⟩
  refine Prd.of (r := mapR u st g.rules[i]) (K.mem (List.getElem_mem hi) hk) fun s hs h0 => ?_
  obtain ⟨x, hx, rfl⟩ := List.mem_map.1 hs
  by_cases hx0 : 0 ≤ x
  ·have := ih x hx hx0 (Usd.of (List.getElem_mem hi) hu h1 hx hx0)
   simpa only [mapS, if_pos hx0] using this
  ·simp only [mapS, if_neg hx0] at h0
   omega
theorem prdS {r : GRule} (hr : r ∈ g.rules) (hk : kp r = true) : ∀ s ∈ (mapR u st r).right, 0 ≤ s → Prd (redG g u st kp) s := by
 intro s hs h0
 obtain ⟨x, hx, rfl⟩ := List.mem_map.1 hs
 by_cases hx0 : 0 ≤ x
 ·have hu := (K.rule r hr).1 hk
  have := K.prd (hu.2 x hx hx0) (Usd.of hr hu.1 hu.2 hx hx0)
  simpa only [mapS, if_pos hx0] using this
 ·simp only [mapS, if_neg hx0] at h0
  omega
theorem usd {v : Int} (h : Usd g v) : Usd (redG g u st kp) (rk u v.toNat) := by
 induction h with
 | base h => exact .base (K.prd h (.base h))
 | step i hi hu hp hs h0 ih =>
  rename_i s
  have hk := (K.rule _ (List.getElem_mem hi)).2 ⟨hu, hp⟩
  refine Usd.of (r := mapR u st g.rules[i]) (K.mem (List.getElem_mem hi) hk) ih (K.prdS (List.getElem_mem hi) hk) (List.mem_map.2 ⟨s, hs, ?_⟩) (by omega)
  simp only [mapS, if_pos h0]
theorem usd_all (v : Nat) (hv : v < (redG g u st kp).vars.length) : Usd (redG g u st kp) v := by
 have : (redG g u st kp).vars.length = rk u g.vars.length := pk_len
 obtain ⟨i, h1, h2, h3⟩ := rk_surj (this ▸ hv)
 have := K.usd ((K.var i h1).1 h2)
 rwa [Int.toNat_natCast, h3] at this
theorem inGr : InG (redG g u st kp) := by
 have hv : (redG g u st kp).vars.length = rk u g.vars.length := pk_len
 have ht : (redG g u st kp).terms.length = rk st g.terms.length := pk_len
 refine ⟨fun q hq => ?_, fun q hq => ?_, fun q hq s hs => ?_, fun q hq s hs h0 => ?_⟩
 ·obtain ⟨r, hr, hk, rfl⟩ := K.of_mem hq
  exact Int.natCast_nonneg _
 ·obtain ⟨r, hr, hk, rfl⟩ := K.of_mem hq
  have a0 := K.inG.left0 r hr; have a1 := K.inG.left1 r hr
  have := rk_lt (p := u) (show r.left.toNat < g.vars.length by omega) (K.left hr hk)
  rw [hv]; simp only [mapR]; omega
 ·obtain ⟨r, hr, hk, rfl⟩ := K.of_mem hq
  obtain ⟨x, hx, rfl⟩ := List.mem_map.1 hs
  have a1 := K.inG.right r hr x hx
  by_cases hx0 : 0 ≤ x
  ·have := rk_lt (p := u) (show x.toNat < g.vars.length by omega) (K.symV hr hk hx hx0)
   rw [hv]; simp only [mapS, if_pos hx0]; omega
  ·simp only [mapS, if_neg hx0]; omega
 ·obtain ⟨r, hr, hk, rfl⟩ := K.of_mem hq
  obtain ⟨x, hx, rfl⟩ := List.mem_map.1 hs
  by_cases hx0 : 0 ≤ x
  ·simp only [mapS, if_pos hx0] at h0; omega
  ·have a1 := K.inG.rightT r hr x hx (by omega)
   have := rk_lt (p := st) (show (-x - 1).toNat < g.terms.length by omega) (K.symT hr hk hx (by omega))
   rw [ht]; simp only [mapS, if_neg hx0]; omega
theorem inj {r q : GRule} (hr : r ∈ g.rules) (hk : kp r = true) (hq : q ∈ g.rules) (hkq : kp q = true) {s t : Int} (hs : s ∈ r.right) (ht : t ∈ q.right) (h : mapS u st s = mapS u st t) : s = t := by
 unfold mapS at h
 by_cases s0 : 0 ≤ s <;> by_cases t0 : 0 ≤ t
 ·rw [if_pos s0, if_pos t0] at h
  have := rk_inj (p := u) (K.symV hr hk hs s0) (K.symV hq hkq ht t0) (by omega)
  omega
 ·rw [if_pos s0, if_neg t0] at h; omega
 ·rw [if_neg s0, if_pos t0] at h; omega
 ·rw [if_neg s0, if_neg t0] at h
  have := rk_inj (p := st) (K.symT hr hk hs (by omega)) (K.symT hq hkq ht (by omega)) (by omega)
  omega
end Keeps
theorem map_injOn {α β : Type} {f : α → β} : ∀ {l m : List α}, (∀ a ∈ l, ∀ b ∈ m, f a = f b → a = b) → l.map f = m.map f → l = m
 | [], [], _, _ => rfl
 | [], b :: m, _, h => by simp at h
 | a :: l, [], _, h => by simp at h
 | a :: l, b :: m, hi, h => by
  simp only [List.map_cons, List.cons.injEq] at h
  rw [hi a (by simp) b (by simp) h.1, map_injOn (fun x hx y hy => hi x (by simp [hx]) y (by simp [hy])) h.2]
theorem GoodG.red {NB QB : ByteArray → Prop} {LT : ByteArray → ByteArray → Prop} {W : Nat → Prop} {g : Gram} {u st : Nat → Bool} {kp : GRule → Bool} (G : GoodG NB QB LT W g) (K : Keeps g u st kp) (h0 : Usd g 0) : GoodG NB QB LT W (redG g u st kp) where
 vars1 := by
  have hv : (redG g u st kp).vars.length = rk u g.vars.length := pk_len
  have := rk_lt (p := u) (show 0 < g.vars.length from G.vars1) ((K.var 0 G.vars1).2 h0)
  omega
 vars := Nat.le_trans (pk_sub _ _).length_le G.vars
 terms := Nat.le_trans (pk_sub _ _).length_le G.terms
 rules := by
  show ((g.rules.filter kp).map (mapR u st)).length ≤ 256
  rw [List.length_map]
  exact Nat.le_trans (List.length_filter_le _ _) G.rules
 inG := K.inGr
 len := fun q hq => by
  obtain ⟨r, hr, hk, rfl⟩ := K.of_mem hq
  simp only [mapR, List.length_map]
  exact G.len r hr
 told := fun q hq => by
  obtain ⟨r, hr, hk, rfl⟩ := K.of_mem hq
  exact G.told r hr
 up := List.pairwise_map.2 ((G.up.sublist List.filter_sublist).imp fun {a b} h => by
  have := rk_mono (p := u) (show a.left.toNat ≤ b.left.toNat by omega)
  simp only [mapR]; omega)
 unlike := by
  refine List.pairwise_map.2 ((G.unlike.sublist List.filter_sublist).imp_of_mem fun {a b} ha hb h hl hr => ?_)
  obtain ⟨a1, a2⟩ := List.mem_filter.1 ha
  obtain ⟨b1, b2⟩ := List.mem_filter.1 hb
  have := rk_inj (p := u) (K.left a1 a2) (K.left b1 b2) (by simp only [mapR] at hl; omega)
  have a0 := G.inG.left0 a a1; have b0 := G.inG.left0 b b1
  exact h (by omega) (map_injOn (fun s hs t ht e => K.inj a1 a2 b1 b2 hs ht e) hr)
 has := fun v hv => by
  have hl : (redG g u st kp).vars.length = rk u g.vars.length := pk_len
  obtain ⟨i, h1, h2, h3⟩ := rk_surj (hl ▸ hv)
  have hu := (K.var i h1).1 h2
  have hp := hu.prd
  generalize hiv : (i : Int) = z at hu hp
  cases hp with
  | mk j hj hp =>
   have hk := (K.rule _ (List.getElem_mem hj)).2 ⟨hu, hp⟩
   refine ⟨_, K.mem (List.getElem_mem hj) hk, ?_⟩
   simp only [mapR, ← hiv, Int.toNat_natCast, h3]
 used := fun t ht => by
  have hl : (redG g u st kp).terms.length = rk st g.terms.length := pk_len
  obtain ⟨i, h1, h2, h3⟩ := rk_surj (hl ▸ ht)
  obtain ⟨r, hr, hk, hs⟩ := (K.term i h1).1 h2
  refine ⟨_, K.mem hr hk, List.mem_map.2 ⟨_, hs, ?_⟩⟩
  simp only [mapS, show ¬ (0 : Int) ≤ -(i : Int) - 1 by omega, if_false, show (-(-(i : Int) - 1) - 1).toNat = i by omega, h3]
 names := fun s hs => G.names s ((pk_sub _ _).subset hs)
 uniq := G.uniq.sublist (pk_sub _ _)
 quotes := fun s hs => G.quotes s ((pk_sub _ _).subset hs)
 rise := G.rise.sublist (pk_sub _ _)
theorem redG_same {g : Gram} {u st : Nat → Bool} {kp : GRule → Bool} (hg : InG g) (hu : ∀ v, v < g.vars.length → u v = true) (ht : ∀ t, t < g.terms.length → st t = true) (hk : ∀ r ∈ g.rules, kp r = true) : redG g u st kp = g := by
 have e1 : pk st 0 g.terms = g.terms := pk_all _ _ fun j _ h => ht j (by omega)
 have e2 : pk u 0 g.vars = g.vars := pk_all _ _ fun j _ h => hu j (by omega)
 have e3 : g.rules.filter kp = g.rules := List.filter_eq_self.2 hk
 have e4 : ∀ r ∈ g.rules, mapR u st r = r := fun r hr => by
  have a0 := hg.left0 r hr; have a1 := hg.left1 r hr
  have er : r.right.map (mapS u st) = r.right := by
   conv => rhs; rw [← List.map_id r.right]
   refine List.map_congr_left fun s hs => ?_
   by_cases s0 : 0 ≤ s
   ·have := hg.right r hr s hs
    simp only [mapS, if_pos s0, rk_all hu s.toNat (by omega), id]; omega
   ·have := hg.rightT r hr s hs (by omega)
    simp only [mapS, if_neg s0, rk_all ht (-s - 1).toNat (by omega), id]; omega
  obtain ⟨l, rr, w⟩ := r
  simp only [mapR, er, GRule.mk.injEq, and_true] at *
  rw [rk_all hu l.toNat (by omega)]; omega
 unfold redG
 rw [e1, e2, e3, List.map_congr_left e4, List.map_id']
end Go.AM
namespace Go.AM
open Go.RowKit
variable {α : Type} {H H' : Heap} {N ty tr ti y : Nat} {enc : α → Value} {l : List α}
def OL (H : Heap) (N ty : Nat) (enc : α → Value) (y : Nat) (l : List α) : Prop := l ≠ [] → N ≤ y ∧ H y = .cells (l.map enc) ty true
theorem OL.nil : OL H N ty enc y ([] : List α) := fun h => absurd rfl h
theorem OL.keep (h : OL H N ty enc y l) (hk : N ≤ y → H y ≠ .dead → H' y = H y) : OL H' N ty enc y l := fun hn => by
 obtain ⟨h1, h2⟩ := h hn
 exact ⟨h1, by rw [hk h1 (by rw [h2]; intro e; cases e), h2]⟩
theorem OL.weak {N' : Nat} (h : OL H N ty enc y l) (hn : N' ≤ N) : OL H N' ty enc y l := fun h0 => ⟨Nat.le_trans hn (h h0).1, (h h0).2⟩
theorem OL.snoc {a : α} (hy : H y = .cells (l.map enc ++ [enc a]) ty true) (hn : N ≤ y) : OL H N ty enc y (l ++ [a]) := fun _ => ⟨hn, by rw [hy, List.map_append]; rfl⟩
theorem OL.rs (h : OL H N ty enc y l) : RS enc H (slp y l.length) l := by
 cases l with
 | nil => exact .inl ⟨rfl, rfl⟩
 | cons a l =>
  obtain ⟨_, h2⟩ := h (by simp)
  refine .inr ⟨y, 0, _, ty, true, rfl, h2, by simp, fun i z e => ?_⟩
  rw [Nat.zero_add, List.getElem?_map, e]; rfl
theorem OL.ra (h : OL H N ty enc y l) : RA enc H (slp y l.length) l := h.rs.ra
theorem sl_snoc {z : Nat} (a : α) : Value.slice (some ⟨z, 0, none⟩) (l.length + 1 : Nat) (l.length + 1 : Nat) = sl z (l ++ [a]).length := by
 rw [List.length_append]; rfl
def rcell (x : GRule × Nat) : List Value := [.int .i64 x.1.left, sl x.2 x.1.right.length, .float .f64 x.1.weight]
structure OR (H : Heap) (N tr ti y : Nat) (L : List (GRule × Nat)) : Prop where
 all : L ≠ [] → N ≤ y ∧ H y = .cells (L.flatMap rcell) tr true
 part : ∀ x ∈ L, OL H N ti (Value.int .i64) x.2 x.1.right
theorem rcells_len : ∀ L : List (GRule × Nat), (L.flatMap rcell).length = L.length * 3
 | [] => rfl
 | x :: L => by rw [List.flatMap_cons, List.length_append, rcells_len L, List.length_cons]; simp [rcell]; omega
theorem rcells_at : ∀ (L : List (GRule × Nat)) (i c : Nat) (x : GRule × Nat), c < 3 → L[i]? = some x → (L.flatMap rcell)[i * 3 + c]? = (rcell x)[c]?
 | [], _, _, _, _, h => by simp at h
 | y :: L, 0, c, x, hc, h => by
  simp only [List.getElem?_cons_zero, Option.some.injEq] at h
  subst h
  rw [List.flatMap_cons, List.getElem?_append_left (by simp [rcell]; omega), Nat.zero_mul, Nat.zero_add]
 | y :: L, i + 1, c, x, hc, h => by
  rw [List.getElem?_cons_succ] at h
  rw [List.flatMap_cons, List.getElem?_append_right (by simp [rcell]; omega), ← rcells_at L i c x hc h]
  congr 1
  simp [rcell]; omega
variable {L : List (GRule × Nat)}
theorem OR.nil : OR H N tr ti y [] := ⟨fun h => absurd rfl h, fun x h => by cases h⟩
theorem OR.rr (h : OR H N tr ti y L) : RR H (slp y L.length) (L.map (·.1)) := by
 intro hn
 have hL : L ≠ [] := by intro e; rw [e] at hn; exact hn rfl
 obtain ⟨_, h2⟩ := h.all hL
 refine ⟨y, 0, _, tr, true, slp_pos (by intro e; exact hL (List.eq_nil_of_length_eq_zero e)), h2, fun i r e => ?_⟩
 rw [List.getElem?_map, Option.map_eq_some_iff] at e
 obtain ⟨x, e1, rfl⟩ := e
 refine ⟨slp x.2 x.1.right.length, ?_, ?_, ?_, (h.part x (List.mem_of_getElem? e1)).rs⟩
 ·rw [Nat.zero_add]; exact rcells_at L i 0 x (by omega) e1
 ·rw [Nat.zero_add, rcells_at L i 1 x (by omega) e1, ← sl_eq]; rfl
 ·rw [Nat.zero_add, rcells_at L i 2 x (by omega) e1]; rfl
theorem OR.keep (h : OR H N tr ti y L) (hk : ∀ z, N ≤ z → H z ≠ .dead → H' z = H z) : OR H' N tr ti y L :=
 ⟨fun hn => by
  obtain ⟨h1, h2⟩ := h.all hn
  exact ⟨h1, by rw [hk y h1 (by rw [h2]; intro e; cases e), h2]⟩, fun x hx => (h.part x hx).keep (hk x.2)⟩
theorem OR.weak {N' : Nat} (h : OR H N tr ti y L) (hn : N' ≤ N) : OR H N' tr ti y L := ⟨fun h0 => ⟨Nat.le_trans hn (h.all h0).1, (h.all h0).2⟩, fun x hx => (h.part x hx).weak hn⟩
theorem OR.snoc {y' : Nat} {x : GRule × Nat} (h : OR H N tr ti y L) (ht : ti ≠ tr) (hn : N ≤ y') (hy : H' y' = .cells (L.flatMap rcell ++ rcell x) tr true) (hx : OL H' N ti (Value.int .i64) x.2 x.1.right)
  (hk : ∀ z, N ≤ z → H z ≠ .dead → (L ≠ [] → z ≠ y) → H' z = H z) : OR H' N tr ti y' (L ++ [x]) :=
 ⟨fun _ => ⟨hn, by rw [hy, List.flatMap_append]; simp⟩, fun z hz => by
  rcases List.mem_append.1 hz with hz | hz
  ·intro h0
   obtain ⟨h1, h2⟩ := h.part z hz h0
   refine ⟨h1, ?_⟩
   rw [hk z.2 h1 (by rw [h2]; intro e; cases e) fun hL e => ?_, h2]
   obtain ⟨_, h3⟩ := h.all hL
   rw [← e, h2] at h3
   exact ht (AObj.cells.inj h3).2.1
  ·rw [List.mem_singleton] at hz
   subst hz; exact hx⟩
end Go.AM
