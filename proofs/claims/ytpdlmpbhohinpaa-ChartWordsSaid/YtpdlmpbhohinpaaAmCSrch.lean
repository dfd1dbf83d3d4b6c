/- A part of a proof. Its conditions: none. -/
import Derived.Test.YtpdlmpbhohinpaaAmCFacts
import Derived.Test.YtpdlmpbhohinpaaAmC
import Derived.Test.YtpdlmpbhohinpaaAmD
set_option linter.all false
namespace Go.Proofs.Ytpdlmpbhohinpaa
open Go.AM Go.RowKit
set_option maxRecDepth 100000
def itC (x : It) : List Value := [.int .i64 (x.1 : Nat), .int .i64 (x.2.1 : Nat), .int .i64 (x.2.2 : Nat)]
def itV (x : It) : Value := .agg (itC x).toArray
theorem itC_len (x : It) : (itC x).length = 3 := rfl
theorem itcs_len (l : List It) : (l.flatMap itC).length = l.length * 3 := by
  induction l with
  | nil => rfl
  | cons x l ih => rw [List.flatMap_cons, List.length_append, ih, itC_len, List.length_cons]; omega
theorem itcs_at {l : List It} {i : Nat} {x : It} (h : l[i]? = some x) : ((l.flatMap itC).drop (i * 3)).take 3 = itC x := by
  induction l generalizing i with
  | nil => simp at h
  | cons y l ih =>
    rw [List.flatMap_cons]
    cases i with
    | zero => simp at h; subst h; rfl
    | succ i =>
      have e : (i + 1) * 3 = (itC y).length + i * 3 := by rw [itC_len]; omega
      rw [e, List.drop_append, List.drop_eq_nil_of_le (by omega), List.nil_append, Nat.add_sub_cancel_left]
      exact ih (by simpa using h)
theorem itC_inj {x y : It} (h : itC x = itC y) : x = y := by
  unfold itC at h
  simp only [List.cons.injEq, Value.int.injEq, true_and, and_true] at h
  obtain ⟨a, b, c⟩ := x
  obtain ⟨a', b', c'⟩ := y
  simp only at h
  simp only [Prod.mk.injEq]
  omega
def ents (l : List It) : List MapEntry := l.zipIdx.map fun p => ⟨itV p.1, .bool true, p.2⟩
def MO (l : List It) : AObj := .map (ents l) l.length 74
theorem ents_snoc (l : List It) (x : It) : ents (l ++ [x]) = ents l ++ [⟨itV x, .bool true, l.length⟩] := by
  unfold ents
  rw [List.zipIdx_append, List.map_append]
  simp
theorem mem_ents {l : List It} {e : MapEntry} (h : e ∈ ents l) : ∃ x ∈ l, e.key = itV x ∧ e.val = .bool true := by
  unfold ents at h
  obtain ⟨p, hp, rfl⟩ := List.mem_map.1 h
  obtain ⟨x, i⟩ := p
  exact ⟨x, (List.mem_zipIdx' hp).2 ▸ List.getElem_mem _, rfl, rfl⟩
theorem ents_mem {l : List It} {x : It} (h : x ∈ l) : ∃ e ∈ ents l, e.key = itV x := by
  obtain ⟨i, hi, rfl⟩ := List.getElem_of_mem h
  refine ⟨_, List.mem_map.2 ⟨(l[i], i), ?_, rfl⟩, rfl⟩
  rw [List.mem_zipIdx_iff_getElem?]
  exact List.getElem?_eq_getElem hi
theorem veq_it (x y : It) : veq (itV x) (itV y) = decide (x = y) := by
  by_cases h : x = y
  · subst h
    have : veqs (itC x) (itC x) = true := by simp [itC, veqs, veq1]
    simp only [decide_true]
    exact this
  · simp only [h, decide_false]
    cases hv : veq (itV x) (itV y) with
    | false => rfl
    | true =>
      have := veqs_eq (show veqs (itC x) (itC y) = true from hv)
      exact absurd (itC_inj this) h
theorem wide_it : wideK Try.prog 74 = true := by kernel_rfl
def smI (x : It) : Prop := x.1 ≤ 1000000 ∧ x.2.1 ≤ 1000000 ∧ x.2.2 ≤ 1000000
noncomputable def fsI : Array Field := match Try.prog.underlying 74 with
  | some (.struct fs) => fs
  | _ => #[]
theorem wf_nat {n : Nat} (h : n ≤ 1000000) : (Lit.int .i64 (n : Int)).wf = true := by
  have h1 : IntKind.min .i64 = -9223372036854775808 := rfl
  have h2 : IntKind.max .i64 = 9223372036854775807 := rfl
  unfold Lit.wf
  simp only [h1, h2, Bool.and_eq_true, decide_eq_true_eq]
  omega
theorem key_it {x : It} (h : smI x) : (keyOf Try.prog 74 (itV x)).isSome = true :=
  keyOf_3 (fs := fsI) (ti := 3) (by kernel_rfl) (by kernel_rfl) (by kernel_rfl) (Nat.lt_of_lt_of_le Nat.zero_lt_one (Nat.le_of_ble_eq_true (by kernel_rfl))) (by kernel_rfl) (by kernel_rfl) (by kernel_rfl) (by kernel_rfl) (wf_nat h.1) (wf_nat h.2.1) (wf_nat h.2.2)
theorem und_map : Try.prog.underlying 66 = some (.map 74 4) := by kernel_rfl
theorem zero_bool : ((Try.prog.info? 4).bind (·.zero)) = some (.bool false) := by kernel_rfl
theorem find_it {x : It} (hs : smI x) (l : List It) : afind Try.prog 74 (itV x) (ents l) = some ((ents l).findIdx? fun e => veq e.key (itV x)) := by
  unfold afind
  rw [if_pos ⟨wide_it, rfl, key_it hs⟩]
theorem find_no {x : It} {l : List It} (h : x ∉ l) : ((ents l).findIdx? fun e => veq e.key (itV x)) = none := by
  rw [List.findIdx?_eq_none_iff]
  intro e he
  obtain ⟨y, hy, hk, _⟩ := mem_ents he
  rw [hk, veq_it]
  simp only [decide_eq_false_iff_not]
  rintro rfl
  exact h hy
theorem find_yes {x : It} {l : List It} (h : x ∈ l) : ∃ i e, ((ents l).findIdx? fun e => veq e.key (itV x)) = some i ∧ (ents l)[i]? = some e ∧ e.val = .bool true := by
  cases hf : (ents l).findIdx? fun e => veq e.key (itV x) with
  | none =>
    rw [List.findIdx?_eq_none_iff] at hf
    obtain ⟨e, he, hk⟩ := ents_mem h
    have := hf e he
    rw [hk, veq_it] at this
    simp at this
  | some i =>
    rw [List.findIdx?_eq_some_iff_getElem] at hf
    obtain ⟨hi, _, _⟩ := hf
    obtain ⟨y, _, _, hv⟩ := mem_ents (List.getElem_mem hi)
    exact ⟨i, _, rfl, List.getElem?_eq_getElem hi, hv⟩
theorem look_it {H : Heap} {m : Nat} {l : List It} (h : H m = MO l) {x : It} (hs : smI x) : alookup Try.prog 66 H (.map (some m)) (itV x) false = some { v := .bool (decide (x ∈ l)), rd := [m] } := by
  unfold MO at h
  unfold alookup
  rw [und_map]
  simp only [h, if_pos, find_it hs]
  by_cases hx : x ∈ l
  · obtain ⟨i, e, h1, h2, h3⟩ := find_yes hx
    simp only [h1, h2, h3, hx, decide_true]
    rfl
  · simp only [find_no hx, zero_bool, hx, decide_false]
    rfl
theorem set_it {H : Heap} {m : Nat} {l : List It} (h : H m = MO l) {x : It} (hs : smI x) (hx : x ∉ l) : amapset Try.prog 66 H (.map (some m)) (itV x) (.bool true) = some { v := undef, wr := some (m, MO (l ++ [x])) } := by
  unfold MO at h
  unfold amapset
  rw [und_map]
  simp only [h, if_pos, find_it hs, find_no hx]
  unfold MO
  rw [ents_snoc, List.length_append]
  rfl
theorem make_it (n : Nat) : amake Try.prog n 66 = some { v := .map (some n), news := [MO []] } := by
  unfold amake
  rw [und_map]
  rfl
def LR (H : Heap) (v : Value) (l : List It) : Prop := (l = [] ∧ v = .slice none 0 0) ∨ (l ≠ [] ∧ ∃ z own, v = .slice (some ⟨z, 0, none⟩) l.length l.length ∧ H z = .rows (l.flatMap itC) 74 own)
def LV (H : Heap) (N : Nat) (v : Value) (l : List It) : Prop := (l = [] ∧ v = .slice none 0 0) ∨ (l ≠ [] ∧ ∃ z, v = .slice (some ⟨z, 0, none⟩) l.length l.length ∧ N ≤ z ∧ H z = .rows (l.flatMap itC) 74 true)
theorem LV.lr {H : Heap} {N : Nat} {v : Value} {l : List It} (h : LV H N v l) : LR H v l := by
  rcases h with h | ⟨h0, z, h1, _, h2⟩
  · exact .inl h
  · exact .inr ⟨h0, z, true, h1, h2⟩
theorem LR.rk {H H' : Heap} {v : Value} {l : List It} (h : LR H v l) (k : RK H H') : LR H' v l := by
  rcases h with h | ⟨h0, z, own, h1, h2⟩
  · exact .inl h
  · obtain ⟨own', h3⟩ := k _ _ _ _ h2
    exact .inr ⟨h0, z, own', h1, h3⟩
theorem LR.slice {H : Heap} {v : Value} {l : List It} (h : LR H v l) : ∃ p, v = .slice p l.length l.length := by
  rcases h with ⟨rfl, rfl⟩ | ⟨_, z, _, h1, _⟩
  · exact ⟨none, rfl⟩
  · exact ⟨_, h1⟩
theorem LR.at {H : Heap} {p : Option Addr} {l : List It} (h : LR H (.slice p l.length l.length) l) {i : Nat} (hi : i < l.length) : ∃ z own, p = some ⟨z, 0, none⟩ ∧ H z = .rows (l.flatMap itC) 74 own ∧ ((l.flatMap itC).drop (i * 3)).take 3 = itC l[i] ∧ i * 3 + 3 ≤ (l.flatMap itC).length := by
  rcases h with ⟨rfl, _⟩ | ⟨_, z, own, h1, h2⟩
  · exact absurd hi (Nat.not_lt_zero _)
  · cases h1
    exact ⟨z, own, rfl, h2, itcs_at (List.getElem?_eq_getElem hi), by rw [itcs_len]; omega⟩
def RC (P : Nat → Prop) (H H' : Heap) : Prop := RK H H' ∧ ∀ z cs ty own, ¬ P z → H z = .cells cs ty own → H' z = .cells cs ty own
theorem RC.refl (P : Nat → Prop) (H : Heap) : RC P H H := ⟨.refl H, fun _ _ _ _ _ h => h⟩
theorem RC.trans {P : Nat → Prop} {H H1 H2 : Heap} (a : RC P H H1) (b : RC P H1 H2) : RC P H H2 := ⟨a.1.trans b.1, fun z cs ty own hp h => b.2 z cs ty own hp (a.2 z cs ty own hp h)⟩
theorem RC.mono {P Q : Nat → Prop} {H H1 : Heap} (a : RC P H H1) (h : ∀ z cs ty own, H z = .cells cs ty own → P z → Q z) : RC Q H H1 := ⟨a.1, fun z cs ty own hp e => a.2 z cs ty own (fun hP => hp (h z cs ty own e hP)) e⟩
theorem RC.setM {P : Nat → Prop} {H : Heap} {x : Nat} {o : AObj} {l : List It} (h : H x = MO l) : RC P H (hset H x o) := ⟨.set fun c t o e => (by rw [h] at e; unfold MO at e; cases e), fun z cs ty own _ e => (hset_ne' _ _ _ (by rintro rfl; rw [h] at e; unfold MO at e; cases e)).trans e⟩
theorem RC.setY {P : Nat → Prop} {H : Heap} {x : Nat} {o : AObj} {cs : List Value} {ty : TypeId} {own : Bool} (h : H x = .cells cs ty own) (hp : P x) : RC P H (hset H x o) := ⟨.set fun c t o e => (by rw [h] at e; cases e), fun z cs ty own hn e => (hset_ne' _ _ _ (by rintro rfl; exact hn hp)).trans e⟩
theorem RC.own {P : Nat → Prop} {H : Heap} {x : Nat} {cs : List Value} {ty : TypeId} {own own' : Bool} (h : H x = .rows cs ty own) : RC P H (hset H x (.rows cs ty own')) := ⟨.own h, fun z cs ty own _ e => (hset_ne' _ _ _ (by rintro rfl; rw [h] at e; cases e)).trans e⟩
theorem rc_kp {P : Nat → Prop} {n n' : Nat} {H H' : Heap} (k : Kp n H n' H') (hw : WF n H) : RC P H H' := ⟨k.rk hw, fun z cs ty own _ h => (k.keep z (Classical.byContradiction fun hc => by rw [hw z (by omega)] at h; cases h)).trans h⟩
def SC (H : Heap) (N : Nat) (cs : List Value) (k : Nat) (l : List It) : Prop := ∃ v m, cs[k]? = some v ∧ cs[k + 1]? = some (.map (some m)) ∧ N ≤ m ∧ H m = MO l ∧ LV H N v l
end Go.Proofs.Ytpdlmpbhohinpaa

namespace Go.Proofs.Ytpdlmpbhohinpaa
open Go.AM Go.RowKit
set_option maxRecDepth 100000
theorem set_self {cs : List Value} {k : Nat} {v : Value} (h : cs[k]? = some v) : cs.set k v = cs := by
  apply List.ext_getElem?
  intro i
  rw [List.getElem?_set]
  by_cases hi : k = i
  · subst hi
    rw [if_pos rfl, h]
    obtain ⟨h1, _⟩ := List.getElem?_eq_some_iff.1 h
    simp [h1]
  · rw [if_neg hi]
set_option maxHeartbeats 4000000 in
theorem add_gives {N y k n : Nat} {H : Heap} {cs : List Value} {l : List It} {x : It} (hw : WF n H) (hN : N ≤ n) (hyN : N ≤ y) (hy : H y = .cells cs 69 true) (hs : SC H N cs k l) (hx : smI x) (hl : l.length ≤ 900000) :
    GivesX Try.prog (fun z => N ≤ z) 45 [.pointer (some ⟨y, k, none⟩), itV x] n H fun _ _ H' => RC (· = y) H H' ∧ ∃ v', H' y = .cells (cs.set k v') 69 true ∧ SC H' N (cs.set k v') k (addI l x) := by
  obtain ⟨v, m, hk0, hk1, hmN, hm, hv⟩ := hs
  have low : ∀ {z o}, H z = o → o ≠ .dead → z < n := fun {z o} e ho => by
    apply Classical.byContradiction
    intro hc
    rw [hw z (by omega)] at e; exact ho e.symm
  have hyn := low hy (by intro h; cases h)
  have hmn := low hm (by unfold MO; intro h; cases h)
  refine GivesX.of orders ok45 (Nat.le_of_ble_eq_true rfl) ?_
  have hk := Kp.new n H (.cells (itC x) 74 true)
  have hb := hset_at H n (.cells (itC x) 74 true)
  have hrk := rc_kp (P := (· = y)) hk hw
  repeat (first | refine qqn rfl ?_)
  have hvc : vcells (itV x) = itC x := rfl
  have hone : (itC x).all one = true := rfl
  have htk : ((itC x).drop 0).take 3 = itC x := rfl
  have hag : Value.agg (itC x).toArray = itV x := rfl
  have h03 : (3 : Nat) ≤ (itC x).length := Nat.le_refl _
  (refine WK.rgn ?_ ?_; kernel_rfl; simp (config := {maxSteps:=999999}) only [SS, qx39, forall_const, vun, Int.reduceEq, Int.reduceNeg, Nat.reduceGT, Nat.reduceLT, Nat.reduceLeDiff, Nat.reduceEqDiff, ↓reduceIte, reduceCtorEq, Int.reduceToNat, Int.reduceLE, Int.reduceLT, Nat.reduceAdd, Nat.reduceMul, hvc, hone, ff_45])
  have hy1 := (hk.keep y hyn).trans hy
  have hm1 := (hk.keep m hmn).trans hm
  have hw1 := hk.wf hw
  replace hv : LV (hset H n (.cells (itC x) 74 true)) N v l := by
    rcases hv with h | ⟨h0, z, h1, h2, h3⟩
    · exact .inl h
    · exact .inr ⟨h0, z, h1, h2, (hk.keep z (low h3 (by intro h; cases h))).trans h3⟩
  generalize hset H n (.cells (itC x) 74 true) = H1 at *
  have hlk := look_it hm1 hx
  have k1c : k + 1 + 1 ≤ cs.length := (List.getElem?_eq_some_iff.1 hk1).1
  have k0c : k + 1 ≤ cs.length := by omega
  by_cases hin : x ∈ l
  · repeat (first | refine qqn rfl ?_ | ((first | (refine WK.rgn ?_ ?_; kernel_rfl) | refine AtCall.now ?_); simp (config := {maxSteps:=999999}) only [SS, qx39, forall_const, vun, Int.reduceEq, Int.reduceNeg, Nat.reduceGT, Nat.reduceLT, Nat.reduceLeDiff, Nat.reduceEqDiff, ↓reduceIte, reduceCtorEq, Int.reduceToNat, Int.reduceLE, Int.reduceLT, Nat.reduceAdd, Nat.reduceMul, hb, hy1, hk1, hk0, htk, hag, h03, aop_nc, tnc, aop_look, aop_mapset, hlk, hin, k1c, ff_45]) | refine qqj rfl ?_ | refine qqk rfl ?_)
    (first | refine WK.retNil ⟨Or.inr rfl, _, rfl, ?_, ?_⟩ | refine WK.skipNil ⟨Or.inl rfl, _, rfl, ?_, ?_⟩)
    · exact fun z hz _ => hk.keep z hz
    · refine ⟨hrk, v, ?_, ?_⟩
      · rw [set_self hk0]; exact hy1
      · rw [set_self hk0]
        unfold addI
        rw [if_pos hin]
        exact ⟨v, m, hk0, hk1, hmN, hm1, hv⟩
  · have hst := set_it hm1 hx hin
    have hym : y ≠ m := by rintro rfl; rw [hy1] at hm1; unfold MO at hm1; cases hm1
    have hnm : n ≠ m := by omega
    have hm2 := hset_at H1 m (MO (l ++ [x]))
    have hy2 := (hset_ne H1 m (MO (l ++ [x])) hym).trans hy1
    have hb2 := (hset_ne H1 m (MO (l ++ [x])) hnm).trans hb
    have kx2 : Kx (fun z => N ≤ z) n H (n + 1) (hset H1 m (MO (l ++ [x]))) := hk.kx.set _ (.inl hmN) (by omega)
    have hw2 := kx2.wf hw
    have hrk2 : RC (· = y) H (hset H1 m (MO (l ++ [x]))) := hrk.trans (.setM hm1)
    have hv2 : LV (hset H1 m (MO (l ++ [x]))) N v l := by
      rcases hv with h | ⟨h0, z, h1, h2, h3⟩
      · exact .inl h
      · exact .inr ⟨h0, z, h1, h2, (hset_ne _ _ _ (by rintro rfl; rw [hm1] at h3; unfold MO at h3; cases h3)).trans h3⟩
    repeat (first | refine qqn rfl ?_ | ((first | (refine WK.rgn ?_ ?_; kernel_rfl) | refine AtCall.now ?_); simp (config := {maxSteps:=999999}) only [SS, qx39, forall_const, vun, Int.reduceEq, Int.reduceNeg, Nat.reduceGT, Nat.reduceLT, Nat.reduceLeDiff, Nat.reduceEqDiff, ↓reduceIte, reduceCtorEq, Int.reduceToNat, Int.reduceLE, Int.reduceLT, Nat.reduceAdd, Nat.reduceMul, hb, hy1, hk1, hk0, htk, hag, h03, aop_nc, tnc, aop_look, aop_mapset, hlk, hin, k1c, hst, ff_45]) | refine qqj rfl ?_ | refine qqk rfl ?_)
    generalize hset H1 m (MO (l ++ [x])) = H2 at *
    have hsp : Go.AM.splice [Value.int IntKind.i64 (Int.ofNat 0), Value.int IntKind.i64 (Int.ofNat 0), Value.int IntKind.i64 (Int.ofNat 0)] 0 (itC x) = itC x := rfl
    have hlen3 : (itC x).length = 3 := rfl
    have hb3 := hset_at H2 (n + 1) (.cells (itC x) 74 true)
    have hyn1 : y ≠ n + 1 := by omega
    have hmn1 : m ≠ n + 1 := by omega
    have hy3 := (hset_ne H2 (n + 1) (.cells (itC x) 74 true) hyn1).trans hy2
    have hm3 := (hset_ne H2 (n + 1) (.cells (itC x) 74 true) hmn1).trans hm2
    have k3 := Kp.new (n + 1) H2 (.cells (itC x) 74 true)
    have kx3 := kx2.trans k3.kx
    have hrk3 := hrk2.trans (rc_kp k3 hw2)
    have hw3 := k3.wf hw2
    have hadd : addI l x = l ++ [x] := by unfold addI; rw [if_neg hin]
    have hset0 : ∀ v', (cs.set k v')[k]? = some v' := fun v' => by rw [List.getElem?_set]; simp; omega
    have hset1 : ∀ v', (cs.set k v')[k + 1]? = some (.map (some m)) := fun v' => by rw [List.getElem?_set, if_neg (by omega)]; exact hk1
    rcases hv2 with ⟨rfl, rfl⟩ | ⟨h0, z, rfl, hzN, hz⟩
    · have hg := grow_nil (P := Try.prog) (n := n + 1 + 1) (ts := #[67, 67]) (eapp_67_67) hb3 rfl
      generalize hE : hset H2 (n + 1) (.cells (itC x) 74 true) = H3 at *
      have hy4 : hset H3 (n + 1 + 1) (.rows (itC x) 74 true) y = _ := (hset_ne _ _ _ (by omega)).trans hy3
      have hm4 : hset H3 (n + 1 + 1) (.rows (itC x) 74 true) m = _ := (hset_ne _ _ _ (by omega)).trans hm3
      have hz4 := hset_at H3 (n + 1 + 1) (.rows (itC x) 74 true)
      have k4 := Kp.new (n + 1 + 1) H3 (.rows (itC x) 74 true)
      have kx4 := kx3.trans k4.kx
      have hrk4 := hrk3.trans (rc_kp k4 hw3)
      simp (config := {maxSteps:=999999}) only [SS, qx39, forall_const, vun, Int.reduceEq, Int.reduceNeg, Nat.reduceGT, Nat.reduceLT, Nat.reduceLeDiff, Nat.reduceEqDiff, ↓reduceIte, reduceCtorEq, Int.reduceToNat, Int.reduceLE, Int.reduceLT, Nat.reduceAdd, Nat.reduceMul, hy2, hk0, hb2, htk, hag, h03, hvc, hone, hsp, hlen3, hE, hg, aop_nc, tnc, hy3, hy4, k0c, ff_45]
      generalize hset H3 (n + 1 + 1) (.rows (itC x) 74 true) = H4 at *
      (first | refine WK.retNil ⟨Or.inr rfl, _, rfl, ?_, ?_⟩ | refine WK.skipNil ⟨Or.inl rfl, _, rfl, ?_, ?_⟩)
      · intro z hz hzN
        exact (kx4.set _ (.inl hyN) (by omega)).keep z hz hzN
      · refine ⟨hrk4.trans (.setY hy4 rfl), _, hset_at _ _ _, ?_⟩
        rw [hadd]
        refine ⟨_, m, hset0 _, hset1 _, hmN, (hset_ne _ _ _ (Ne.symm hym)).trans hm4, .inr ⟨by simp, n + 1 + 1, rfl, by omega, (hset_ne _ _ _ (by omega)).trans (hz4.trans (by simp))⟩⟩
    · have hlz : l.length * 3 = (l.flatMap itC).length := (itcs_len l).symm
      have hl0 : l.length ≠ 0 := fun h => h0 (List.length_eq_zero_iff.1 h)
      have hzn : z < n + 1 := Classical.byContradiction fun hc => by rw [hw2 z (by omega)] at hz; cases hz
      have hz3 := (hset_ne H2 (n + 1) (.cells (itC x) 74 true) (x := z) (by omega)).trans hz
      have hg := grow_some (P := Try.prog) (n := n + 1 + 1) (ts := #[67, 67]) (c := l.length) (eapp_67_67) hb3 rfl hz3 hlz hl0 (by unfold bigN; omega)
      generalize hE : hset H2 (n + 1) (.cells (itC x) 74 true) = H3 at *
      have hzy : y ≠ z := by rintro rfl; rw [hy2] at hz; cases hz
      have hzm : m ≠ z := by rintro rfl; rw [hm2] at hz; unfold MO at hz; cases hz
      have hy5 := (hset_ne H3 z (.rows (l.flatMap itC) 74 false) hzy).trans hy3
      have hm5 := (hset_ne H3 z (.rows (l.flatMap itC) 74 false) hzm).trans hm3
      have kx5 := kx3.set (.rows (l.flatMap itC) 74 false) (x := z) (.inl hzN) (by omega)
      have hrk5 := hrk3.trans (RC.own hz3 (own' := false))
      have hw5 := kx5.wf hw
      generalize hE2 : hset H3 z (.rows (l.flatMap itC) 74 false) = H5 at *
      have hy4 : hset H5 (n + 1 + 1) (.rows (l.flatMap itC ++ itC x) 74 true) y = _ := (hset_ne _ _ _ (by omega)).trans hy5
      have hm4 : hset H5 (n + 1 + 1) (.rows (l.flatMap itC ++ itC x) 74 true) m = _ := (hset_ne _ _ _ (by omega)).trans hm5
      have hz4 := hset_at H5 (n + 1 + 1) (.rows (l.flatMap itC ++ itC x) 74 true)
      have k4 := Kp.new (n + 1 + 1) H5 (.rows (l.flatMap itC ++ itC x) 74 true)
      have kx4 := kx5.trans k4.kx
      have hrk4 := hrk5.trans (rc_kp k4 hw5)
      simp (config := {maxSteps:=999999}) only [SS, qx39, forall_const, vun, Int.reduceEq, Int.reduceNeg, Nat.reduceGT, Nat.reduceLT, Nat.reduceLeDiff, Nat.reduceEqDiff, ↓reduceIte, reduceCtorEq, Int.reduceToNat, Int.reduceLE, Int.reduceLT, Nat.reduceAdd, Nat.reduceMul, hy2, hk0, hb2, htk, hag, h03, hvc, hone, hsp, hlen3, hE, hg, hE2, aop_nc, tnc, hy3, hy4, k0c, ff_45]
      generalize hset H5 (n + 1 + 1) (.rows (l.flatMap itC ++ itC x) 74 true) = H4 at *
      (first | refine WK.retNil ⟨Or.inr rfl, _, rfl, ?_, ?_⟩ | refine WK.skipNil ⟨Or.inl rfl, _, rfl, ?_, ?_⟩)
      · intro z hz hzN
        exact (kx4.set _ (.inl hyN) (by omega)).keep z hz hzN
      · refine ⟨hrk4.trans (.setY hy4 rfl), _, hset_at _ _ _, ?_⟩
        rw [hadd]
        refine ⟨_, m, hset0 _, hset1 _, hmN, (hset_ne _ _ _ (Ne.symm hym)).trans hm4, .inr ⟨by simp, n + 1 + 1, by simp, by omega, (hset_ne _ _ _ (by omega)).trans (hz4.trans (by simp))⟩⟩
end Go.Proofs.Ytpdlmpbhohinpaa

namespace Go.Proofs.Ytpdlmpbhohinpaa
open Go.AM Go.RowKit
set_option maxRecDepth 100000
def numC (n : Nat) : Value := .int .i64 (n : Int)
structure Stat (S : Heap) (N : Nat) (pr pg pe pc : Option Addr) (g : Gram) (gd em : List Bool) (co : List Nat) : Prop where
  wf : WF N S
  rr : RR S pr g.rules
  gdA : RA .bool S pg gd
  emA : RA .bool S pe em
  coA : RA numC S pc co
  gdL : gd.length = g.rules.length
  emL : em.length = g.vars.length
  coL : co.length = g.vars.length
  rl : g.rules.length ≤ 24
  r8 : ∀ r ∈ g.rules, r.right.length ≤ 8
  sym : ∀ r ∈ g.rules, ∀ s ∈ r.right, inI s ∧ s < g.vars.length
  left : ∀ r ∈ g.rules, 0 ≤ r.left ∧ r.left < g.vars.length
  up : ∀ i j (hi : i < g.rules.length) (hj : j < g.rules.length), i ≤ j → g.rules[i].left ≤ g.rules[j].left
  vl : g.vars.length ≤ 8
def chC (pt pv pr pg pe pc : Option Addr) (g : Gram) (gd em : List Bool) (co : List Nat) (sv wv : Value) : List Value :=
  [.slice pt g.terms.length g.terms.length, .slice pv g.vars.length g.vars.length, .slice pr g.rules.length g.rules.length, .slice pg gd.length gd.length, .slice pe em.length em.length, .slice pc co.length co.length, sv, wv]
section
variable {pt pv pr pg pe pc : Option Addr} {g : Gram} {gd em : List Bool} {co : List Nat} {sv wv : Value}
theorem ch2 : (chC pt pv pr pg pe pc g gd em co sv wv)[2]? = some (.slice pr g.rules.length g.rules.length) := rfl
theorem ch3 : (chC pt pv pr pg pe pc g gd em co sv wv)[3]? = some (.slice pg gd.length gd.length) := rfl
theorem ch4 : (chC pt pv pr pg pe pc g gd em co sv wv)[4]? = some (.slice pe em.length em.length) := rfl
theorem ch5 : (chC pt pv pr pg pe pc g gd em co sv wv)[5]? = some (.slice pc co.length co.length) := rfl
theorem ch6 : (chC pt pv pr pg pe pc g gd em co sv wv)[6]? = some (sv) := rfl
theorem ch7 : (chC pt pv pr pg pe pc g gd em co sv wv)[7]? = some (wv) := rfl
theorem chg : ((chC pt pv pr pg pe pc g gd em co sv wv).drop 0).take 3 = gcells pt pv pr g := rfl
theorem chl : (chC pt pv pr pg pe pc g gd em co sv wv).length = 8 := rfl
end
theorem it0 (x : It) : (itC x)[0]? = some (.int .i64 (x.1 : Nat)) := rfl
theorem it1 (x : It) : (itC x)[1]? = some (.int .i64 (x.2.1 : Nat)) := rfl
theorem it2 (x : It) : (itC x)[2]? = some (.int .i64 (x.2.2 : Nat)) := rfl
theorem itvc (x : It) : vcells (itV x) = itC x := rfl
theorem itone (x : It) : (itC x).all one = true := rfl
theorem ittk (x : It) : ((itC x).drop 0).take 3 = itC x := rfl
theorem itag (x : It) : Value.agg (itC x).toArray = itV x := rfl
theorem itsp (x : It) : Go.AM.splice [Value.int IntKind.i64 (Int.ofNat 0), Value.int IntKind.i64 (Int.ofNat 0), Value.int IntKind.i64 (Int.ofNat 0)] 0 (itC x) = itC x := rfl
theorem itup (x : It) (h : x.2.1 ≤ 1000) : Value.agg #[Value.int .i64 (x.1 : Nat), Value.int .i64 (IntKind.wrap .i64 ((x.2.1 : Nat) + 1)), Value.int .i64 (x.2.2 : Nat)] = itV (upI x) := by
  rw [wrap_in (by omega) (by omega)]; rfl
theorem itle (x : It) : (3 : Nat) ≤ (itC x).length := Nat.le_refl _
theorem rgt_at {g : Gram} {r : Nat} (h : r < g.rules.length) : rgt g r = g.rules[r].right := by
  unfold rgt; rw [List.getElem?_eq_getElem h]; rfl
theorem lft_at {g : Gram} {r : Nat} (h : r < g.rules.length) : lft g r = g.rules[r].left := by
  unfold lft; rw [List.getElem?_eq_getElem h]; rfl
set_option maxHeartbeats 4000000 in
theorem next_gives {S H : Heap} {N o n : Nat} {pt pv pr pg pe pc : Option Addr} {g : Gram} {gd em : List Bool} {co : List Nat} {sv wv : Value} {x : It} (st : Stat S N pr pg pe pc g gd em co) (hw : WF n H) (hS : Sub S H)
    (ho : H o = .cells (chC pt pv pr pg pe pc g gd em co sv wv) 62 true) (hx : x.1 < g.rules.length) (hd : x.2.1 ≤ (rgt g x.1).length) :
    Gives Try.prog 44 [.pointer (some ⟨o, 0, none⟩), itV x] n H fun v _ _ => v = .tuple #[.int .i64 ((nx g x).getD 0), .bool (nx g x).isSome] := by
  refine Gives.of orders ok44 (Nat.le_of_ble_eq_true rfl) ?_
  have hk := Kp.new n H (.cells (itC x) 74 true)
  have hb := hset_at H n (.cells (itC x) 74 true)
  have hon : o < n := Classical.byContradiction fun hc => by rw [hw o (by omega)] at ho; cases ho
  have ho1 := (hk.keep o hon).trans ho
  have hS1 := hS.kp hw hk
  repeat (first | refine qqn rfl ?_)
  (refine WK.rgn ?_ ?_; kernel_rfl; simp (config := {maxSteps:=999999}) only [SS, qx14, forall_const, simprocAttr, itvc, itone, ff_44])
  generalize hset H n (.cells (itC x) 74 true) = H1 at *
  have hr8 := st.r8 _ (List.getElem_mem hx)
  have hrl := st.rl
  rw [rgt_at hx] at hd
  have hnx : nx g x = g.rules[x.1].right[x.2.1]? := by unfold nx; rw [rgt_at hx]
  obtain ⟨z, kz, ds, tz, oz, p, rfl, hz, c0, c1, c2, hp⟩ := (st.rr.sub hS1).at hx
  by_cases hlt : x.2.1 = g.rules[x.1].right.length
  · have hI : ((x.2.1 : Int) = (g.rules[x.1].right.length : Int)) := by rw [hlt]
    repeat (first | refine qqn rfl ?_ | ((first | (refine WK.rgn ?_ ?_; kernel_rfl) | refine AtCall.now ?_); simp (config := {maxSteps:=999999}) only [SS, qx14, forall_const, simprocAttr, hb, ho1, ch2, it0, it1, it2, aop_nc, tnc, hx, hz, c1, hI, ff_44]) | refine qqj rfl ?_ | refine qqk rfl ?_)
    (first | refine WK.retNil ⟨Or.inr rfl, _, rfl, ?_, ?_⟩ | refine WK.skipNil ⟨Or.inl rfl, _, rfl, ?_, ?_⟩)
    · exact hk.keep
    · simp only [packed, fset_apply, Nat.reduceEqDiff, ↓reduceIte, List.getD_cons_zero, List.getD_cons_succ, ff_44]
      rw [hnx, List.getElem?_eq_none (by omega)]
      rfl
  · have hI : ((x.2.1 : Int) = (g.rules[x.1].right.length : Int)) = False := by simp; omega
    have hlt2 : x.2.1 < g.rules[x.1].right.length := by omega
    obtain ⟨zz, kk, ds2, tz2, oz2, rfl, hz2, e2⟩ := hp.at hlt2
    repeat (first | refine qqn rfl ?_ | ((first | (refine WK.rgn ?_ ?_; kernel_rfl) | refine AtCall.now ?_); simp (config := {maxSteps:=999999}) only [SS, qx14, forall_const, simprocAttr, hb, ho1, ch2, it0, it1, it2, aop_nc, tnc, hx, hz, c1, hI, hlt2, hz2, e2, ff_44]) | refine qqj rfl ?_ | refine qqk rfl ?_)
    (first | refine WK.retNil ⟨Or.inr rfl, _, rfl, ?_, ?_⟩ | refine WK.skipNil ⟨Or.inl rfl, _, rfl, ?_, ?_⟩)
    · exact hk.keep
    · simp only [packed, fset_apply, Nat.reduceEqDiff, ↓reduceIte, List.getD_cons_zero, List.getD_cons_succ, ff_44]
      rw [hnx, List.getElem?_eq_getElem hlt2]
      rfl
end Go.Proofs.Ytpdlmpbhohinpaa

namespace Go.Proofs.Ytpdlmpbhohinpaa
open Go.AM Go.RowKit
set_option maxRecDepth 100000
set_option maxHeartbeats 4000000 in
theorem search_gives {F m n : Nat} {H : Heap} {captured : List Value} {p : Nat → Bool} (hm : m ≤ 1000000) (hmono : ∀ i j, i ≤ j → j < m → p i = true → p j = true)
    (hp : ∀ i n1 H1, i < m → Kp n H n1 H1 → Gives Try.prog F (.int .i64 (i : Nat) :: captured) n1 H1 fun v _ _ => v = .bool (p i)) :
    Gives Try.prog 78 [.int .i64 (m : Nat), .func (.func F) #[] captured.toArray] n H fun v _ _ => ∃ s : Nat, v = .int .i64 s ∧ s ≤ m ∧ (∀ i, i < s → p i = false) ∧ ∀ i, s ≤ i → i < m → p i = true := by
  refine Gives.of orders ok78 (Nat.le_of_ble_eq_true rfl) ?_
  repeat (first | refine qqn rfl ?_)
  repeat (first | refine qqn rfl ?_ | ((first | (refine WK.rgn ?_ ?_; kernel_rfl) | refine AtCall.now ?_); simp (config := {maxSteps:=999999}) only [SS, qx21, forall_const, vconv, vun, simprocAttr, ff_78]) | refine qqj rfl ?_ | refine qqk rfl ?_)
  refine WK.loop (fun k s => ∃ lo hi : Nat, Kp n H s.n s.H ∧ s.f 1 = .func (.func F) #[] captured.toArray ∧ s.f 5 = .int .i64 lo ∧ s.f 6 = .int .i64 hi ∧ lo ≤ hi ∧ hi ≤ m ∧ (∀ i, i < lo → p i = false) ∧ (∀ i, hi ≤ i → i < m → p i = true) ∧ k = hi - lo) m ?_ ?_
  · exact ⟨0, m, .refl n H, rfl, rfl, rfl, Nat.zero_le _, Nat.le_refl _, fun i hi => absurd hi (Nat.not_lt_zero _), fun i h1 h2 => absurd h1 (by omega), rfl⟩
  rintro kk ⟨f, n1, H1⟩ ⟨lo, hi, hk, f1, f5, f6, hle, hhi, hlo, hup, rfl⟩ ih
  simp only at f1 f5 f6 hk ih
  by_cases hlt : lo < hi
  · have hmid : IntKind.i64.wrap ((IntKind.u64.wrap (IntKind.i64.wrap ((lo : Int) + (hi : Int)))).fdiv (2 ^ min 1 IntKind.u64.bits)) = (((lo + hi) / 2 : Nat) : Int) := by
      rw [show (lo : Int) + (hi : Int) = ((lo + hi : Nat) : Int) by omega, wrap_i64n _ (by omega), wrap_u64n, Nat.mod_eq_of_lt (by omega)]
      rw [show min 1 IntKind.u64.bits = 1 from rfl, shr_nat, wrap_i64n _ (by omega)]
    have hh1 : lo ≤ (lo + hi) / 2 := by omega
    have hh2 : (lo + hi) / 2 < hi := by omega
    generalize (lo + hi) / 2 = h at hmid hh1 hh2
    repeat (first | refine qqn rfl ?_ | ((first | (refine WK.rgn ?_ ?_; kernel_rfl) | refine AtCall.now ?_); simp (config := {maxSteps:=999999}) only [SS, qx21, forall_const, vconv, vun, simprocAttr, f1, f5, f6, hlt, hmid, ff_78]) | refine qqj rfl ?_ | refine qqk rfl ?_)
    refine AtCall.by (hp h n1 H1 (by omega) hk) ?_
    rintro v n2 H2 hk2 rfl
    cases hb : p h with
    | false =>
      simp (config := {maxSteps:=999999}) only [SS, qx21, forall_const, vconv, vun, simprocAttr, hmid, ff_78]
      repeat (first | refine qqn rfl ?_ | ((first | (refine WK.rgn ?_ ?_; kernel_rfl) | refine AtCall.now ?_); simp (config := {maxSteps:=999999}) only [SS, qx21, forall_const, vconv, vun, simprocAttr, hmid, ff_78]) | refine qqj rfl ?_ | refine qqk rfl ?_)
      refine ih (hi - (h + 1)) (by omega) _ ⟨h + 1, hi, hk.trans hk2, f1, ?_, f6, by omega, hhi, fun i hi2 => ?_, hup, rfl⟩
      · simp only [packed, fset_apply, Nat.reduceEqDiff, ↓reduceIte, List.getD_cons_zero, List.getD_cons_succ, ff_78]
        rw [wrap_in (by omega) (by omega)]; rfl
      · cases hpi : p i with
        | false => rfl
        | true => rw [hmono i h (by omega) (by omega) hpi] at hb; cases hb
    | true =>
      simp (config := {maxSteps:=999999}) only [SS, qx21, forall_const, vconv, vun, simprocAttr, hmid, ff_78]
      repeat (first | refine qqn rfl ?_ | ((first | (refine WK.rgn ?_ ?_; kernel_rfl) | refine AtCall.now ?_); simp (config := {maxSteps:=999999}) only [SS, qx21, forall_const, vconv, vun, simprocAttr, hmid, ff_78]) | refine qqj rfl ?_ | refine qqk rfl ?_)
      refine ih (h - lo) (by omega) _ ⟨lo, h, hk.trans hk2, f1, f5, rfl, hh1, by omega, hlo, fun i h1 h2 => ?_, rfl⟩
      exact hmono h i h1 h2 hb
  · repeat (first | refine qqn rfl ?_ | ((first | (refine WK.rgn ?_ ?_; kernel_rfl) | refine AtCall.now ?_); simp (config := {maxSteps:=999999}) only [SS, qx21, forall_const, vconv, vun, simprocAttr, f1, f5, f6, hlt, ff_78]) | refine qqj rfl ?_ | refine qqk rfl ?_)
    (first | refine WK.retNil ⟨Or.inr rfl, _, rfl, ?_, ?_⟩ | refine WK.skipNil ⟨Or.inl rfl, _, rfl, ?_, ?_⟩)
    · exact hk.keep
    · simp only [packed, fset_apply, Nat.reduceEqDiff, ↓reduceIte, List.getD_cons_zero, List.getD_cons_succ, f5, ff_78]
      have : lo = hi := by omega
      subst this
      exact ⟨lo, rfl, hhi, hlo, hup⟩
set_option maxHeartbeats 4000000 in
theorem rules1_gives {H : Heap} {n x y i : Nat} {pt pv pr : Option Addr} {g : Gram} {v : Int} (hr : RR H pr g.rules) (hx : H x = .cells (gcells pt pv pr g) 25 true) (hy : H y = .cells [.int .i64 v] 3 true) (hi : i < g.rules.length) :
    Gives Try.prog 79 [.int .i64 (i : Nat), .pointer (some ⟨x, 0, none⟩), .pointer (some ⟨y, 0, none⟩)] n H fun w _ _ => w = .bool (decide (v ≤ lft g i)) := by
  refine Gives.of orders ok79 (Nat.le_of_ble_eq_true rfl) ?_
  obtain ⟨z, kz, ds, tz, oz, p, rfl, hz, c0, c1, c2, hp⟩ := hr.at hi
  have hlf := lft_at hi
  repeat (first | refine qqn rfl ?_)
  repeat (first | refine qqn rfl ?_ | ((first | (refine WK.rgn ?_ ?_; kernel_rfl) | refine AtCall.now ?_); simp (config := {maxSteps:=999999}) only [SS, qg0, qgb, qgl, qgi, qgf, forall_const, tor, simprocAttr, hx, hy, gc_2, hz, c0, hi, ff_79]) | refine qqj rfl ?_ | refine qqk rfl ?_)
  (first | refine WK.retNil ⟨Or.inr rfl, _, rfl, ?_, ?_⟩ | refine WK.skipNil ⟨Or.inl rfl, _, rfl, ?_, ?_⟩)
  · exact fun _ _ => rfl
  · simp only [packed, fset_apply, Nat.reduceEqDiff, ↓reduceIte, List.getD_cons_zero, List.getD_cons_succ, ff_79]
    rw [hlf]
set_option maxHeartbeats 8000000 in
theorem rules_gives {H : Heap} {n : Nat} {pt pv pr : Option Addr} {g : Gram} {v : Int} (hw : WF n H) (hr : RR H pr g.rules) (hl : g.rules.length ≤ 24) (up : ∀ i j (hi : i < g.rules.length) (hj : j < g.rules.length), i ≤ j → g.rules[i].left ≤ g.rules[j].left) :
    Gives Try.prog 66 [.agg (gcells pt pv pr g).toArray, .int .i64 v] n H fun w _ _ => ∃ a b : Nat, w = .tuple #[.int .i64 a, .int .i64 b] ∧ a ≤ b ∧ b ≤ g.rules.length ∧ (∀ r, r < a → lft g r ≠ v) ∧ (∀ r, a ≤ r → r < b → lft g r = v) ∧ ∀ r, b ≤ r → r < g.rules.length → lft g r ≠ v := by
  refine Gives.of orders ok66 (Nat.le_of_ble_eq_true rfl) ?_
  have hk1 := Kp.new n H (.cells (gcells pt pv pr g) 25 true)
  have hb1 := hset_at H n (.cells (gcells pt pv pr g) 25 true)
  have hr1 := hr.mono hw hk1
  have hw1 := hk1.wf hw
  repeat (first | refine qqn rfl ?_)
  (refine WK.rgn ?_ ?_; kernel_rfl; simp (config := {maxSteps:=999999}) only [SS, qx1, forall_const, simprocAttr, box_cells, box_one, ff_66])
  generalize hset H n (.cells (gcells pt pv pr g) 25 true) = H1 at *
  have hk2 := Kp.new (n + 1) H1 (.cells [.int .i64 v] 3 true)
  have hb2 := hset_at H1 (n + 1) (.cells [.int .i64 v] 3 true)
  have hb12 := (hk2.keep n (by omega)).trans hb1
  have hr2 := hr1.mono hw1 hk2
  have hw2 := hk2.wf hw1
  have hk := hk1.trans hk2
  generalize hset H1 (n + 1) (.cells [.int .i64 v] 3 true) = H2 at *
  repeat (first | refine qqn rfl ?_ | ((first | (refine WK.rgn ?_ ?_; kernel_rfl) | refine AtCall.now ?_); simp (config := {maxSteps:=999999}) only [SS, qx1, forall_const, simprocAttr, hb12, hb2, gc_2, ff_66]) | refine qqj rfl ?_ | refine qqk rfl ?_)
  have hse := search_gives (n := n + 1 + 1) (H := H2) (F := 79) (m := g.rules.length) (captured := [.pointer (some ⟨n, 0, none⟩), .pointer (some ⟨n + 1, 0, none⟩)]) (p := fun i => decide (v ≤ lft g i)) (by omega)
    (fun i j hij hj hp => by
      have hi : i < g.rules.length := by omega
      simp only [decide_eq_true_eq] at hp ⊢
      rw [lft_at hi] at hp
      rw [lft_at hj]
      exact Int.le_trans hp (up i j hi hj hij))
    (fun i n1 H1 hi k => rules1_gives (hr2.mono hw2 k) ((k.keep _ (by omega)).trans hb12) ((k.keep _ (by omega)).trans hb2) hi)
  refine AtCall.by hse ?_
  rintro w n3 H3 hk3 ⟨s, rfl, hs1, hs2, hs3⟩
  have hb13 := (hk3.keep n (by omega)).trans hb12
  have hb23 := (hk3.keep (n + 1) (by omega)).trans hb2
  have hr3 := hr2.mono hw2 hk3
  simp (config := {maxSteps:=999999}) only [SS, qx1, forall_const, simprocAttr, ff_66]
  repeat (first | refine qqn rfl ?_ | ((first | (refine WK.rgn ?_ ?_; kernel_rfl) | refine AtCall.now ?_); simp (config := {maxSteps:=999999}) only [SS, qx1, forall_const, simprocAttr, ff_66]) | refine qqj rfl ?_ | refine qqk rfl ?_)
  have hs2' : ∀ r, r < s → lft g r ≠ v := fun r hr hq => by have := hs2 r hr; simp only [decide_eq_false_iff_not] at this; omega
  refine WK.loop (fun k s2 => ∃ j : Nat, s2.n = n3 ∧ s2.H = H3 ∧ s2.f 2 = .pointer (some ⟨n, 0, none⟩) ∧ s2.f 3 = .pointer (some ⟨n + 1, 0, none⟩) ∧ s2.f 6 = .int .i64 (s : Nat) ∧ s2.f 7 = .int .i64 (j : Nat) ∧ s ≤ j ∧ j ≤ g.rules.length ∧ (∀ r, s ≤ r → r < j → lft g r = v) ∧ k = g.rules.length - j) (g.rules.length - s) ?_ ?_
  · exact ⟨s, rfl, rfl, rfl, rfl, rfl, rfl, Nat.le_refl _, hs1, fun r h1 h2 => absurd h1 (by omega), rfl⟩
  rintro kk ⟨f, n', H'⟩ ⟨j, rfl, rfl, f2, f3, f6, f7, hsj, hj, he, rfl⟩ ih
  simp only at f2 f3 f6 f7 ih hb13 hb23 hr3 hk3
  by_cases hjr : j < g.rules.length
  · obtain ⟨z, kz, ds, tz, oz, p, rfl, hz, c0, c1, c2, hp⟩ := hr3.at hjr
    have hlf := lft_at hjr
    by_cases hq : g.rules[j].left = v
    · repeat (first | refine qqn rfl ?_ | ((first | (refine WK.rgn ?_ ?_; kernel_rfl) | refine AtCall.now ?_); simp (config := {maxSteps:=999999}) only [SS, qx1, forall_const, simprocAttr, f2, f3, f6, f7, hb13, hb23, gc_2, hjr, hz, c0, hq, ff_66]) | refine qqj rfl ?_ | refine qqk rfl ?_)
      refine ih (g.rules.length - (j + 1)) (by omega) _ ⟨j + 1, rfl, rfl, f2, f3, f6, ?_, by omega, hjr, fun r h1 h2 => ?_, rfl⟩
      · simp only [packed, fset_apply, Nat.reduceEqDiff, ↓reduceIte, List.getD_cons_zero, List.getD_cons_succ, ff_66]
        rw [wrap_in (by omega) (by omega)]; rfl
      · rcases Nat.lt_or_ge r j with h | h
        · exact he r h1 h
        · have : r = j := by omega
          subst this
          rw [hlf]; exact hq
    · repeat (first | refine qqn rfl ?_ | ((first | (refine WK.rgn ?_ ?_; kernel_rfl) | refine AtCall.now ?_); simp (config := {maxSteps:=999999}) only [SS, qx1, forall_const, simprocAttr, f2, f3, f6, f7, hb13, hb23, gc_2, hjr, hz, c0, hq, ff_66]) | refine qqj rfl ?_ | refine qqk rfl ?_)
      (first | refine WK.retNil ⟨Or.inr rfl, _, rfl, ?_, ?_⟩ | refine WK.skipNil ⟨Or.inl rfl, _, rfl, ?_, ?_⟩)
      · exact fun z hz => ((hk.trans hk3).keep z hz)
      · simp only [packed, fset_apply, Nat.reduceEqDiff, ↓reduceIte, List.getD_cons_zero, List.getD_cons_succ, f6, f7, ff_66]
        refine ⟨s, j, rfl, hsj, hj, hs2', he, fun r h1 h2 he2 => ?_⟩
        have h3 := up j r hjr h2 h1
        have h4 := hs3 j hsj hjr
        simp only [decide_eq_true_eq] at h4
        rw [lft_at h2] at he2
        rw [hlf] at h4
        exact hq (by omega)
  · repeat (first | refine qqn rfl ?_ | ((first | (refine WK.rgn ?_ ?_; kernel_rfl) | refine AtCall.now ?_); simp (config := {maxSteps:=999999}) only [SS, qx1, forall_const, simprocAttr, f2, f3, f6, f7, hb13, hb23, gc_2, hjr, ff_66]) | refine qqj rfl ?_ | refine qqk rfl ?_)
    (first | refine WK.retNil ⟨Or.inr rfl, _, rfl, ?_, ?_⟩ | refine WK.skipNil ⟨Or.inl rfl, _, rfl, ?_, ?_⟩)
    · exact fun z hz => ((hk.trans hk3).keep z hz)
    · simp only [packed, fset_apply, Nat.reduceEqDiff, ↓reduceIte, List.getD_cons_zero, List.getD_cons_succ, f6, f7, ff_66]
      exact ⟨s, j, rfl, hsj, hj, hs2', he, fun r h1 h2 => absurd h2 (by omega)⟩
end Go.Proofs.Ytpdlmpbhohinpaa
