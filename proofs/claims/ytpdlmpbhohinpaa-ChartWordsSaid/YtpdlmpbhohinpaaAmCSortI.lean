/- A part of a proof. Its conditions: none. -/
import Derived.Test.YtpdlmpbhohinpaaAmCChShort
import Derived.Test.YtpdlmpbhohinpaaAmC
import Derived.Test.YtpdlmpbhohinpaaAmCFacts
import Derived.Test.YtpdlmpbhohinpaaAmD
set_option linter.all false
namespace Go.Proofs.Ytpdlmpbhohinpaa
open Go.AM Go.RowKit
set_option maxRecDepth 100000
theorem WV.val {H : Heap} {N x : Nat} {v : Value} {w : List Int} (h : WV H N x v w) : ∃ p c, v = .slice p w.length c := by
  rcases h with ⟨rfl, rfl⟩ | ⟨c, cs, rfl, _⟩
  · exact ⟨none, 0, rfl⟩
  · exact ⟨_, c, rfl⟩
theorem len_gives' {H : Heap} {N o y x n : Nat} {pt pv pr pg pe pc : Option Addr} {g : Gram} {gd em : List Bool} {co : List Nat} {sets : List (List It)} {w : List Int}
    (hc : CHR H N o y x pt pv pr pg pe pc g gd em co sets w) :
    Gives Try.prog 13 [.pointer (some ⟨o, 0, none⟩)] n H fun v _ _ => v = .int .i64 (w.length : Nat) := by
  refine Gives.of orders ok13 (Nat.le_of_ble_eq_true rfl) ?_
  obtain ⟨c, wv, cs, ho, hyN, hy, hyl, hsr, hwv⟩ := id hc
  obtain ⟨p, cw, rfl⟩ := hwv.val
  repeat (first | refine qqn rfl ?_ | ((first | (refine WK.rgn ?_ ?_; kernel_rfl) | refine AtCall.now ?_); simp (config := {maxSteps:=999999}) only [SS, qg0, qgl, qgf, forall_const, tlen2, simprocAttr, ho, ch7, aop_nc, tnc, ff_13]) | refine qqj rfl ?_ | refine qqk rfl ?_)
  (first | refine WK.retNil ⟨Or.inr rfl, _, rfl, ?_, ?_⟩ | refine WK.skipNil ⟨Or.inl rfl, _, rfl, ?_, ?_⟩)
  · exact fun _ _ => rfl
  · simp only [packed, fset_apply, Nat.reduceEqDiff, ↓reduceIte, List.getD_cons_zero, List.getD_cons_succ, ff_13]
theorem clone_gives {H : Heap} {p : Option Addr} {c n : Nat} {w : List Int} (hw : WF n H) (hwl : w.length ≤ 1000000) (h : (w = [] ∧ p = none ∧ c = 0) ∨ ∃ x k cs ty own, p = some ⟨x, k, none⟩ ∧ H x = .cells cs ty own ∧ k + w.length ≤ cs.length ∧ (cs.drop k).take w.length = w.map (.int .i64)) :
    Gives Try.prog 47 [.slice p w.length c] n H fun v _ H' => ∃ q, v = .slice q w.length w.length ∧ ((q = none ∧ w = []) ∨ ∃ z, q = some ⟨z, 0, none⟩ ∧ n ≤ z ∧ H' z = .cells (w.map (.int .i64)) 3 true) := by
  refine Gives.of orders ok47 (Nat.le_of_ble_eq_true rfl) ?_
  rcases h with ⟨rfl, rfl, rfl⟩ | ⟨x, k, cs, ty, own, rfl, hx, hl, ht⟩
  · have hu : Try.prog.underlying 26 = some (.slice 3) := by kernel_rfl
    repeat (first | refine qqn rfl ?_ | ((first | (refine WK.rgn ?_ ?_; kernel_rfl) | refine AtCall.now ?_); simp (config := {maxSteps:=999999}) only [SS, qg0, qgb, qgz, qge, forall_const, tor, Go.AM.splice, one, simprocAttr, List.length_nil, aop_sn hu, asn, ff_47]) | refine qqj rfl ?_ | refine qqk rfl ?_)
    (first | refine WK.retNil ⟨Or.inr rfl, _, rfl, ?_, ?_⟩ | refine WK.skipNil ⟨Or.inl rfl, _, rfl, ?_, ?_⟩)
    · exact fun _ _ => rfl
    · simp only [packed, fset_apply, Nat.reduceEqDiff, ↓reduceIte, List.getD_cons_zero, List.getD_cons_succ, ff_47]
      exact ⟨none, rfl, by simp⟩
  · have hxn : x < n := Classical.byContradiction fun hc => by rw [hw x (by omega)] at hx; cases hx
    have k1 := Kp.new n H (.cells [] 3 true)
    have b1 := hset_at H n (.cells [] 3 true)
    have x1 := (k1.keep x hxn).trans hx
    have z1 : w.length ≤ bigN := by unfold bigN; omega
    have z2 : [x].contains n = false := by simp; omega
    generalize hE1 : hset H n (.cells [] 3 true) = H1 at *
    have k2 := k1.set (x := n) .dead (Nat.le_refl _) (by omega)
    generalize hE2 : hset H1 n .dead = H2 at *
    have k3 := Kp.new (n + 1) H2 (.cells (w.map (.int .i64)) 3 true)
    have b3 := hset_at H2 (n + 1) (.cells (w.map (.int .i64)) 3 true)
    have hu : Try.prog.underlying 26 = some (.slice 3) := by kernel_rfl
    repeat (first | refine qqn rfl ?_ | ((first | (refine WK.rgn ?_ ?_; kernel_rfl) | refine AtCall.now ?_); simp (config := {maxSteps:=999999}) only [SS, qg0, qgb, qgz, qge, forall_const, tor, Go.AM.splice, one, simprocAttr, aop_sn hu, asn, hE1, hx, x1, b1, hl, z1, z2, hE2, List.drop_zero, List.take_zero, List.nil_append, Nat.zero_add, ht, ff_47]) | refine qqj rfl ?_ | refine qqk rfl ?_)
    (first | refine WK.retNil ⟨Or.inr rfl, _, rfl, ?_, ?_⟩ | refine WK.skipNil ⟨Or.inl rfl, _, rfl, ?_, ?_⟩)
    · exact (k2.trans k3).keep
    · simp only [packed, fset_apply, Nat.reduceEqDiff, ↓reduceIte, List.getD_cons_zero, List.getD_cons_succ, ff_47]
      exact ⟨_, rfl, .inr ⟨n + 1, rfl, by omega, b3⟩⟩
def WO (n : Nat) (H : Heap) (v : Value) (w : List Int) : Prop := ∃ q, v = .slice q w.length w.length ∧ ((q = none ∧ w = []) ∨ ∃ z, q = some ⟨z, 0, none⟩ ∧ n ≤ z ∧ H z = .cells (w.map (.int .i64)) 3 true)
theorem WO.rs {n : Nat} {H : Heap} {v : Value} {w : List Int} (h : WO n H v w) : ∃ q, v = .slice q w.length w.length ∧ RS (Value.int .i64) H q w := by
  obtain ⟨q, rfl, h | ⟨z, rfl, _, hz⟩⟩ := h
  · exact ⟨q, rfl, .inl h⟩
  · exact ⟨_, rfl, .inr ⟨z, 0, _, _, _, rfl, hz, by simp, fun i y e => by rw [Nat.zero_add, List.getElem?_map, e]; rfl⟩⟩
theorem word_gives {H : Heap} {N o y x n : Nat} {pt pv pr pg pe pc : Option Addr} {g : Gram} {gd em : List Bool} {co : List Nat} {sets : List (List It)} {w : List Int} (hw : WF n H) (hwl : w.length ≤ 4000)
    (hc : CHR H N o y x pt pv pr pg pe pc g gd em co sets w) :
    Gives Try.prog 15 [.pointer (some ⟨o, 0, none⟩)] n H fun v _ H' => WO n H' v w := by
  refine Gives.of orders ok15 (Nat.le_of_ble_eq_true rfl) ?_
  obtain ⟨c, wv, cs, ho, hyN, hy, hyl, hsr, hwv⟩ := id hc
  obtain ⟨p, cw, rfl⟩ := hwv.val
  repeat (first | refine qqn rfl ?_ | ((first | (refine WK.rgn ?_ ?_; kernel_rfl) | refine AtCall.now ?_); simp (config := {maxSteps:=999999}) only [SS, qg0, qgl, qgf, forall_const, simprocAttr, ho, ch7, aop_nc, tnc, ff_15]) | refine qqj rfl ?_ | refine qqk rfl ?_)
  refine AtCall.by (clone_gives (w := w) hw (by omega) ?_) ?_
  · rcases hwv with ⟨h1, h2⟩ | ⟨c2, cx, h1, h2, h3, h4, h5⟩
    · subst h1; cases h2; exact .inl ⟨rfl, rfl, rfl⟩
    · cases h1; exact .inr ⟨x, 0, cx, _, _, rfl, h3, by omega, h5⟩
  rintro v n2 H2 hk2 hv
  simp (config := {maxSteps:=999999}) only [SS, qg0, qgl, qgf, forall_const, simprocAttr, ff_15]
  repeat (first | refine qqn rfl ?_ | ((first | (refine WK.rgn ?_ ?_; kernel_rfl) | refine AtCall.now ?_); simp (config := {maxSteps:=999999}) only [SS, qg0, qgl, qgf, forall_const, simprocAttr, ff_15]) | refine qqj rfl ?_ | refine qqk rfl ?_)
  (first | refine WK.retNil ⟨Or.inr rfl, _, rfl, ?_, ?_⟩ | refine WK.skipNil ⟨Or.inl rfl, _, rfl, ?_, ?_⟩)
  · exact hk2.keep
  · simp only [packed, fset_apply, Nat.reduceEqDiff, ↓reduceIte, List.getD_cons_zero, List.getD_cons_succ, ff_15]
    exact hv
theorem SR.take {H : Heap} {cs : List Value} {sets : List (List It)} (h : SR H cs sets) : SR H cs sets.dropLast := fun i hi => by
  have hi' : i < sets.length := by rw [List.length_dropLast] at hi; omega
  obtain ⟨pp, a, b⟩ := h i hi'
  rw [List.getElem_dropLast]
  exact ⟨pp, a, b⟩
set_option maxHeartbeats 4000000 in
theorem pop_gives {S H : Heap} {N o y x n : Nat} {pt pv pr pg pe pc : Option Addr} {g : Gram} {gd em : List Bool} {co : List Nat} {sets : List (List It)} {w : List Int} (st : Stat S N pr pg pe pc g gd em co) (hso : S o = .dead) (hw : WF n H) (hS : Sub S H) (hN : N ≤ n) (hoN : o < N)
    (hc : CHR H N o y x pt pv pr pg pe pc g gd em co sets w) (ha : sets.length ≤ 4000) (hsw : sets.length = w.length + 1) :
    GivesX Try.prog (fun z => z = o ∨ N ≤ z) 26 [.pointer (some ⟨o, 0, none⟩)] n H fun v _ H' => v = .bool (decide (w ≠ [])) ∧ RC (fun z => z = o ∨ z = y ∨ z = x) H H' ∧
      CHR H' N o y x pt pv pr pg pe pc g gd em co (if w = [] then sets else sets.dropLast) w.dropLast := by
  refine GivesX.of orders ok26 (Nat.le_of_ble_eq_true rfl) ?_
  obtain ⟨c, wv, cs, ho, hyN, hy, hyl, hsr, hwv⟩ := id hc
  have low : ∀ {z cs ty own}, H z = .cells cs ty own → z < n := fun {z cs ty own} e => Classical.byContradiction fun hc => by rw [hw z (by omega)] at e; cases e
  have hon := low ho
  have hyn := low hy
  have h00 : (((0 : Nat) : Int) = 0) = True := by simp
  rcases hwv with ⟨rfl, rfl⟩ | ⟨cw, cx, rfl, hxN, hx, hxl, hxt⟩
  · repeat (first | refine qqn rfl ?_ | ((first | (refine WK.rgn ?_ ?_; kernel_rfl) | refine AtCall.now ?_); simp (config := {maxSteps:=999999}) only [SS, qx42, forall_const, simprocAttr, ho, ch7, aop_nc, tnc, List.length_nil, h00, ff_26]) | refine qqj rfl ?_ | refine qqk rfl ?_)
    (first | refine WK.retNil ⟨Or.inr rfl, _, rfl, ?_, ?_⟩ | refine WK.skipNil ⟨Or.inl rfl, _, rfl, ?_, ?_⟩)
    · exact fun _ _ _ => rfl
    · simp only [packed, fset_apply, Nat.reduceEqDiff, ↓reduceIte, List.getD_cons_zero, List.getD_cons_succ, ff_26]
      exact ⟨by simp, .refl _ _, by simpa using hc⟩
  · by_cases h0 : w = []
    · subst h0
      repeat (first | refine qqn rfl ?_ | ((first | (refine WK.rgn ?_ ?_; kernel_rfl) | refine AtCall.now ?_); simp (config := {maxSteps:=999999}) only [SS, qx42, forall_const, simprocAttr, ho, ch7, aop_nc, tnc, List.length_nil, h00, ff_26]) | refine qqj rfl ?_ | refine qqk rfl ?_)
      (first | refine WK.retNil ⟨Or.inr rfl, _, rfl, ?_, ?_⟩ | refine WK.skipNil ⟨Or.inl rfl, _, rfl, ?_, ?_⟩)
      · exact fun _ _ _ => rfl
      · simp only [packed, fset_apply, Nat.reduceEqDiff, ↓reduceIte, List.getD_cons_zero, List.getD_cons_succ, ff_26]
        exact ⟨by simp, .refl _ _, by simpa using hc⟩
    · have hl0 : 0 < w.length := List.length_pos_iff.2 h0
      have hw0 : ((w.length : Int) = 0) = False := by simp; omega
      have hs1 : IntKind.wrap .i64 ((sets.length : Int) - 1) = ((sets.length - 1 : Nat) : Int) := by rw [wrap_in (by omega) (by omega)]; omega
      have hs2 : IntKind.wrap .i64 ((w.length : Int) - 1) = ((w.length - 1 : Nat) : Int) := by rw [wrap_in (by omega) (by omega)]; omega
      have hxo : x ≠ o := by omega
      have hxn := low hx
      have oE := hset_at H o (.cells (chC pt pv pr pg pe pc g gd em co (.slice (some ⟨y, 0, none⟩) (sets.length - 1) (sets.length - 1)) (.slice (some ⟨x, 0, none⟩) w.length cw)) 62 true)
      have kE := (Kx.refl (fun z => z = o ∨ N ≤ z) n H).set (x := o) (.cells (chC pt pv pr pg pe pc g gd em co (.slice (some ⟨y, 0, none⟩) (sets.length - 1) (sets.length - 1)) (.slice (some ⟨x, 0, none⟩) w.length cw)) 62 true) (.inl (.inl rfl)) hon
      have rE : RC (fun z => z = o ∨ z = y ∨ z = x) H _ := .setY (o := (.cells (chC pt pv pr pg pe pc g gd em co (.slice (some ⟨y, 0, none⟩) (sets.length - 1) (sets.length - 1)) (.slice (some ⟨x, 0, none⟩) w.length cw)) 62 true)) ho (.inl rfl)
      have nE := fun z (hz : z ≠ o) => hset_ne H o (.cells (chC pt pv pr pg pe pc g gd em co (.slice (some ⟨y, 0, none⟩) (sets.length - 1) (sets.length - 1)) (.slice (some ⟨x, 0, none⟩) w.length cw)) 62 true) hz
      generalize hE : hset H o (.cells (chC pt pv pr pg pe pc g gd em co (.slice (some ⟨y, 0, none⟩) (sets.length - 1) (sets.length - 1)) (.slice (some ⟨x, 0, none⟩) w.length cw)) 62 true) = HE at *
      have chl7 : ∀ v w, 7 ≤ (chC pt pv pr pg pe pc g gd em co v w).length := fun v w => by rw [chl]; omega
      have chl8 : ∀ v w, 8 ≤ (chC pt pv pr pg pe pc g gd em co v w).length := fun v w => Nat.le_of_eq chl.symm
      repeat (first | refine qqn rfl ?_)
      (refine WK.rgn ?_ ?_; kernel_rfl; simp (config := {maxSteps:=999999}) only [SS, qx42, forall_const, simprocAttr, ff_26])
      repeat (first | refine qqn rfl ?_)
      (refine WK.rgn ?_ ?_; kernel_rfl; simp (config := {maxSteps:=999999}) only [SS, qx42, forall_const, simprocAttr, ho, ch7, aop_nc, tnc, hw0, ff_26])
      repeat (first | refine qqn rfl ?_)
      first | refine qqj rfl ?_ | refine qqk rfl ?_
      repeat (first | refine qqn rfl ?_)
      have hz1 : isz Try.prog 69 = some 2 := by kernel_rfl
      have hz2 : isz Try.prog 3 = some 1 := by kernel_rfl
      have oF := hset_at HE o (.cells (chC pt pv pr pg pe pc g gd em co (.slice (some ⟨y, 0, none⟩) (sets.length - 1) (sets.length - 1)) (.slice (some ⟨x, 0, none⟩) (w.length - 1) (w.length - 1))) 62 true)
      have kF := kE.set (x := o) (.cells (chC pt pv pr pg pe pc g gd em co (.slice (some ⟨y, 0, none⟩) (sets.length - 1) (sets.length - 1)) (.slice (some ⟨x, 0, none⟩) (w.length - 1) (w.length - 1))) 62 true) (.inl (.inl rfl)) hon
      have rF := rE.trans (.setY (o := (.cells (chC pt pv pr pg pe pc g gd em co (.slice (some ⟨y, 0, none⟩) (sets.length - 1) (sets.length - 1)) (.slice (some ⟨x, 0, none⟩) (w.length - 1) (w.length - 1))) 62 true)) oE (.inl rfl))
      have nF := fun z (hz : z ≠ o) => hset_ne HE o (.cells (chC pt pv pr pg pe pc g gd em co (.slice (some ⟨y, 0, none⟩) (sets.length - 1) (sets.length - 1)) (.slice (some ⟨x, 0, none⟩) (w.length - 1) (w.length - 1))) 62 true) hz
      generalize hF : hset HE o (.cells (chC pt pv pr pg pe pc g gd em co (.slice (some ⟨y, 0, none⟩) (sets.length - 1) (sets.length - 1)) (.slice (some ⟨x, 0, none⟩) (w.length - 1) (w.length - 1))) 62 true) = HF at *
      (refine WK.rgl [(21, 26), (23, 26)] (by kernel_rfl) ?_; simp (config := {maxSteps:=999999}) only [wl, wl1_false, wl1_true, wl2_none, wl2_some, wl3_some, wl3_none, SS, forall_const, wx, tguard, acallee, top, tval, fput, tor, vsh, vbin, tload, tload2, tload3, tstore, tstore2, tstore3, Go.AM.splice, one, tfa, tfa2, tlen2, tsl, tsl2, tsl3, tsl4, tsl5, Go.AM.bound, simprocAttr, hz1, hz2, Nat.sub_le, and_self, implies_true, hF, ho, ch6, ch7, aop_nc, tnc, hs1, hs2, hy, hx, hE, oE, chl7, chl8, chs6, chs7, Nat.zero_mul, Nat.add_zero, Nat.sub_zero, Nat.zero_le, ff_26])
      refine ⟨light_cons rfl rfl (lapart_rw (by simp)) (light_cons rfl rfl (lapart_rw (by simp; omega)) light_nil), ?_⟩
      repeat (first | refine qqn rfl ?_ | ((first | (refine WK.rgn ?_ ?_; kernel_rfl) | refine AtCall.now ?_); simp (config := {maxSteps:=999999}) only [SS, qx42, forall_const, simprocAttr, ff_26]) | refine qqj rfl ?_ | refine qqk rfl ?_)
      (first | refine WK.retNil ⟨Or.inr rfl, _, rfl, ?_, ?_⟩ | refine WK.skipNil ⟨Or.inl rfl, _, rfl, ?_, ?_⟩)
      · exact kF.keep
      · simp only [packed, fset_apply, Nat.reduceEqDiff, ↓reduceIte, List.getD_cons_zero, List.getD_cons_succ, ff_26]
        have hdl : sets.dropLast.length = sets.length - 1 := List.length_dropLast
        have hdw : w.dropLast.length = w.length - 1 := List.length_dropLast
        rw [if_neg h0]
        refine ⟨by simp [h0], rF, sets.length - 1, .slice (some ⟨x, 0, none⟩) (w.length - 1) (w.length - 1), cs, ?_, hyN, (nF y (by omega)).trans ((nE y (by omega)).trans hy), by omega, fun i hi => ?_, .inr ⟨w.length - 1, cx, by rw [hdw], hxN, (nF x hxo).trans ((nE x hxo).trans hx), by omega, ?_⟩⟩
        · rw [hdl]; exact oF
        · obtain ⟨pp, a, b⟩ := hsr.take i hi
          exact ⟨pp, a, b.rk rF.1⟩
        · rw [hdw, List.dropLast_eq_take, List.map_take, ← hxt, List.take_take]
          congr 1
          omega
end Go.Proofs.Ytpdlmpbhohinpaa

namespace Go.Proofs.Ytpdlmpbhohinpaa
open Go.AM
set_option maxRecDepth 100000
def tabOK (T : ByteArray) (L : Nat → Nat) (N : Nat) : Bool := (List.range N).all fun i => match T[i]? with
  | some b => b.toNat == L i
  | none => false
theorem w3_tab {k : Fr → Nat → Heap → Prop} {f : Fr} {d : Option Nat} {n : Nat} {H : Heap} {T : ByteArray} (L : Nat → Nat) (N : Nat) (i : Nat) (hT : tabOK T L N = true) (hi : i < N) (h : w3 k f d n H (some { v := .int .u8 (L i : Nat) })) :
    w3 k f d n H (tix2 (T[i]?)) := by
  unfold tabOK at hT
  have := List.all_eq_true.1 hT i (by simpa using hi)
  split at this
  · rename_i b hb
    rw [hb]
    have e : b.toNat = L i := by simpa using this
    show w3 k f d n H (some { v := .int .u8 (b.toNat : Nat) })
    rw [e]; exact h
  · cases this
def lenN (x : Nat) : Nat := if x = 0 then 0 else x.log2 + 1
theorem lenN_small : ∀ x, x < 256 → lenN x ≤ 8 := by
  intro x h
  by_cases h0 : x = 0
  · subst h0; unfold lenN; simp
  · have := (Nat.log2_lt h0).2 (show x < 2 ^ 8 by omega)
    unfold lenN; rw [if_neg h0]; omega
theorem wrap_u8n (x : Nat) (h : x < 256) : IntKind.u8.wrap (x : Int) = (x : Int) := by rw [wrap_u8]; omega
theorem lens_gives (x : Nat) (hx : x < 256) (n : Nat) (H : Heap) : Gives Try.prog 90 [.int .u64 x] n H fun v n' H' => (∃ k : Nat, v = .int .i64 (k : Nat)) ∧ n' = n ∧ H' = H := by
  refine Gives.of orders ok90 (Nat.le_of_ble_eq_true rfl) ?_
  have min32 : min 32 IntKind.u64.bits = 32 := rfl
  have min16 : min 16 IntKind.u64.bits = 16 := rfl
  have min8 : min 8 IntKind.u64.bits = 8 := rfl
  have h0i : ((4294967296 : Int) ≤ ((x : Nat) : Int)) = False := by simp only [eq_iff_iff, iff_false]; omega
  have h1i : ((65536 : Int) ≤ ((x : Nat) : Int)) = False := by simp only [eq_iff_iff, iff_false]; omega
  have h2i : ((256 : Int) ≤ ((x : Nat) : Int)) = False := by simp only [eq_iff_iff, iff_false]; omega
  have h0 : ¬ 4294967296 ≤ x := by omega
  have h1 : ¬ 65536 ≤ x := by omega
  have h2 : ¬ 256 ≤ x := by omega
  repeat (first | refine qqn rfl ?_ | ((first | (refine WK.rgn ?_ ?_; kernel_rfl) | refine AtCall.now ?_); simp (config := {maxSteps:=999999}) only [SS, qg0, qgb, qgy, forall_const, tor, vconv, simprocAttr, min32, min16, min8, h0i, h0, h1i, h1, h2i, h2, ff_90]) | refine qqj rfl ?_ | refine qqk rfl ?_)
  have hw8 := wrap_u8n x (by omega)
  simp only [hw8, Int.toNat_natCast]
  refine w3_tab lenN 256 _ (by kernel_rfl) (by omega) ?_
  have hb := lenN_small x hx
  have hwl : IntKind.wrap .i64 ((lenN x : Nat) : Int) = ((lenN x : Nat) : Int) := by rw [wrap_in (by omega) (by omega)]
  have hww : IntKind.wrap .i64 (0 + ((lenN x : Nat) : Int)) = ((lenN x : Nat) : Int) := by rw [wrap_in (by omega) (by omega)]; omega
  have hww' : IntKind.wrap .i64 (((0 : Nat) : Int) + ((lenN x : Nat) : Int)) = ((lenN x : Nat) : Int) := by rw [wrap_in (by omega) (by omega)]; omega
  simp (config := {maxSteps:=999999}) only [SS, qg0, qgb, qgy, forall_const, tor, vconv, simprocAttr, hwl, hww, hww', ff_90]
  repeat (first | refine qqn rfl ?_ | ((first | (refine WK.rgn ?_ ?_; kernel_rfl) | refine AtCall.now ?_); simp (config := {maxSteps:=999999}) only [SS, qg0, qgb, qgy, forall_const, tor, vconv, simprocAttr, hwl, hww, hww', ff_90]) | refine qqj rfl ?_ | refine qqk rfl ?_)
  (first | refine WK.retNil ⟨Or.inr rfl, _, rfl, ?_, ?_⟩ | refine WK.skipNil ⟨Or.inl rfl, _, rfl, ?_, ?_⟩)
  · exact fun _ _ => rfl
  · simp only [packed, fset_apply, Nat.reduceEqDiff, ↓reduceIte, List.getD_cons_zero, List.getD_cons_succ, ff_90]
    exact ⟨⟨_, rfl⟩, trivial, trivial⟩
theorem blen_gives (x : Nat) (hx : x < 256) (n : Nat) (H : Heap) : Gives Try.prog 70 [.int .u64 x] n H fun v n' H' => (∃ k : Nat, v = .int .i64 (k : Nat)) ∧ n' = n ∧ H' = H := by
  refine Gives.of orders ok70 (Nat.le_of_ble_eq_true rfl) ?_
  repeat (first | refine qqn rfl ?_ | ((first | (refine WK.rgn ?_ ?_; kernel_rfl) | refine AtCall.now ?_); simp (config := {maxSteps:=999999}) only [SS, qg0, forall_const, tor, vconv, simprocAttr, ff_70]) | refine qqj rfl ?_ | refine qqk rfl ?_)
  refine AtCall.by (lens_gives x hx _ _) ?_
  rintro v n' H' hk' ⟨⟨k, rfl⟩, rfl, rfl⟩
  simp (config := {maxSteps:=999999}) only [SS, qg0, forall_const, tor, vconv, simprocAttr, ff_70]
  repeat (first | refine qqn rfl ?_ | ((first | (refine WK.rgn ?_ ?_; kernel_rfl) | refine AtCall.now ?_); simp (config := {maxSteps:=999999}) only [SS, qg0, forall_const, tor, vconv, simprocAttr, ff_70]) | refine qqj rfl ?_ | refine qqk rfl ?_)
  (first | refine WK.retNil ⟨Or.inr rfl, _, rfl, ?_, ?_⟩ | refine WK.skipNil ⟨Or.inl rfl, _, rfl, ?_, ?_⟩)
  · exact fun _ _ => rfl
  · simp only [packed, fset_apply, Nat.reduceEqDiff, ↓reduceIte, List.getD_cons_zero, List.getD_cons_succ, ff_70]
    exact ⟨⟨_, rfl⟩, trivial, trivial⟩
end Go.Proofs.Ytpdlmpbhohinpaa

namespace Go.Proofs.Ytpdlmpbhohinpaa
open Go.AM Go.RowKit
set_option maxRecDepth 100000
theorem isnan_gives (a : Int) (n : Nat) (H : Heap) : Gives Try.prog 101 [.int .i64 a] n H fun v n' H' => v = .bool false ∧ n' = n ∧ H' = H := by
  refine Gives.of orders ok101 (Nat.le_of_ble_eq_true rfl) ?_
  repeat (first | refine qqn rfl ?_ | ((first | (refine WK.rgn ?_ ?_; kernel_rfl) | refine AtCall.now ?_); simp (config := {maxSteps:=999999}) only [SS, qx21, forall_const, simprocAttr, ff_101]) | refine qqj rfl ?_ | refine qqk rfl ?_)
  (first | refine WK.retNil ⟨Or.inr rfl, _, rfl, ?_, ?_⟩ | refine WK.skipNil ⟨Or.inl rfl, _, rfl, ?_, ?_⟩)
  · exact fun _ _ => rfl
  · simp only [packed, fset_apply, Nat.reduceEqDiff, ↓reduceIte, List.getD_cons_zero, List.getD_cons_succ, ff_101]
    simp
theorem lessI_gives (a b : Int) (n : Nat) (H : Heap) : Gives Try.prog 86 [.int .i64 a, .int .i64 b] n H fun v n' H' => v = .bool (decide (a < b)) ∧ n' = n ∧ H' = H := by
  refine Gives.of orders ok86 (Nat.le_of_ble_eq_true rfl) ?_
  repeat (first | refine qqn rfl ?_ | ((first | (refine WK.rgn ?_ ?_; kernel_rfl) | refine AtCall.now ?_); simp (config := {maxSteps:=999999}) only [SS, qx2, forall_const, vun, simprocAttr]) | refine qqj rfl ?_ | refine qqk rfl ?_)
  refine AtCall.by (isnan_gives a _ _) ?_
  rintro v n' H' hk' ⟨rfl, rfl, rfl⟩
  by_cases h : a < b
  · simp (config := {maxSteps:=999999}) only [SS, qx2, forall_const, vun, simprocAttr, h]
    repeat (first | refine qqn rfl ?_ | ((first | (refine WK.rgn ?_ ?_; kernel_rfl) | refine AtCall.now ?_); simp (config := {maxSteps:=999999}) only [SS, qx2, forall_const, vun, simprocAttr, h]) | refine qqj rfl ?_ | refine qqk rfl ?_)
    (first | refine WK.retNil ⟨Or.inr rfl, _, rfl, ?_, ?_⟩ | refine WK.skipNil ⟨Or.inl rfl, _, rfl, ?_, ?_⟩)
    · exact fun _ _ => rfl
    · simp only [packed, fset_apply, Nat.reduceEqDiff, ↓reduceIte, List.getD_cons_zero, List.getD_cons_succ, h, decide_true]
      simp
  · simp (config := {maxSteps:=999999}) only [SS, qx2, forall_const, vun, simprocAttr, h]
    repeat (first | refine qqn rfl ?_ | ((first | (refine WK.rgn ?_ ?_; kernel_rfl) | refine AtCall.now ?_); simp (config := {maxSteps:=999999}) only [SS, qx2, forall_const, vun, simprocAttr, h]) | refine qqj rfl ?_ | refine qqk rfl ?_)
    (first | refine WK.retNil ⟨Or.inr rfl, _, rfl, ?_, ?_⟩ | refine WK.skipNil ⟨Or.inl rfl, _, rfl, ?_, ?_⟩)
    · exact fun _ _ => rfl
    · simp only [packed, fset_apply, Nat.reduceEqDiff, ↓reduceIte, List.getD_cons_zero, List.getD_cons_succ, h, decide_false]
      simp
def le2 (l : List Int) : Prop := l.Pairwise (· ≤ ·)
theorem swap_cells {s1 s2 rest : List Int} {z x : Int} : ((((s1 ++ [z]) ++ x :: (s2 ++ rest)).map (Value.int .i64)).set (s1.length + 1) (.int .i64 z)).set s1.length (.int .i64 x) = (s1 ++ x :: (z :: s2 ++ rest)).map (Value.int .i64) := by
  simp [List.set_append]
theorem at_x {s1 s2 : List Int} {x : Int} : ((s1 ++ x :: s2).map (Value.int .i64))[s1.length]? = some (.int .i64 x) := by simp
theorem at_z {s1 s2 : List Int} {z : Int} : (((s1 ++ [z]) ++ s2).map (Value.int .i64))[s1.length]? = some (.int .i64 z) := by simp
set_option maxHeartbeats 8000000 in
theorem inser_gives {y n : Nat} {H : Heap} {l : List Int} (hy : H y = .cells (l.map (Value.int .i64)) 3 true) (hyn : y < n) (hl : l.length ≤ 1000000) :
    GivesX Try.prog (fun z => z = y) 80 [.slice (some ⟨y, 0, none⟩) l.length l.length, .int .i64 0, .int .i64 (l.length : Nat)] n H fun _ n' H' => n' = n ∧ (∀ z, z ≠ y → H' z = H z) ∧ ∃ l', H' y = .cells (l'.map (Value.int .i64)) 3 true ∧ l'.Perm l ∧ le2 l' := by
  refine GivesX.of orders ok80 (Nat.le_of_ble_eq_true rfl) ?_
  have w01 : IntKind.wrap .i64 (0 + 1) = 1 := rfl
  repeat (first | refine qqn rfl ?_ | ((first | (refine WK.rgn ?_ ?_; kernel_rfl) | refine AtCall.now ?_); simp (config := {maxSteps:=999999}) only [SS, qx23, forall_const, simprocAttr, w01, ff_80]) | refine qqj rfl ?_ | refine qqk rfl ?_)
  refine WK.loop (fun k s => ∃ (i : Nat) (c : List Int), s.n = n ∧ (∀ z, z ≠ y → s.H z = H z) ∧ s.H y = .cells (c.map (Value.int .i64)) 3 true ∧ c.Perm l ∧ le2 (c.take i) ∧ 1 ≤ i ∧ s.f 0 = .slice (some ⟨y, 0, none⟩) l.length l.length ∧ s.f 1 = .int .i64 0 ∧ s.f 2 = .int .i64 (l.length : Nat) ∧ s.f 6 = .int .i64 (i : Nat) ∧ k = l.length - i) (l.length - 1) ?_ ?_
  · exact ⟨1, l, rfl, fun _ _ => rfl, hy, .refl _, by
      cases l with
      | nil => exact List.Pairwise.nil
      | cons a l => simp [le2], Nat.le_refl _, rfl, rfl, rfl, rfl, rfl⟩
  rintro k ⟨f, n1, H1⟩ ⟨i, c, rfl, hne, hy1, hp, hs, hi1, f0, f1, f2, f6, rfl⟩ ih
  simp only at f0 f1 f2 f6 hne hy1 ih
  have hcl : c.length = l.length := hp.length_eq
  by_cases hlt : i < l.length
  · repeat (first | refine qqn rfl ?_ | ((first | (refine WK.rgn ?_ ?_; kernel_rfl) | refine AtCall.now ?_); simp (config := {maxSteps:=999999}) only [SS, qx23, forall_const, simprocAttr, f0, f1, f2, f6, hlt, ff_80]) | refine qqj rfl ?_ | refine qqk rfl ?_)
    have hsp : c = c.take i ++ c[i] :: (([] : List Int) ++ c.drop (i + 1)) := by
      rw [List.nil_append, ← List.drop_eq_getElem_cons (by omega), List.take_append_drop]
    refine WK.loop (fun k s => ∃ (s1 s2 : List Int), s.n = n1 ∧ (∀ z, z ≠ y → s.H z = H z) ∧ s.H y = .cells ((s1 ++ c[i] :: (s2 ++ c.drop (i + 1))).map (Value.int .i64)) 3 true ∧ s1.length + s2.length = i ∧ s1 ++ s2 = c.take i ∧ (∀ z ∈ s2, c[i] < z) ∧ s.f 0 = .slice (some ⟨y, 0, none⟩) l.length l.length ∧ s.f 1 = .int .i64 0 ∧ s.f 2 = .int .i64 (l.length : Nat) ∧ s.f 6 = .int .i64 (i : Nat) ∧ s.f 7 = .int .i64 (s1.length : Nat) ∧ k = s1.length) i ?_ ?_
    · have hti : (c.take i).length = i := by rw [List.length_take]; omega
      refine ⟨c.take i, [], rfl, hne, by rw [← hsp]; exact hy1, by simp; omega, by simp, fun z hz => (by cases hz), f0, f1, f2, f6, ?_, hti.symm⟩
      rw [hti]; rfl
    clear f0 f1 f2 f6
    rintro k ⟨f, n2, H2⟩ ⟨s1, s2, rfl, hne2, hy2, hss, hst, hlt2, f0, f1, f2, f6, f7, rfl⟩ ih2
    simp only at f0 f1 f2 f6 f7 hne2 hy2 ih2
    have hperm : (s1 ++ c[i] :: (s2 ++ c.drop (i + 1))).Perm l := by
      refine .trans ?_ hp
      conv => rhs; rw [hsp, List.nil_append, ← hst]
      rw [List.append_assoc]
      exact (List.perm_middle (l₁ := s2) (l₂ := c.drop (i + 1)) (a := c[i])).symm.append_left s1
    generalize hxe : c[i] = x at *
    have htk : (s1 ++ x :: (s2 ++ c.drop (i + 1))).take (i + 1) = s1 ++ x :: s2 := by
      have : (s1 ++ x :: s2).length = i + 1 := by simp; omega
      have e : s1 ++ x :: (s2 ++ c.drop (i + 1)) = (s1 ++ x :: s2) ++ c.drop (i + 1) := by simp
      rw [e, List.take_append_of_le_length (by omega), List.take_of_length_le (by omega)]
    have hwi : IntKind.wrap .i64 ((i : Int) + 1) = ((i + 1 : Nat) : Int) := by rw [wrap_in (by omega) (by omega)]; rfl
    unfold le2 at hs
    rw [← hst, List.pairwise_append] at hs
    obtain ⟨p1, p2, p3⟩ := hs
    have hend : (∀ z ∈ s1, z ≤ x) → le2 (s1 ++ x :: s2) := fun h => by
      unfold le2
      rw [List.pairwise_append, List.pairwise_cons]
      exact ⟨p1, ⟨fun z hz => Int.le_of_lt (hlt2 z hz), p2⟩, fun a ha b hb => by
        rcases List.mem_cons.1 hb with rfl | hb
        · exact h a ha
        · exact p3 a ha b hb⟩
    rcases List.eq_nil_or_concat s1 with rfl | ⟨s1', z, hz⟩
    · have h00 : ((0 : Int) < ((0 : Nat) : Int)) = False := by simp
      repeat (first | refine qqn rfl ?_ | ((first | (refine WK.rgn ?_ ?_; kernel_rfl) | refine AtCall.now ?_); simp (config := {maxSteps:=999999}) only [SS, qx23, forall_const, simprocAttr, f0, f1, f2, f6, f7, List.length_nil, h00, hwi, ff_80]) | refine qqj rfl ?_ | refine qqk rfl ?_)
      refine ih (l.length - (i + 1)) (by omega) _ ?_
      refine ⟨i + 1, _, rfl, hne2, hy2, hperm, ?_, by omega, f0, f1, f2, rfl, rfl⟩
      rw [htk]; exact hend fun z hz => (by cases hz)
    · rw [List.concat_eq_append] at hz
      subst hz
      have hlen : (s1' ++ [z]).length = s1'.length + 1 := by simp
      rw [hlen] at f7 ih2 hss
      have h01 : ((0 : Int) < ((s1'.length + 1 : Nat) : Int)) = True := eq_true (by omega)
      have hw1 : IntKind.wrap .i64 (((s1'.length + 1 : Nat) : Int) - 1) = (s1'.length : Int) := by rw [wrap_in (by omega) (by omega)]; omega
      have a1 := at_x (s1 := s1' ++ [z]) (s2 := s2 ++ c.drop (i + 1)) (x := x)
      rw [hlen] at a1
      have a2 := at_z (s1 := s1') (s2 := x :: (s2 ++ c.drop (i + 1))) (z := z)
      have b1 : s1'.length + 1 < l.length := by omega
      have b2 : s1'.length < l.length := by omega
      have hsw := swap_cells (s1 := s1') (s2 := s2) (rest := c.drop (i + 1)) (z := z) (x := x)
      repeat (first | refine qqn rfl ?_ | ((first | (refine WK.rgn ?_ ?_; kernel_rfl) | refine AtCall.now ?_); simp (config := {maxSteps:=999999}) only [SS, qx23, forall_const, simprocAttr, f0, f1, f2, f6, f7, h01, hw1, hy2, a1, a2, b1, b2, Nat.zero_add, ff_80]) | refine qqj rfl ?_ | refine qqk rfl ?_)
      refine AtCall.by (lessI_gives _ _ _ _) ?_
      rintro v n3 H3 hk3 ⟨rfl, rfl, rfl⟩
      by_cases hxz : x < z
      · have hLC : s1'.length + 1 + 1 ≤ (((s1' ++ [z]) ++ x :: (s2 ++ c.drop (i + 1))).map (Value.int .i64)).length := by simp; omega
        have hLC2 : s1'.length + 1 ≤ ((((s1' ++ [z]) ++ x :: (s2 ++ c.drop (i + 1))).map (Value.int .i64)).set (s1'.length + 1) (.int .i64 z)).length := by simp <;> omega
        have hE1 := hset_at H3 y (.cells ((((s1' ++ [z]) ++ x :: (s2 ++ c.drop (i + 1))).map (Value.int .i64)).set (s1'.length + 1) (.int .i64 z)) 3 true)
        simp (config := {maxSteps:=999999}) only [SS, qx23, forall_const, simprocAttr, hxz, ff_80]
        repeat (first | refine qqn rfl ?_ | ((first | (refine WK.rgn ?_ ?_; kernel_rfl) | refine AtCall.now ?_); simp (config := {maxSteps:=999999}) only [SS, qx23, forall_const, simprocAttr, f0, f1, f2, f6, f7, hw1, hy2, a1, a2, b1, b2, Nat.zero_add, hLC, hLC2, hE1, hsw, ff_80]) | refine qqj rfl ?_ | refine qqk rfl ?_)
        refine ih2 s1'.length (by omega) _ ?_
        refine ⟨s1', z :: s2, rfl, fun q hq => (hset_ne _ _ _ hq).trans (hne2 q hq), hset_at _ _ _, by simp; omega, ?_, fun q hq => ?_, f0, f1, f2, f6, rfl, rfl⟩
        · rw [← hst]; simp
        · rcases List.mem_cons.1 hq with rfl | hq
          · exact hxz
          · exact hlt2 q hq
      · simp (config := {maxSteps:=999999}) only [SS, qx23, forall_const, simprocAttr, hxz, ff_80]
        repeat (first | refine qqn rfl ?_ | ((first | (refine WK.rgn ?_ ?_; kernel_rfl) | refine AtCall.now ?_); simp (config := {maxSteps:=999999}) only [SS, qx23, forall_const, simprocAttr, f0, f1, f2, f6, f7, hwi, ff_80]) | refine qqj rfl ?_ | refine qqk rfl ?_)
        refine ih (l.length - (i + 1)) (by omega) _ ?_
        refine ⟨i + 1, _, rfl, hne2, hy2, hperm, ?_, by omega, f0, f1, f2, rfl, rfl⟩
        rw [htk]
        refine hend fun a ha => ?_
        rcases List.mem_append.1 ha with h | h
        · exact Int.le_trans ((List.pairwise_append.1 p1).2.2 a h z (by simp)) (by omega)
        · simp at h; omega
  · have hie : l.length ≤ i := by omega
    repeat (first | refine qqn rfl ?_ | ((first | (refine WK.rgn ?_ ?_; kernel_rfl) | refine AtCall.now ?_); simp (config := {maxSteps:=999999}) only [SS, qx23, forall_const, simprocAttr, f0, f1, f2, f6, hlt, ff_80]) | refine qqj rfl ?_ | refine qqk rfl ?_)
    (first | refine WK.retNil ⟨Or.inr rfl, _, rfl, ?_, ?_⟩ | refine WK.skipNil ⟨Or.inl rfl, _, rfl, ?_, ?_⟩)
    · exact fun z _ hz => hne z hz
    · simp only [packed, fset_apply, Nat.reduceEqDiff, ↓reduceIte, List.getD_cons_zero, List.getD_cons_succ, ff_80]
      refine ⟨trivial, hne, c, hy1, hp, ?_⟩
      rw [List.take_of_length_le (by omega)] at hs
      exact hs
set_option maxHeartbeats 4000000 in
theorem sort_gives {y n : Nat} {H : Heap} {l : List Int} (hy : H y = .cells (l.map (Value.int .i64)) 3 true) (hyn : y < n) (hl : l.length ≤ 12) :
    GivesX Try.prog (fun z => z = y) 51 [.slice (some ⟨y, 0, none⟩) l.length l.length] n H fun _ n' H' => n' = n ∧ (∀ z, z ≠ y → H' z = H z) ∧ ∃ l', H' y = .cells (l'.map (Value.int .i64)) 3 true ∧ l'.Perm l ∧ le2 l' := by
  refine GivesX.of orders ok51 (Nat.le_of_ble_eq_true rfl) ?_
  have hcv : IntKind.wrap .u64 (l.length : Int) = ((l.length : Nat) : Int) := by rw [wrap_u64n, Nat.mod_eq_of_lt (by omega)]
  repeat (first | refine qqn rfl ?_ | ((first | (refine WK.rgn ?_ ?_; kernel_rfl) | refine AtCall.now ?_); simp (config := {maxSteps:=999999}) only [SS, qx44, forall_const, vconv, simprocAttr, hcv, ff_51]) | refine qqj rfl ?_ | refine qqk rfl ?_)
  refine AtCall.by (blen_gives l.length (by omega) _ _) ?_
  rintro v n1 H1 hk1 ⟨⟨k, rfl⟩, rfl, rfl⟩
  simp (config := {maxSteps:=999999}) only [SS, qx44, forall_const, vconv, simprocAttr, ff_51]
  refine AtCall.byX (Q := fun _ n' H' => n' = n1 ∧ (∀ z, z ≠ y → H' z = H1 z) ∧ ∃ l', H' y = .cells (l'.map (Value.int .i64)) 3 true ∧ l'.Perm l ∧ le2 l') (X := fun z => z = y) ?_ ?_
  · refine GivesX.of orders ok69 (Nat.le_of_ble_eq_true rfl) ?_
    have hs0 : IntKind.wrap .i64 ((l.length : Int) - 0) = (l.length : Int) := by rw [wrap_in (by omega) (by omega)]; omega
    have h12 : ((l.length : Int) ≤ 12) = True := eq_true (by omega)
    repeat (first | refine qqn rfl ?_ | ((first | (refine WK.rgn ?_ ?_; kernel_rfl) | refine AtCall.now ?_); simp (config := {maxSteps:=999999}) only [SS, qx35, forall_const, vun, simprocAttr, ff_69]) | refine qqj rfl ?_ | refine qqk rfl ?_)
    refine WK.unloop ?_
    repeat (first | refine qqn rfl ?_ | ((first | (refine WK.rgn ?_ ?_; kernel_rfl) | refine AtCall.now ?_); simp (config := {maxSteps:=999999}) only [SS, qx35, forall_const, vun, simprocAttr, hs0, h12, ff_69]) | refine qqj rfl ?_ | refine qqk rfl ?_)
    refine AtCall.byX (inser_gives hy hyn (by omega)) ?_
    rintro v n2 H2 kx2 ⟨rfl, hne, hl'⟩
    simp (config := {maxSteps:=999999}) only [SS, qx35, forall_const, vun, simprocAttr, ff_69]
    repeat (first | refine qqn rfl ?_ | ((first | (refine WK.rgn ?_ ?_; kernel_rfl) | refine AtCall.now ?_); simp (config := {maxSteps:=999999}) only [SS, qx35, forall_const, vun, simprocAttr, ff_69]) | refine qqj rfl ?_ | refine qqk rfl ?_)
    (first | refine WK.retNil ⟨Or.inr rfl, _, rfl, ?_, ?_⟩ | refine WK.skipNil ⟨Or.inl rfl, _, rfl, ?_, ?_⟩)
    · exact kx2.keep
    · simp only [packed, fset_apply, Nat.reduceEqDiff, ↓reduceIte, List.getD_cons_zero, List.getD_cons_succ, ff_69]
      exact ⟨trivial, hne, hl'⟩
  rintro v n2 H2 kx2 ⟨rfl, hne, hl'⟩
  simp (config := {maxSteps:=999999}) only [SS, qx35, forall_const, vun, simprocAttr, ff_69]
  repeat (first | refine qqn rfl ?_ | ((first | (refine WK.rgn ?_ ?_; kernel_rfl) | refine AtCall.now ?_); simp (config := {maxSteps:=999999}) only [SS, qx35, forall_const, vun, simprocAttr, ff_69]) | refine qqj rfl ?_ | refine qqk rfl ?_)
  (first | refine WK.retNil ⟨Or.inr rfl, _, rfl, ?_, ?_⟩ | refine WK.skipNil ⟨Or.inl rfl, _, rfl, ?_, ?_⟩)
  · exact kx2.keep
  · simp only [packed, fset_apply, Nat.reduceEqDiff, ↓reduceIte, List.getD_cons_zero, List.getD_cons_succ, ff_69]
    exact ⟨trivial, hne, hl'⟩
theorem sort0_gives (n : Nat) (H : Heap) : Gives Try.prog 51 [.slice none 0 0] n H fun _ n' H' => n' = n ∧ H' = H := by
  refine Gives.of orders ok51 (Nat.le_of_ble_eq_true rfl) ?_
  have hcv : IntKind.wrap .u64 ((0 : Nat) : Int) = ((0 : Nat) : Int) := by rw [wrap_u64n]
  repeat (first | refine qqn rfl ?_ | ((first | (refine WK.rgn ?_ ?_; kernel_rfl) | refine AtCall.now ?_); simp (config := {maxSteps:=999999}) only [SS, qx44, forall_const, vconv, simprocAttr, hcv, ff_51]) | refine qqj rfl ?_ | refine qqk rfl ?_)
  refine AtCall.by (blen_gives 0 (by omega) _ _) ?_
  rintro v n1 H1 hk1 ⟨⟨k, rfl⟩, rfl, rfl⟩
  simp (config := {maxSteps:=999999}) only [SS, qx44, forall_const, vconv, simprocAttr, ff_51]
  refine AtCall.by (Q := fun _ n' H' => n' = n1 ∧ H' = H1) ?_ ?_
  · refine Gives.of orders ok69 (Nat.le_of_ble_eq_true rfl) ?_
    have hs0 : IntKind.wrap .i64 (((0 : Nat) : Int) - 0) = 0 := rfl
    have hs0' : IntKind.wrap .i64 ((0 : Int) - 0) = 0 := rfl
    repeat (first | refine qqn rfl ?_ | ((first | (refine WK.rgn ?_ ?_; kernel_rfl) | refine AtCall.now ?_); simp (config := {maxSteps:=999999}) only [SS, qx35, forall_const, vun, simprocAttr, ff_69]) | refine qqj rfl ?_ | refine qqk rfl ?_)
    refine WK.unloop ?_
    repeat (first | refine qqn rfl ?_ | ((first | (refine WK.rgn ?_ ?_; kernel_rfl) | refine AtCall.now ?_); simp (config := {maxSteps:=999999}) only [SS, qx35, forall_const, vun, simprocAttr, hs0, hs0', ff_69]) | refine qqj rfl ?_ | refine qqk rfl ?_)
    refine AtCall.by (Q := fun _ n' H' => n' = n1 ∧ H' = H1) ?_ ?_
    · refine Gives.of orders ok80 (Nat.le_of_ble_eq_true rfl) ?_
      have w01 : IntKind.wrap .i64 (0 + 1) = 1 := rfl
      have h10 : ((1 : Int) < ((0 : Nat) : Int)) = False := by simp
      repeat (first | refine qqn rfl ?_ | ((first | (refine WK.rgn ?_ ?_; kernel_rfl) | refine AtCall.now ?_); simp (config := {maxSteps:=999999}) only [SS, qx23, forall_const, simprocAttr, w01, ff_80]) | refine qqj rfl ?_ | refine qqk rfl ?_)
      refine WK.unloop ?_
      repeat (first | refine qqn rfl ?_ | ((first | (refine WK.rgn ?_ ?_; kernel_rfl) | refine AtCall.now ?_); simp (config := {maxSteps:=999999}) only [SS, qx23, forall_const, simprocAttr, h10, ff_80]) | refine qqj rfl ?_ | refine qqk rfl ?_)
      (first | refine WK.retNil ⟨Or.inr rfl, _, rfl, ?_, ?_⟩ | refine WK.skipNil ⟨Or.inl rfl, _, rfl, ?_, ?_⟩)
      · exact fun _ _ => rfl
      · simp only [packed, fset_apply, Nat.reduceEqDiff, ↓reduceIte, List.getD_cons_zero, List.getD_cons_succ, ff_80]
        exact ⟨trivial, trivial⟩
    rintro v n2 H2 kx2 ⟨rfl, rfl⟩
    simp (config := {maxSteps:=999999}) only [SS, qx23, forall_const, simprocAttr, ff_80]
    repeat (first | refine qqn rfl ?_ | ((first | (refine WK.rgn ?_ ?_; kernel_rfl) | refine AtCall.now ?_); simp (config := {maxSteps:=999999}) only [SS, qx23, forall_const, simprocAttr, ff_80]) | refine qqj rfl ?_ | refine qqk rfl ?_)
    (first | refine WK.retNil ⟨Or.inr rfl, _, rfl, ?_, ?_⟩ | refine WK.skipNil ⟨Or.inl rfl, _, rfl, ?_, ?_⟩)
    · exact fun _ _ => rfl
    · simp only [packed, fset_apply, Nat.reduceEqDiff, ↓reduceIte, List.getD_cons_zero, List.getD_cons_succ, ff_80]
      exact ⟨trivial, trivial⟩
  rintro v n2 H2 kx2 ⟨rfl, rfl⟩
  simp (config := {maxSteps:=999999}) only [SS, qx23, forall_const, simprocAttr, ff_80]
  repeat (first | refine qqn rfl ?_ | ((first | (refine WK.rgn ?_ ?_; kernel_rfl) | refine AtCall.now ?_); simp (config := {maxSteps:=999999}) only [SS, qx23, forall_const, simprocAttr, ff_80]) | refine qqj rfl ?_ | refine qqk rfl ?_)
  (first | refine WK.retNil ⟨Or.inr rfl, _, rfl, ?_, ?_⟩ | refine WK.skipNil ⟨Or.inl rfl, _, rfl, ?_, ?_⟩)
  · exact fun _ _ => rfl
  · simp only [packed, fset_apply, Nat.reduceEqDiff, ↓reduceIte, List.getD_cons_zero, List.getD_cons_succ, ff_80]
    exact ⟨trivial, trivial⟩
theorem sorted_eq : ∀ {a b : List Int}, a.Perm b → le2 a → le2 b → a = b := by
  intro a
  induction a with
  | nil => intro b h _ _; exact (List.nil_perm.1 h).symm
  | cons x a ih =>
    intro b h ha hb
    cases b with
    | nil => exact absurd h.symm (by simp)
    | cons y b =>
      have hx := List.pairwise_cons.1 ha
      have hy := List.pairwise_cons.1 hb
      have h1 : y ≤ x := by
        rcases List.mem_cons.1 (h.mem_iff.1 (List.mem_cons_self)) with e | e
        · omega
        · exact hy.1 _ e
      have h2 : x ≤ y := by
        rcases List.mem_cons.1 (h.mem_iff.2 (List.mem_cons_self)) with e | e
        · omega
        · exact hx.1 _ e
      have : x = y := by omega
      subst this
      rw [ih (List.perm_cons _ |>.1 h) hx.2 hy.2]
end Go.Proofs.Ytpdlmpbhohinpaa
