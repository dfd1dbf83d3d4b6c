/- A part of a proof. Its conditions: none. -/
import Derived.Test.YtemkglelfeidhaaAmJFoDerivs
set_option linter.all false
namespace Go.Proofs.Ytemkglelfeidhaa
open Go.AM Go.AM.Fo Go.RowKit
set_option maxRecDepth 100000
theorem WK.cutBlock {P : Program} {id : Nat} {c : Code} {K : List Fk} {s : St} {Q : AExit → St → Prop} (R : St → Prop) (h1 : WK P c [.block id] s fun e s1 => e = .normal ∧ R s1) (h2 : ∀ s1, R s1 → WK P .skip K s1 Q) : WK P c (.block id :: K) s Q :=
  ⟨(WK.cut (c := .block id c) R (WK.block h1) h2).run⟩
def DrQ (g : Gram) (w : List Int) (r : Value) : Prop := ∃ (out : List (List Int)) (z : Nat) (all : Bool), r = .tuple #[.slice (some ⟨z, 0, none⟩) out.length out.length, .bool all] ∧ out.length ≤ 2 ∧ out.Nodup ∧ (∀ d ∈ out, Dv g [0] d w) ∧ (all = true → out.length = 2 ∨ ∀ d, Dv g [0] d w → d ∈ out)
set_option maxHeartbeats 32000000 in
theorem derivs_gives {v : Value} {g : Gram} {pa : Option Addr} {w : List Int} {n : Nat} {H : Heap} (hw : WF n H) (hg : RG H v g) (wg : WG g) (ok : RightOK g) (hfew : few g = true) (hq : RF H pa w) (hwl : w.length ≤ 6) :
    Gives Try.prog 10 [v, .slice pa w.length w.length, .int .i64 40, .int .i64 400] n H fun r _ _ => DrQ g w r := by
  have hg0 := hg
  obtain ⟨_, _, _, _, _, cl, bl, _, _, _, _, _, hc, _⟩ := cost_gives hw hg wg ok
  obtain ⟨c, hcc⟩ : ∃ c, cF cl = c := ⟨_, rfl⟩
  obtain ⟨b, hbb⟩ : ∃ b, bF bl = b := ⟨_, rfl⟩
  rw [hcc, hbb] at hc
  obtain ⟨pt, pv, pr, rfl, ht, hv, hr⟩ := hg
  have ig := ok_inG ok
  have sg := ok_sgm ok hfew
  have hrl := sg.rules
  refine Gives.of orders ok10 (Nat.le_of_ble_eq_true rfl) ?_
  have hk := Kp.new n H (.cells (gcells pt pv pr g) 25 true)
  have hk0 := hk
  have hb := hset_at H n (.cells (gcells pt pv pr g) 25 true)
  have hsym : ∀ r ∈ g.rules, ∀ s ∈ r.right, inI s ∧ s < g.vars.length := fun r hr s hs => by
    have h1 := sg.sym hr hs
    have h2 := ig.right r hr s hs
    unfold inI
    omega
  have hfar : farN = 1073741824 := rfl
  have hne0 : 0 < g.rules.length := by
    have h1 := ok.count 0 (by have := ok.vars1; omega)
    apply Classical.byContradiction
    intro h
    have : g.rules = [] := List.length_eq_zero_iff.1 (by omega)
    rw [this] at h1
    exact h1 rfl
  have hnI : (0 : Int) < (g.rules.length : Int) := by omega
  repeat (first | refine qqn rfl ?_)
  (refine WK.rgn ?_ ?_; kernel_rfl; simp (config := {maxSteps:=999999}) only [SS, qx5, forall_const, vun, simprocAttr, box_cells, box_one, ff_10])
  have hw1 := hk.wf hw
  have hg1 := hg0.mono hw hk
  have hq1 := hq.mono hw hk
  generalize hset H n (.cells (gcells pt pv pr g) 25 true) = H1 at *
  have kA := Kp.new (n + 1) H1 (.cells [] 3 true)
  have bA := hset_at H1 (n + 1) (.cells [] 3 true)
  have wA := kA.wf hw1
  generalize hA : hset H1 (n + 1) (.cells [] 3 true) = HA at *
  have kB := Kp.new (n + 1 + 1) HA (.cells [.slice (some ⟨n + 1, 0, none⟩) 0 0] 26 true)
  have bB := hset_at HA (n + 1 + 1) (.cells [.slice (some ⟨n + 1, 0, none⟩) 0 0] 26 true)
  have aB := (kB.keep (n + 1) (by omega)).trans bA
  have wB := kB.wf wA
  generalize hB : hset HA (n + 1 + 1) (.cells [.slice (some ⟨n + 1, 0, none⟩) 0 0] 26 true) = HB at *
  have kC := Kp.new (n + 1 + 1 + 1) HB (.cells [] 26 true)
  have bC := hset_at HB (n + 1 + 1 + 1) (.cells [] 26 true)
  have aC := (kC.keep (n + 1) (by omega)).trans aB
  have tC := (kC.keep (n + 1 + 1) (by omega)).trans bB
  have kABC := (kA.trans kB).trans kC
  generalize hC : hset HB (n + 1 + 1 + 1) (.cells [] 26 true) = HC at *
  have v1 : vcells (Value.slice (some ⟨n + 1, 0, none⟩) 0 0) = [Value.slice (some ⟨n + 1, 0, none⟩) 0 0] := rfl
  have v3 : ([Value.slice (some ⟨n + 1, 0, none⟩) 0 0] : List Value).all one = true := rfl
  have v4 : Go.AM.splice [Value.slice none 0 0] 0 [Value.slice (some ⟨n + 1, 0, none⟩) 0 0] = [Value.slice (some ⟨n + 1, 0, none⟩) 0 0] := rfl
  repeat (first | refine qqn rfl ?_ | ((first | (refine WK.rgn ?_ ?_; kernel_rfl) | refine AtCall.now ?_); simp (config := {maxSteps:=999999}) only [SS, qx5, forall_const, vun, simprocAttr, hA, hB, v1, v3, v4, hC, ff_10]) | refine qqj rfl ?_ | refine qqk rfl ?_)
  have lt0 : LT HC [.slice (some ⟨n + 1, 0, none⟩) 0 0] [[]] := ⟨rfl, fun i l hi => by
    cases i with
    | zero => simp at hi; subst hi; exact ⟨_, rfl, n + 1, 0, _, _, rfl, aC, Nat.le_refl _, fun i y e => by cases e⟩
    | succ i => simp at hi⟩
  refine WK.loop (fun k s => ∃ (at_ zT zO : Nat) (T out : List (List Int)) (cT cO : List Value), Kp (n + 1) H1 s.n s.H ∧ s.f 1 = .slice pa w.length w.length ∧ s.f 2 = .int .i64 40 ∧ s.f 3 = .int .i64 400 ∧ s.f 4 = .pointer (some ⟨n, 0, none⟩) ∧ s.f 10 = .slice (some ⟨zT, 0, none⟩) T.length T.length ∧ s.f 11 = .slice (some ⟨zO, 0, none⟩) out.length out.length ∧ s.f 12 = .int .i64 (at_ : Nat) ∧
    s.H zT = .cells cT 26 true ∧ s.H zO = .cells cO 26 true ∧ zT ≠ zO ∧ n + 1 ≤ zT ∧ n + 1 ≤ zO ∧ LT s.H cT T ∧ LT s.H cO out ∧ (∀ F ∈ T, F.length ≤ 41) ∧ at_ ≤ T.length ∧ T.length ≤ 424 ∧ out.length ≤ 2 ∧ Sr g w at_ 0 T out ∧ CpO g w at_ T out ∧ k = 500 - at_) 500 ?_ ?_
  · exact ⟨0, n + 1 + 1, n + 1 + 1 + 1, [[]], [], _, _, kABC, rfl, rfl, rfl, rfl, rfl, rfl, rfl, tC, bC, by omega, by omega, by omega, lt0, ⟨rfl, fun i l h => by cases h⟩, fun F hF => by simp at hF; subst hF; simp, by simp, by simp, by simp, Sr.start, CpO.start, rfl⟩
  clear kABC aC tC bC lt0
  rintro kq ⟨f, n2, H2⟩ ⟨at_, zT, zO, T, out, cT, cO, kp, f1, f2, f3, f4, f10, f11, f12, hzT, hzO, hne, hT1, hO1, ltT, ltO, sm, hat, hTl, hol, sr, cp, rfl⟩ ih
  simp only at f1 f2 f3 f4 f10 f11 f12 kp hzT hzO ltT ltO ih
  have hw2 := kp.wf hw1
  have hTn : zT < n2 := Classical.byContradiction fun hc => by rw [hw2 zT (by omega)] at hzT; cases hzT
  have hOn : zO < n2 := Classical.byContradiction fun hc => by rw [hw2 zO (by omega)] at hzO; cases hzO
  have hb2 := (kp.keep n (by omega)).trans hb
  have hg2 := hg1.mono hw1 kp
  have keep2 : ∀ x, x < n → H2 x = H x := fun x hx => (kp.keep x (by omega)).trans (hk.keep x hx)
  by_cases hlt : at_ < T.length
  case neg =>
    have hae : at_ = T.length := by omega
    subst hae
    repeat (first | refine qqn rfl ?_ | ((first | (refine WK.rgn ?_ ?_; kernel_rfl) | refine AtCall.now ?_); simp (config := {maxSteps:=999999}) only [SS, qx5, forall_const, vun, simprocAttr, f1, f2, f3, f4, f10, f11, f12, hlt, ff_10]) | refine qqj rfl ?_ | refine qqk rfl ?_)
    (first | refine WK.retNil ⟨Or.inr rfl, _, rfl, ?_, ?_⟩ | refine WK.skipNil ⟨Or.inl rfl, _, rfl, ?_, ?_⟩)
    · exact keep2
    · simp only [packed, fset_apply, Nat.reduceEqDiff, ↓reduceIte, List.getD_cons_zero, List.getD_cons_succ, f11, ff_10]
      exact ⟨out, zO, true, rfl, hol, sr.ond, fun d hd => (sr.outs d hd).1, fun _ => .inr fun d hd => cp.all hd⟩
  by_cases ho2 : out.length < 2
  case neg =>
    have ho2' : ¬ ((out.length : Int) < 2) := by omega
    repeat (first | refine qqn rfl ?_ | ((first | (refine WK.rgn ?_ ?_; kernel_rfl) | refine AtCall.now ?_); simp (config := {maxSteps:=999999}) only [SS, qx5, forall_const, vun, simprocAttr, f1, f2, f3, f4, f10, f11, f12, hlt, ho2', ff_10]) | refine qqj rfl ?_ | refine qqk rfl ?_)
    (first | refine WK.retNil ⟨Or.inr rfl, _, rfl, ?_, ?_⟩ | refine WK.skipNil ⟨Or.inl rfl, _, rfl, ?_, ?_⟩)
    · exact keep2
    · simp only [packed, fset_apply, Nat.reduceEqDiff, ↓reduceIte, List.getD_cons_zero, List.getD_cons_succ, f11, ff_10]
      exact ⟨out, zO, true, rfl, hol, sr.ond, fun d hd => (sr.outs d hd).1, fun _ => .inl (by omega)⟩
  have ho2' : (out.length : Int) < 2 := by omega
  have stop : DrQ g w (.tuple #[.slice (some ⟨zO, 0, none⟩) out.length out.length, .bool false]) := ⟨out, zO, false, rfl, hol, sr.ond, fun d hd => (sr.outs d hd).1, fun h => by cases h⟩
  by_cases h400 : (400 : Int) < T.length
  · repeat (first | refine qqn rfl ?_ | ((first | (refine WK.rgn ?_ ?_; kernel_rfl) | refine AtCall.now ?_); simp (config := {maxSteps:=999999}) only [SS, qx5, forall_const, vun, simprocAttr, f1, f2, f3, f4, f10, f11, f12, hlt, ho2', h400, ff_10]) | refine qqj rfl ?_ | refine qqk rfl ?_)
    (first | refine WK.retNil ⟨Or.inr rfl, _, rfl, ?_, ?_⟩ | refine WK.skipNil ⟨Or.inl rfl, _, rfl, ?_, ?_⟩)
    · exact keep2
    · simp only [packed, fset_apply, Nat.reduceEqDiff, ↓reduceIte, List.getD_cons_zero, List.getD_cons_succ, f11, ff_10]
      exact stop
  obtain ⟨p, c1, c2⟩ := ltT.2 at_ _ (List.getElem?_eq_getElem hlt)
  have hT := List.getElem?_eq_getElem hlt
  have hFl := sm _ (List.getElem_mem hlt)
  have hFv := sr.val _ (List.getElem_mem hlt)
  generalize T[at_] = t at *
  by_cases h40 : (40 : Int) < t.length
  · repeat (first | refine qqn rfl ?_ | ((first | (refine WK.rgn ?_ ?_; kernel_rfl) | refine AtCall.now ?_); simp (config := {maxSteps:=999999}) only [SS, qx5, forall_const, vun, simprocAttr, f1, f2, f3, f4, f10, f11, f12, hlt, ho2', h400, hzT, c1, Nat.zero_add, h40, ff_10]) | refine qqj rfl ?_ | refine qqk rfl ?_)
    (first | refine WK.retNil ⟨Or.inr rfl, _, rfl, ?_, ?_⟩ | refine WK.skipNil ⟨Or.inl rfl, _, rfl, ?_, ?_⟩)
    · exact keep2
    · simp only [packed, fset_apply, Nat.reduceEqDiff, ↓reduceIte, List.getD_cons_zero, List.getD_cons_succ, f11, ff_10]
      exact stop
  have haw : IntKind.i64.wrap ((at_ : Int) + 1) = ((at_ + 1 : Nat) : Int) := by rw [wrap_in (by omega) (by omega)]; rfl
  obtain ⟨F, q, hF⟩ := hFv
  have hFs := replay_sym (Q := fun s => inI s ∧ s < g.vars.length) hsym t [0] 0 F q (fun s hs => by simp at hs; subst hs; have := ok.vars1; unfold inI; omega) hF
  have hFlen := (replayL_ge ok [0] t (by simp)).2
  have eL : replayL g [0] t = (F, q, 0) := by unfold replayL; rw [if_neg (by omega)]; exact hF
  rw [eL] at hFlen
  simp only [List.length_singleton] at hFlen
  have kZ := Kp.new n2 H2 (.cells [.int .i64 0] 3 true)
  have hqZ : RS (Value.int .i64) (hset H2 n2 (.cells [.int .i64 0] 3 true)) (some ⟨n2, 0, none⟩) [0] := rs_new (hset_at _ _ _)
  have z1 : vcells (Value.int .i64 0) = [Value.int .i64 0] := rfl
  have z3 : ([Value.int .i64 0] : List Value).all one = true := rfl
  have z4 : Go.AM.splice [Value.int IntKind.i64 (Int.ofNat 0)] 0 [Value.int .i64 0] = [Value.int .i64 0] := rfl
  generalize hZ : hset H2 n2 (.cells [.int .i64 0] 3 true) = HZ at *
  have hwZ := kZ.wf hw2
  have hzTZ := (kZ.keep zT hTn).trans hzT
  have hrp := replay7_gives (form := [0]) (rules := t) hwZ (hg2.mono hw2 kZ) wg ok hqZ (c2.rs.ra.mono hw2 kZ) (by simp; omega)
  rw [eL] at hrp
  repeat (first | refine qqn rfl ?_ | ((first | (refine WK.rgn ?_ ?_; kernel_rfl) | refine AtCall.now ?_); simp (config := {maxSteps:=999999}) only [SS, qx5, forall_const, vun, simprocAttr, f1, f2, f3, f4, f10, f11, f12, hlt, ho2', h400, hb2, gc_len, gc_all, hzT, hzTZ, c1, Nat.zero_add, h40, hZ, z1, z3, z4, ff_10]) | refine qqj rfl ?_ | refine qqk rfl ?_)
  refine AtCall.by hrp ?_
  rintro v n3 H3 k3' ⟨pF, rfl, hpF⟩
  have k3 := kZ.trans k3'
  have kp3 := kp.trans k3
  have hw3 := k3.wf hw2
  have hzT3 := (k3.keep zT hTn).trans hzT
  have hzO3 := (k3.keep zO hOn).trans hzO
  have ltT3 := ltT.kp hw2 k3
  have ltO3 := ltO.kp hw2 k3
  have c3 := (ltT3.2 at_ t hT)
  have hn3 := k3.le
  have hb3 := (k3.keep n (by have := kp.le; omega)).trans hb2
  simp (config := {maxSteps:=999999}) only [SS, qx5, forall_const, vun, simprocAttr, ff_10]
  repeat (first | refine qqn rfl ?_ | ((first | (refine WK.rgn ?_ ?_; kernel_rfl) | refine AtCall.now ?_); simp (config := {maxSteps:=999999}) only [SS, qx5, forall_const, vun, simprocAttr, ff_10]) | refine qqj rfl ?_ | refine qqk rfl ?_)
  refine AtCall.by (lead7_gives hw3 hpF.ra (by omega) fun s hs => (hFs s hs).1) ?_
  rintro v n4 H4 k4 hlead
  obtain ⟨zl, rfl, hzl0, hzl⟩ := hlead
  have kp4 := kp3.trans k4
  have hw4 := k4.wf hw3
  have hn4 := k4.le
  have hb4 := (k4.keep n (by have := kp.le; omega)).trans hb3
  have hg4 := hg1.mono hw1 kp4
  have hpF4 := hpF.mono hw3 k4
  simp (config := {maxSteps:=999999}) only [SS, qx5, forall_const, vun, simprocAttr, ff_10]
  repeat (first | refine qqn rfl ?_ | ((first | (refine WK.rgn ?_ ?_; kernel_rfl) | refine AtCall.now ?_); simp (config := {maxSteps:=999999}) only [SS, qx5, forall_const, vun, simprocAttr, f1, f2, f3, f4, hb4, gc_len, gc_all, ff_10]) | refine qqj rfl ?_ | refine qqk rfl ?_)
  refine AtCall.by (long_gives hw4 hg4 wg ok hc hpF4.ra (by omega) fun s hs => (hFs s hs).2) ?_
  rintro v n5 H5 k5 rfl
  have kp5 := kp4.trans k5
  have k35 := k4.trans k5
  have hw5 := k5.wf hw4
  have hn5 := k5.le
  have hb5 := (k5.keep n (by have := kp.le; omega)).trans hb4
  have hzT5 := (k35.keep zT (by omega)).trans hzT3
  have hzO5 := (k35.keep zO (by omega)).trans hzO3
  have ltT5 := ltT3.kp hw3 k35
  have ltO5 := ltO3.kp hw3 k35
  have hpF5 := hpF.mono hw3 k35
  have hq5 := hq1.mono hw1 kp5
  have hzln : zl < n4 := Classical.byContradiction fun hc => by rw [hw4 zl (by omega)] at hzl; cases hzl
  have hzl5 := (k5.keep zl hzln).trans hzl
  have hrl : RS (Value.int .i64) H5 (some ⟨zl, 0, none⟩) (lead7 F) := rs_new hzl5
  have hlen7 : (lead7 F).length ≤ F.length := by unfold lead7; rw [List.length_map]; exact (List.takeWhile_sublist _).length_le
  have hg5 := hg1.mono hw1 kp5
  have keep5 : ∀ x, x < n → H5 x = H x := fun x hx => (kp5.keep x (by omega)).trans (hk.keep x hx)
  have hrest : ∀ r, Dv g [0] (t ++ r) w → Dv g F r w := fun r h => dv_rest ig hF h
  by_cases hlong : w.length < sumF c 0 F
  · have hl' : (w.length : Int) < ((sumF c 0 F : Nat) : Int) := by omega
    simp (config := {maxSteps:=999999}) only [SS, qx5, forall_const, vun, simprocAttr, f1, hl', hlong, ff_10]
    repeat (first | refine qqn rfl ?_ | ((first | (refine WK.rgn ?_ ?_; kernel_rfl) | refine AtCall.now ?_); simp (config := {maxSteps:=999999}) only [SS, qx5, forall_const, vun, simprocAttr, f12, haw, hl', hlong, ff_10]) | refine qqj rfl ?_ | refine qqk rfl ?_)
    refine ih (500 - (at_ + 1)) (by omega) _ ?_
    exact ⟨at_ + 1, zT, zO, T, out, cT, cO, kp5, f1, f2, f3, f4, f10, f11, rfl, hzT5, hzO5, hne, hT1, hO1, ltT5, ltO5, sm, hlt, hTl, hol, sr.next, cp.prune hT fun r hd => by
      have := dv_long ig hc (hrest r hd) (by omega)
      omega, rfl⟩
  have hl' : ¬ (w.length : Int) < ((sumF c 0 F : Nat) : Int) := by omega
  simp (config := {maxSteps:=999999}) only [SS, qx5, forall_const, vun, simprocAttr, f1, hl', hlong, ff_10]
  refine AtCall.by (begins2_gives hq5 hrl.ra (by omega) (by omega)) ?_
  rintro v n6 H6 _ ⟨rfl, rfl, rfl⟩
  by_cases hbeg : (lead7 F).length ≤ w.length ∧ w.take (lead7 F).length = lead7 F
  case neg =>
    rw [decide_eq_false hbeg]
    simp (config := {maxSteps:=999999}) only [SS, qx5, forall_const, vun, simprocAttr, ff_10]
    repeat (first | refine qqn rfl ?_ | ((first | (refine WK.rgn ?_ ?_; kernel_rfl) | refine AtCall.now ?_); simp (config := {maxSteps:=999999}) only [SS, qx5, forall_const, vun, simprocAttr, f12, haw, ff_10]) | refine qqj rfl ?_ | refine qqk rfl ?_)
    refine ih (500 - (at_ + 1)) (by omega) _ ?_
    exact ⟨at_ + 1, zT, zO, T, out, cT, cO, kp5, f1, f2, f3, f4, f10, f11, rfl, hzT5, hzO5, hne, hT1, hO1, ltT5, ltO5, sm, hlt, hTl, hol, sr.next, cp.prune hT fun r hd => hbeg (dv_lead ig (hrest r hd)), rfl⟩
  rw [decide_eq_true hbeg]
  simp (config := {maxSteps:=999999}) only [SS, qx5, forall_const, vun, simprocAttr, ff_10]
  repeat (first | refine qqn rfl ?_ | ((first | (refine WK.rgn ?_ ?_; kernel_rfl) | refine AtCall.now ?_); simp (config := {maxSteps:=999999}) only [SS, qx5, forall_const, vun, simprocAttr, ff_10]) | refine qqj rfl ?_ | refine qqk rfl ?_)
  refine AtCall.by (first7_gives hpF5.ra (by omega)) ?_
  rintro v n6 H6 _ ⟨rfl, rfl, rfl⟩
  rcases form_split' F with ⟨hdw, hneg⟩ | ⟨a, s, rest, hFt, htn, hv0, htw, hdw⟩
  · -- a word
    have hfs : firstS F = -1 := by unfold firstS; rw [if_pos hdw]
    have hlt7 : lead7 F = trm F := by unfold lead7; rw [(tw_all hneg).1]; rfl
    have hm1 : ((-1 : Int) < 0) = True := by simp
    rw [hfs]
    simp (config := {maxSteps:=999999}) only [SS, qx5, forall_const, vun, simprocAttr, ff_10]
    repeat (first | refine qqn rfl ?_ | ((first | (refine WK.rgn ?_ ?_; kernel_rfl) | refine AtCall.now ?_); simp (config := {maxSteps:=999999}) only [SS, qx5, forall_const, vun, simprocAttr, f1, f10, f11, f12, hm1, ff_10]) | refine qqj rfl ?_ | refine qqk rfl ?_)
    refine AtCall.by (same_gives hrl.ra hq5.rs.ra (by unfold maxL; omega) (by unfold maxL; omega)) ?_
    rintro v n6 H6 _ ⟨rfl, rfl, rfl⟩
    by_cases hs : lead7 F = w
    · have hs' : same (lead7 F) w = true := same_iff3.2 hs
      have hd : Dv g [0] t w := by
        have := replay_dv ig t [0] F 0 q hF hneg
        rwa [← hlt7, hs] at this
      have u1 : vcells (Value.slice p t.length t.length) = [Value.slice p t.length t.length] := rfl
      have u3 : ([Value.slice p t.length t.length] : List Value).all one = true := rfl
      have u4 : Go.AM.splice [Value.slice none 0 0] 0 [Value.slice p t.length t.length] = [Value.slice p t.length t.length] := rfl
      have u5 : ([Value.slice p t.length t.length] : List Value).take 1 = [Value.slice p t.length t.length] := rfl
      have kE := Kp.new n6 H6 (.cells [.slice p t.length t.length] 26 true)
      have bE := hset_at H6 n6 (.cells [.slice p t.length t.length] 26 true)
      have oE := (kE.keep zO (by omega)).trans hzO5
      have tE := (kE.keep zT (by omega)).trans hzT5
      have ltE := ltT5.kp hw5 kE
      have loE := ltO5.kp hw5 kE
      generalize hE : hset H6 n6 (.cells [.slice p t.length t.length] 26 true) = HE at *
      obtain ⟨p', c4, c5⟩ := ltE.2 at_ t hT
      rw [c1] at c4
      cases c4
      have ltE1 := ltE.dead oE
      have loE1 := (loE.push c5).dead oE
      have tE1 := (hset_ne HE zO .dead (x := zT) (by omega)).trans tE
      have kE1 := (kp5.trans kE).set (x := zO) .dead hO1 (by omega)
      generalize hE1 : hset HE zO .dead = HE1 at *
      have kG := Kp.new (n6 + 1) HE1 (.cells (cO ++ [.slice p t.length t.length]) 26 true)
      have bG := hset_at HE1 (n6 + 1) (.cells (cO ++ [.slice p t.length t.length]) 26 true)
      have hwE1 := kE1.wf hw1
      have w1 : out.length + 1 ≤ bigN := by unfold bigN; omega
      have w2 : [n6].contains zO = false := by simp; omega
      have w3 : cO.take out.length = cO := List.take_of_length_le (by rw [ltO.1]; exact Nat.le_refl _)
      have w4 : out.length ≤ cO.length := by rw [ltO.1]; exact Nat.le_refl _
      have hbG := ((kE1.trans kG).keep n (by omega)).trans hb
      simp (config := {maxSteps:=999999}) only [SS, qx5, forall_const, vun, simprocAttr, hs', ff_10]
      repeat (first | refine qqn rfl ?_ | ((first | (refine WK.rgn ?_ ?_; kernel_rfl) | refine AtCall.now ?_); simp (config := {maxSteps:=999999}) only [SS, qx5, forall_const, vun, simprocAttr, f1, f10, f11, f12, hlt, hzT5, c1, hE, bE, u1, u3, u4, u5, oE, w1, w2, w3, w4, hE1, List.drop_zero, Nat.zero_add, Nat.mul_one, ff_10]) | refine qqj rfl ?_ | refine qqk rfl ?_)
      refine WK.unloop ?_
      repeat (first | refine qqn rfl ?_ | ((first | (refine WK.rgn ?_ ?_; kernel_rfl) | refine AtCall.now ?_); simp (config := {maxSteps:=999999}) only [SS, qx5, forall_const, vun, simprocAttr, f4, hbG, gc_len, gc_all, gc_2, hnI, hm1, f12, haw, ff_10]) | refine qqj rfl ?_ | refine qqk rfl ?_)
      refine ih (500 - (at_ + 1)) (by omega) _ ?_
      exact ⟨at_ + 1, zT, n6 + 1, T, out ++ [t], cT, _, kE1.trans kG, f1, f2, f3, f4, f10, by rw [List.length_append]; rfl, rfl, (kG.keep zT (by omega)).trans tE1, bG, by omega, hT1, by have := kp5.le; omega, ltE1.kp hwE1 kG, loE1.kp hwE1 kG, sm, hlt, hTl, by simp; omega, sr.found hT hd, cp.found ig hT hd, rfl⟩
    · have hs' : same (lead7 F) w = false := by rw [Bool.eq_false_iff]; exact fun e => hs (same_iff3.1 e)
      simp (config := {maxSteps:=999999}) only [SS, qx5, forall_const, vun, simprocAttr, hs', ff_10]
      repeat (first | refine qqn rfl ?_ | ((first | (refine WK.rgn ?_ ?_; kernel_rfl) | refine AtCall.now ?_); simp (config := {maxSteps:=999999}) only [SS, qx5, forall_const, vun, simprocAttr, ff_10]) | refine qqj rfl ?_ | refine qqk rfl ?_)
      refine WK.unloop ?_
      repeat (first | refine qqn rfl ?_ | ((first | (refine WK.rgn ?_ ?_; kernel_rfl) | refine AtCall.now ?_); simp (config := {maxSteps:=999999}) only [SS, qx5, forall_const, vun, simprocAttr, f4, hb5, gc_len, gc_all, gc_2, hnI, hm1, f12, haw, ff_10]) | refine qqj rfl ?_ | refine qqk rfl ?_)
      refine ih (500 - (at_ + 1)) (by omega) _ ?_
      exact ⟨at_ + 1, zT, zO, T, out, cT, cO, kp5, f1, f2, f3, f4, f10, f11, rfl, hzT5, hzO5, hne, hT1, hO1, ltT5, ltO5, sm, hlt, hTl, hol, sr.next, cp.prune hT fun r hd => by
        obtain ⟨rfl, e⟩ := dv_terms_eq ig hneg (hrest r hd)
        exact hs (hlt7.trans e.symm), rfl⟩
  · -- a variable
    have hal : a.length < F.length := by rw [hFt]; simp
    have hfs : firstS F = (a.length : Int) := by unfold firstS; rw [hdw, if_neg (by simp), htw]
    have hFv : F[a.length]? = some s := by rw [hFt]; simp
    have hFv' : F[a.length] = s := by
      have h := hFv
      rw [List.getElem?_eq_getElem hal] at h
      injection h
    have hm1 : (((a.length : Nat) : Int) < 0) = False := by simp
    have hm2 : (0 : Int) ≤ ((a.length : Nat) : Int) := by omega
    have hnot : ¬ Dv g [0] t w := fun h => by
      have := dv_all ig (hrest [] (by simpa using h)) s (by rw [hFt]; simp)
      omega
    have cp0 := cp.go hT hnot fun k r h => by
      obtain ⟨i, _, _, _, e, _⟩ := dv_next ig (hrest _ h)
      exact ⟨i, e⟩
    have hnx : ∀ (k : Nat) r, Dv g [0] (t ++ (k : Int) :: r) w → k < g.rules.length ∧ lft g k = s := fun k r h => by
      obtain ⟨i, u, F', hi, e, e2, hu⟩ := dv_next ig (hrest _ h)
      obtain rfl : k = i := by omega
      refine ⟨hi, ?_⟩
      obtain ⟨h1, h2⟩ := drop_neg (F := F') hu (lft0 ig hi)
      rw [← e2, hdw] at h1
      injection h1 with h1
      exact h1.symm
    rw [hfs]
    simp (config := {maxSteps:=999999}) only [SS, qx5, forall_const, vun, simprocAttr, ff_10]
    repeat (first | refine qqn rfl ?_ | ((first | (refine WK.rgn ?_ ?_; kernel_rfl) | refine AtCall.now ?_); simp (config := {maxSteps:=999999}) only [SS, qx5, forall_const, vun, simprocAttr, f1, f10, f11, f12, hm1, ff_10]) | refine qqj rfl ?_ | refine qqk rfl ?_)
    refine WK.cutBlock (fun st => ∃ (zT' : Nat) (T' : List (List Int)) (cT' : List Value), Kp (n + 1) H1 st.n st.H ∧ st.f 1 = .slice pa w.length w.length ∧ st.f 2 = .int .i64 40 ∧ st.f 3 = .int .i64 400 ∧ st.f 4 = .pointer (some ⟨n, 0, none⟩) ∧ st.f 10 = .slice (some ⟨zT', 0, none⟩) T'.length T'.length ∧ st.f 11 = .slice (some ⟨zO, 0, none⟩) out.length out.length ∧ st.f 12 = .int .i64 (at_ : Nat) ∧
      st.H zT' = .cells cT' 26 true ∧ st.H zO = .cells cO 26 true ∧ zT' ≠ zO ∧ n + 1 ≤ zT' ∧ LT st.H cT' T' ∧ LT st.H cO out ∧ (∀ F ∈ T', F.length ≤ 41) ∧ at_ < T'.length ∧ T'.length ≤ 424 ∧ Sr g w (at_ + 1) 0 T' out ∧ CpO g w (at_ + 1) T' out) ?_ ?_
    · refine WK.loop (fun kk st => ∃ (k zT' : Nat) (T' : List (List Int)) (cT' : List Value), Kp (n + 1) H1 st.n st.H ∧ n6 ≤ st.n ∧ RA (Value.int .i64) st.H pF F ∧ st.f 1 = .slice pa w.length w.length ∧ st.f 2 = .int .i64 40 ∧ st.f 3 = .int .i64 400 ∧ st.f 4 = .pointer (some ⟨n, 0, none⟩) ∧ st.f 10 = .slice (some ⟨zT', 0, none⟩) T'.length T'.length ∧ st.f 11 = .slice (some ⟨zO, 0, none⟩) out.length out.length ∧ st.f 12 = .int .i64 (at_ : Nat) ∧ st.f 13 = .slice pF F.length F.length ∧ st.f 17 = .int .i64 (a.length : Nat) ∧ st.f 18 = .int .i64 (k : Nat) ∧
        st.H zT' = .cells cT' 26 true ∧ st.H zO = .cells cO 26 true ∧ zT' ≠ zO ∧ n + 1 ≤ zT' ∧ LT st.H cT' T' ∧ LT st.H cO out ∧ (∀ F ∈ T', F.length ≤ 41) ∧ T'[at_]? = some t ∧ T'.length ≤ 400 + k ∧ k ≤ g.rules.length ∧ Sr g w at_ k T' out ∧ Cp g w at_ k T' out ∧ kk = g.rules.length - k) g.rules.length ?_ ?_
      · exact ⟨0, zT, T, cT, kp5, Nat.le_refl _, hpF5.ra, f1, f2, f3, f4, f10, f11, f12, rfl, rfl, rfl, hzT5, hzO5, hne, hT1, ltT5, ltO5, sm, hT, by omega, Nat.zero_le _, sr, cp0, rfl⟩
      clear f1 f2 f3 f4 f10 f11 f12
      rintro kk ⟨f, n7, H7⟩ ⟨k, zT', T', cT', kp7, hn7, hpF7, f1, f2, f3, f4, f10, f11, f12, f13, f17, f18, hzT7, hzO7, hne7, hT7, ltT7, ltO7, sm7, hTt, hTl7, hkr, sr7, cp7, rfl⟩ ih2
      simp only at f1 f2 f3 f4 f10 f11 f12 f13 f17 f18 kp7 hn7 hpF7 hzT7 hzO7 ltT7 ltO7 ih2
      have hw7 := kp7.wf hw1
      have hb7 := (kp7.keep n (by omega)).trans hb
      have hTn7 : zT' < n7 := Classical.byContradiction fun hc => by rw [hw7 zT' (by omega)] at hzT7; cases hzT7
      have hOn7 : zO < n7 := Classical.byContradiction fun hc => by rw [hw7 zO (by omega)] at hzO7; cases hzO7
      have hlt7' : at_ < T'.length := (List.getElem?_eq_some_iff.1 hTt).1
      by_cases hk : k < g.rules.length
      case neg =>
        obtain rfl : k = g.rules.length := by omega
        repeat (first | refine qqn rfl ?_ | ((first | (refine WK.rgn ?_ ?_; kernel_rfl) | refine AtCall.now ?_); simp (config := {maxSteps:=999999}) only [SS, qx5, forall_const, vun, simprocAttr, f1, f2, f3, f4, f10, f11, f12, f17, f18, hb7, gc_len, gc_all, gc_2, hk, hm2, ff_10]) | refine qqj rfl ?_ | refine qqk rfl ?_)
        refine WK.skipNil ⟨rfl, zT', T', cT', kp7, f1, f2, f3, f4, f10, f11, f12, hzT7, hzO7, hne7, hT7, ltT7, ltO7, sm7, hlt7', by omega, sr7.next, cp7.over hTt fun k r hk h => ?_⟩
        have := (hnx k r h).1
        omega
      have hkw : IntKind.i64.wrap ((k : Int) + 1) = ((k + 1 : Nat) : Int) := by rw [wrap_in (by omega) (by omega)]; rfl
      obtain ⟨zf, kf, df, tf, of_, rfl, hzf, ef⟩ := hpF7.at hal
      rw [hFv'] at ef
      obtain ⟨zr, kr, dr, tr, or_, pr2, rfl, hzr, r0, r1, r2, rpp⟩ := (hr.sub (H := H7) (fun x hx => by
        have hxn : x < n := Classical.byContradiction fun hc => hx (hw x (by omega))
        exact (kp7.keep x (by omega)).trans (hk0.keep x hxn))).at hk
      by_cases hlk : g.rules[k].left = s
      case neg =>
        repeat (first | refine qqn rfl ?_ | ((first | (refine WK.rgn ?_ ?_; kernel_rfl) | refine AtCall.now ?_); simp (config := {maxSteps:=999999}) only [SS, qx5, forall_const, vun, simprocAttr, f1, f2, f3, f4, f10, f11, f12, f13, f17, f18, hb7, gc_len, gc_all, gc_2, hk, hm2, hzr, r0, hal, hzf, ef, hlk, hkw, ff_10]) | refine qqj rfl ?_ | refine qqk rfl ?_)
        refine ih2 (g.rules.length - (k + 1)) (by omega) _ ?_
        exact ⟨k + 1, zT', T', cT', kp7, hn7, hpF7, f1, f2, f3, f4, f10, f11, f12, f13, f17, rfl, hzT7, hzO7, hne7, hT7, ltT7, ltO7, sm7, hTt, by omega, hk, sr7.skip, cp7.skip hTt fun r h => hlk (by rw [← lfF_eq hk]; exact (hnx k r h).2), rfl⟩
      obtain ⟨qa, d1, d2⟩ := ltT7.2 at_ t hTt
      obtain ⟨zx, kx, dx, ox, rfl, hzx, hxl, hxe⟩ := d2
      have hxs : (dx.drop kx).take t.length = t.map (Value.int .i64) := RS.cells hxl hxe
      have hzxn : zx < n7 := Classical.byContradiction fun hc => by rw [hw7 zx (by omega)] at hzx; cases hzx
      have hzxT : zx ≠ zT' := by rintro rfl; rw [hzT7] at hzx; cases hzx
      have lA := Kp.new n7 H7 (.cells [] 3 true)
      have dA := hset_at H7 n7 (.cells [] 3 true)
      have xA := (lA.keep zx hzxn).trans hzx
      have tA := (lA.keep zT' hTn7).trans hzT7
      have gA := lA.wf hw7
      generalize eA : hset H7 n7 (.cells [] 3 true) = JA at *
      have lA1 := lA.set (x := n7) .dead (Nat.le_refl _) (by omega)
      have xA1 := (hset_ne JA n7 .dead (x := zx) (by omega)).trans xA
      generalize eA1 : hset JA n7 .dead = JA1 at *
      have lB' := Kp.new (n7 + 1) JA1 (.cells (t.map (Value.int .i64)) 3 true)
      have lB := lA1.trans lB'
      have dB := hset_at JA1 (n7 + 1) (.cells (t.map (Value.int .i64)) 3 true)
      generalize eB : hset JA1 (n7 + 1) (.cells (t.map (Value.int .i64)) 3 true) = JB at *
      have lC' := Kp.new (n7 + 1 + 1) JB (.cells [.int .i64 (k : Nat)] 3 true)
      have lC := lB.trans lC'
      have dC := hset_at JB (n7 + 1 + 1) (.cells [.int .i64 (k : Nat)] 3 true)
      have bC := (lC'.keep (n7 + 1) (by omega)).trans dB
      generalize eC : hset JB (n7 + 1 + 1) (.cells [.int .i64 (k : Nat)] 3 true) = JC at *
      have lC1 := lC.set (x := n7 + 1) .dead (by omega) (by omega)
      generalize eC1 : hset JC (n7 + 1) .dead = JC1 at *
      have lD' := Kp.new (n7 + 1 + 1 + 1) JC1 (.cells (t.map (Value.int .i64) ++ [.int .i64 (k : Nat)]) 3 true)
      have lD := lC1.trans lD'
      have dD := hset_at JC1 (n7 + 1 + 1 + 1) (.cells (t.map (Value.int .i64) ++ [.int .i64 (k : Nat)]) 3 true)
      generalize eD : hset JC1 (n7 + 1 + 1 + 1) (.cells (t.map (Value.int .i64) ++ [.int .i64 (k : Nat)]) 3 true) = JD at *
      have lE' := Kp.new (n7 + 1 + 1 + 1 + 1) JD (.cells [.slice (some ⟨n7 + 1 + 1 + 1, 0, none⟩) (t.length + 1) (t.length + 1)] 26 true)
      have lE := lD.trans lE'
      have dE := hset_at JD (n7 + 1 + 1 + 1 + 1) (.cells [.slice (some ⟨n7 + 1 + 1 + 1, 0, none⟩) (t.length + 1) (t.length + 1)] 26 true)
      have rE := (lE'.keep (n7 + 1 + 1 + 1) (by omega)).trans dD
      have tE := (lE.keep zT' hTn7).trans hzT7
      have oE := (lE.keep zO hOn7).trans hzO7
      have ltE := ltT7.kp hw7 lE
      have loE := ltO7.kp hw7 lE
      have gE := lE.wf hw7
      generalize eE : hset JD (n7 + 1 + 1 + 1 + 1) (.cells [.slice (some ⟨n7 + 1 + 1 + 1, 0, none⟩) (t.length + 1) (t.length + 1)] 26 true) = JE at *
      have hri : RI JE (some ⟨n7 + 1 + 1 + 1, 0, none⟩) (t ++ [(k : Int)]) := ⟨_, 0, _, _, rfl, rE, by simp, fun i y e => by
        have e2 : (t.map (Value.int .i64) ++ [.int .i64 (k : Nat)]) = (t ++ [(k : Int)]).map (Value.int .i64) := by rw [List.map_append]; rfl
        rw [e2, Nat.zero_add, List.getElem?_map, e]; rfl⟩
      have hlk1 : (t ++ [(k : Int)]).length = t.length + 1 := by simp
      have ltE1 := (ltE.push hri).dead tE
      rw [hlk1] at ltE1
      have loE1 := loE.dead tE
      have oE1 := (hset_ne JE zT' .dead (x := zO) (by omega)).trans oE
      have lE1 := (kp7.trans lE).set (x := zT') .dead hT7 (by omega)
      have pE1 : RA (Value.int .i64) (hset JE zT' .dead) (some ⟨zf, kf, none⟩) F := by
        have h := hpF7.mono hw7 lE
        intro hne
        obtain ⟨x, k', cs, ty, own, a1, a2, a3⟩ := h hne
        refine ⟨x, k', cs, ty, own, a1, (hset_ne _ _ _ ?_).trans a2, a3⟩
        rintro rfl
        cases a1
        have hz2 := (lE.keep _ hTn7).trans hzf
        rw [hzf] at hzT7
        cases hzT7
        have h3 := a3 a.length s hFv
        obtain ⟨q3, e3, _⟩ := ltT7.2 (kf + a.length) _ (List.getElem?_eq_getElem (by rw [← ltT7.1]; exact (List.getElem?_eq_some_iff.1 ef).1))
        have e4 := ef.symm.trans e3
        cases e4
      generalize eE1 : hset JE zT' .dead = JE1 at *
      have gE1 := lE1.wf hw1
      have lF := Kp.new (n7 + 1 + 1 + 1 + 1 + 1) JE1 (.cells (cT' ++ [.slice (some ⟨n7 + 1 + 1 + 1, 0, none⟩) (t.length + 1) (t.length + 1)]) 26 true)
      have dF := hset_at JE1 (n7 + 1 + 1 + 1 + 1 + 1) (.cells (cT' ++ [.slice (some ⟨n7 + 1 + 1 + 1, 0, none⟩) (t.length + 1) (t.length + 1)]) 26 true)
      have u1 : vcells (Value.slice (some ⟨n7 + 1 + 1 + 1, 0, none⟩) (t.length + 1) (t.length + 1)) = [Value.slice (some ⟨n7 + 1 + 1 + 1, 0, none⟩) (t.length + 1) (t.length + 1)] := rfl
      have u3 : ([Value.slice (some ⟨n7 + 1 + 1 + 1, 0, none⟩) (t.length + 1) (t.length + 1)] : List Value).all one = true := rfl
      have u4 : Go.AM.splice [Value.slice none 0 0] 0 [Value.slice (some ⟨n7 + 1 + 1 + 1, 0, none⟩) (t.length + 1) (t.length + 1)] = [Value.slice (some ⟨n7 + 1 + 1 + 1, 0, none⟩) (t.length + 1) (t.length + 1)] := rfl
      have u5 : ([Value.slice (some ⟨n7 + 1 + 1 + 1, 0, none⟩) (t.length + 1) (t.length + 1)] : List Value).take 1 = [Value.slice (some ⟨n7 + 1 + 1 + 1, 0, none⟩) (t.length + 1) (t.length + 1)] := rfl
      have x1 : vcells (Value.int .i64 (k : Nat)) = [Value.int .i64 (k : Nat)] := rfl
      have x3 : ([Value.int .i64 (k : Nat)] : List Value).all one = true := rfl
      have x4 : Go.AM.splice [Value.int IntKind.i64 (Int.ofNat 0)] 0 [Value.int .i64 (k : Nat)] = [Value.int .i64 (k : Nat)] := rfl
      have x5 : ([Value.int .i64 (k : Nat)] : List Value).take 1 = [Value.int .i64 (k : Nat)] := rfl
      have y1 : [zx].contains n7 = false := by simp; omega
      have y2 : [n7 + 1 + 1].contains (n7 + 1) = false := by simp
      have y3 : [n7 + 1 + 1 + 1 + 1].contains zT' = false := by simp; omega
      have y4 : t.length ≤ bigN := by unfold bigN; omega
      have y5 : t.length + 1 ≤ bigN := by unfold bigN; omega
      have y6 : T'.length + 1 ≤ bigN := by unfold bigN; omega
      have y7 : (t.map (Value.int .i64)).take t.length = t.map (Value.int .i64) := List.take_of_length_le (by simp)
      have y8 : cT'.take T'.length = cT' := List.take_of_length_le (by rw [ltT7.1]; exact Nat.le_refl _)
      have y9 : T'.length ≤ cT'.length := by rw [ltT7.1]; exact Nat.le_refl _
      repeat (first | refine qqn rfl ?_ | ((first | (refine WK.rgn ?_ ?_; kernel_rfl) | refine AtCall.now ?_); simp (config := {maxSteps:=999999}) only [SS, qx5, forall_const, vun, simprocAttr, f1, f2, f3, f4, f10, f11, f12, f13, f17, f18, hb7, gc_len, gc_all, gc_2, hk, hm2, hzr, r0, hal, hzf, ef, hlk, hkw, hlt7', hzT7, d1, eA, dA, tA, xA, xA1, hxl, hxs, y1, y4, eA1, eB, dB, x1, x3, x4, x5, eC, dC, bC, y2, y5, y7, eC1, eD, dD, u1, u3, u4, u5, eE, dE, tE, y3, y6, y8, y9, eE1, List.drop_zero, List.drop_nil, List.take_nil, List.nil_append, List.length_nil, List.length_map, Nat.zero_add, Nat.mul_one, Nat.zero_mul, Nat.le_refl, Nat.zero_le, Nat.add_zero, ff_10]) | refine qqj rfl ?_ | refine qqk rfl ?_)
      have hkk := lE1.trans lF
      refine ih2 (g.rules.length - (k + 1)) (by omega) _ ?_
      refine ⟨k + 1, n7 + 1 + 1 + 1 + 1 + 1, T' ++ [t ++ [(k : Int)]], _, hkk, ?_, pE1.mono gE1 lF, f1, f2, f3, f4, by rw [List.length_append]; rfl, f11, f12, f13, f17, rfl, dF, (lF.keep zO (by omega)).trans oE1, by omega, ?_, ltE1.kp gE1 lF, loE1.kp gE1 lF, ?_, ?_, ?_, hk, sr7.push hTt ?_, cp7.push hTt, rfl⟩
      · show n6 ≤ n7 + 1 + 1 + 1 + 1 + 1 + 1
        omega
      · have := kp7.le
        omega
      · intro x hx
        rcases List.mem_append.1 hx with hx | hx
        · exact sm7 x hx
        · have e : x = t ++ [(k : Int)] := by simpa using hx
          rw [e, hlk1]
          omega
      · rw [List.getElem?_append_left hlt7']; exact hTt
      · rw [List.length_append, List.length_singleton]; omega
      · exact push_ok hF hk (lft0 ig hk) (by rw [lfF_eq hk, hlk]; exact hFt) htn
    clear f1 f2 f3 f4 f10 f11 f12
    rintro ⟨f, n7, H7⟩ ⟨zT', T', cT', kp7, f1, f2, f3, f4, f10, f11, f12, hzT7, hzO7, hne7, hT7, ltT7, ltO7, sm7, hlt7, hTl7, sr7, cp7⟩
    simp only at f1 f2 f3 f4 f10 f11 f12 kp7 hzT7 hzO7 ltT7 ltO7
    repeat (first | refine qqn rfl ?_ | ((first | (refine WK.rgn ?_ ?_; kernel_rfl) | refine AtCall.now ?_); simp (config := {maxSteps:=999999}) only [SS, qx5, forall_const, vun, simprocAttr, f12, haw, ff_10]) | refine qqj rfl ?_ | refine qqk rfl ?_)
    refine ih (500 - (at_ + 1)) (by omega) _ ?_
    exact ⟨at_ + 1, zT', zO, T', out, cT', cO, kp7, f1, f2, f3, f4, f10, f11, rfl, hzT7, hzO7, hne7, hT7, hO1, ltT7, ltO7, sm7, by omega, hTl7, hol, sr7, cp7, rfl⟩
end Go.Proofs.Ytemkglelfeidhaa
