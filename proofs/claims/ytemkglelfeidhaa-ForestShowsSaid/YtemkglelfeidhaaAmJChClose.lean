/- A part of a proof. Its conditions: none. -/
import Derived.Test.YtemkglelfeidhaaAmJFoRef
import Derived.Test.YtemkglelfeidhaaAmJChRep
import Derived.Test.YtemkglelfeidhaaAmJSrch
import Derived.Test.YtemkglelfeidhaaAmJFoEnds
set_option linter.all false
namespace Go.Proofs.Ytemkglelfeidhaa
open Go.AM Go.AM.Fo Go.RowKit
set_option maxRecDepth 100000
theorem RS.frz {H : Heap} {a : Option Addr} {l : List Int} (h : RS (Value.int .i64) H a l) : RS (Value.int .i64) (frz H) a l := by
 rcases h with h | ⟨x, k, cs, ty, own, e1, e2, e3, e4⟩
 ·exact .inl h
 ·exact .inr ⟨x, k, cs, ty, false, e1, frz_cells e2, e3, e4⟩
theorem RR.frz {H : Heap} {a : Option Addr} {l : List GRule} (h : RR H a l) : RR (frz H) a l := fun hl => by
 obtain ⟨x, k, cs, ty, own, e1, e2, e3⟩ := h hl
 refine ⟨x, k, cs, ty, false, e1, frz_cells e2, fun i r hr => ?_⟩
 obtain ⟨p, c0, c1, c2, c3⟩ := e3 i r hr
 exact ⟨p, c0, c1, c2, RS.frz c3⟩
theorem tn_ex (g : Gram) (w : List Int) : ∃ t, Tn g w t := by
 by_cases h0 : ∃ d, Dv g [0] d w
 ·obtain ⟨d, hd⟩ := h0
  by_cases h1 : ∃ d', d' ≠ d ∧ Dv g [0] d' w
  ·obtain ⟨d', hne, hd'⟩ := h1
   exact ⟨2, .inr (.inr ⟨rfl, d', d, hne, hd', hd⟩)⟩
  ·exact ⟨1, .inr (.inl ⟨rfl, d, hd, fun d' h => Classical.byContradiction fun hc => h1 ⟨d', hc, h⟩⟩)⟩
 ·exact ⟨0, .inl ⟨rfl, fun d hd => h0 ⟨d, hd⟩⟩⟩
theorem tn_uniq {g : Gram} {w : List Int} {s t : Nat} (h : Tn g w s) (h' : Tn g w t) : s = t := by
 rcases h with ⟨rfl, h⟩ | ⟨rfl, d, hd, h⟩ | ⟨rfl, d, d', hne, hd, hd'⟩ <;> rcases h' with ⟨rfl, k⟩ | ⟨rfl, e, he, k⟩ | ⟨rfl, e, e', hne', he, he'⟩
 ·rfl
 ·exact absurd he (h _)
 ·exact absurd he (h _)
 ·exact absurd hd (k _)
 ·rfl
 ·exact absurd ((h _ he).trans (h _ he').symm) hne'
 ·exact absurd hd (k _)
 ·exact absurd ((k _ hd).trans (k _ hd').symm) hne
 ·rfl
theorem trees_flat {pt pv pr q : Option Addr} {g : Gram} {w : List Int} {n : Nat} {H : Heap} (hw : WF n H) (hr : RR H pr g.rules) (hq : RS (Value.int .i64) H q w) (sg : Sgm g) (hwl : w.length ≤ 10) {t : Nat} (ht : Tn g w t) :
  Gives Try.prog 11 [.agg (gcells pt pv pr g).toArray, .slice q w.length w.length] n H fun v n' H' => v = .int .i64 (t : Nat) ∧ n' = n ∧ H' = H :=
 GivesD.flat orders hw rfl ⟨_, _, ok11⟩ fun m hm => DB.mono (trees_gives (frz_wf hw hm) (RR.frz hr) (RS.frz hq) sg (by unfold maxL; omega)) fun o ho => by
  cases o with
  | ret v' n' H' =>
   obtain ⟨hk, s, rfl, _, hs⟩ := ho
   exact ⟨hk, by rw [tn_uniq (hs hwl) ht]⟩
  | _ => trivial
end Go.Proofs.Ytemkglelfeidhaa

namespace Go.Proofs.Ytemkglelfeidhaa
open Go.AM Go.RowKit
set_option maxRecDepth 100000
theorem set_self {cs : List Value} {k : Nat} {v : Value} (h : cs[k]? = some v) : cs.set k v = cs := by
 apply List.ext_getElem?
 intro i
 rw [List.getElem?_set]
 by_cases hi : k = i
 ·subst hi
  rw [if_pos rfl, h]
  obtain ⟨h1, _⟩ := List.getElem?_eq_some_iff.1 h
  simp [h1]
 ·rw [if_neg hi]
set_option maxHeartbeats 4000000 in
theorem add_gives {N y k n : Nat} {H : Heap} {cs : List Value} {l : List It} {x : It} (hw : WF n H) (hN : N ≤ n) (hyN : N ≤ y) (hy : H y = .cells cs 108 true) (hs : SC H N cs k l) (hx : smI x) (hl : l.length ≤ 900000) :
  GivesX Try.prog (fun z => N ≤ z) 66 [.pointer (some ⟨y, k, none⟩), itV x] n H fun _ _ H' => RC (· = y) H H' ∧ ∃ v', H' y = .cells (cs.set k v') 108 true ∧ SC H' N (cs.set k v') k (addI l x) := by
 obtain ⟨v, m, hk0, hk1, hmN, hm, hv⟩ := hs
 have low : ∀ {z o}, H z = o → o ≠ .dead → z < n := fun {z o} e ho => by
  apply Classical.byContradiction
  intro hc
  rw [hw z (by omega)] at e; exact ho e.symm
 have hyn := low hy (by intro h; cases h)
 have hmn := low hm (by unfold MO; intro h; cases h)
 refine GivesX.of orders ok66 (Nat.le_of_ble_eq_true rfl) ?_
 have hk := Kp.new n H (.cells (itC x) 113 true)
 have hb := hset_at H n (.cells (itC x) 113 true)
 have hrk := rc_kp (P := (· = y)) hk hw
 repeat refine qqn rfl ?_
 have hvc : vcells (itV x) = itC x := rfl
 have hone : (itC x).all one = true := rfl
 have htk : ((itC x).drop 0).take 3 = itC x := rfl
 have hag : Value.agg (itC x).toArray = itV x := rfl
 have h03 : (3 : Nat) ≤ (itC x).length := Nat.le_refl _
 (refine qqr ?_; simp only [SS, qx44, vun, simprocAttr, -Int.reduceOfNat, -List.reduceReplicate, hvc, hone, ff_66])
 have hy1 := (hk.keep y hyn).trans hy
 have hm1 := (hk.keep m hmn).trans hm
 have hw1 := hk.wf hw
 replace hv : LV (hset H n (.cells (itC x) 113 true)) N v l := by
  rcases hv with h | ⟨h0, z, h1, h2, h3⟩
  ·exact .inl h
  ·exact .inr ⟨h0, z, h1, h2, (hk.keep z (low h3 (by intro h; cases h))).trans h3⟩
 generalize hset H n (.cells (itC x) 113 true) = H1 at *
 have hlk := look_it hm1 hx
 have k1c : k + 1 + 1 ≤ cs.length := (List.getElem?_eq_some_iff.1 hk1).1
 have k0c : k + 1 ≤ cs.length := by omega
 by_cases hin : x ∈ l
 ·repeat (first | refine qqm rfl ?_ | ((first | refine qqr ?_ | refine qqt ?_); simp only [SS, qx44, vun, simprocAttr, -Int.reduceOfNat, -List.reduceReplicate, hb, hy1, hk1, hk0, htk, hag, h03, aop_nc, tnc, aop_look, aop_mapset, hlk, hin, k1c, ff_66]))
  (first | refine WK.retNil ⟨Or.inr rfl, _, rfl, ?_, ?_⟩ | refine WK.skipNil ⟨Or.inl rfl, _, rfl, ?_, ?_⟩)
  ·exact fun z hz _ => hk.keep z hz
  ·refine ⟨hrk, v, ?_, ?_⟩
   ·rw [set_self hk0]; exact hy1
   ·rw [set_self hk0]
    unfold addI
    rw [if_pos hin]
    exact ⟨v, m, hk0, hk1, hmN, hm1, hv⟩
 ·have hst := set_it hm1 hx hin
  have hym : y ≠ m := by rintro rfl; rw [hy1] at hm1; unfold MO at hm1; cases hm1
  have hnm : n ≠ m := by omega
  have hm2 := hset_at H1 m (MO (l ++ [x]))
  have hy2 := (hset_ne H1 m (MO (l ++ [x])) hym).trans hy1
  have hb2 := (hset_ne H1 m (MO (l ++ [x])) hnm).trans hb
  have kx2 : Kx (fun z => N ≤ z) n H (n + 1) (hset H1 m (MO (l ++ [x]))) := hk.kx.set _ (.inl hmN) (by omega)
  have hw2 := kx2.wf hw
  have hrk2 : RC (· = y) H (hset H1 m (MO (l ++ [x]))) := hrk.trans (.setM hm1)
  have hv2 : LV (hset H1 m (MO (l ++ [x]))) N v l := by
   rcases hv with h | ⟨h0, z, h1, h2, h3⟩
   ·exact .inl h
   ·exact .inr ⟨h0, z, h1, h2, (hset_ne _ _ _ (by rintro rfl; rw [hm1] at h3; unfold MO at h3; cases h3)).trans h3⟩
  repeat (first | refine qqm rfl ?_ | ((first | refine qqr ?_ | refine qqt ?_); simp only [SS, qx44, vun, simprocAttr, -Int.reduceOfNat, -List.reduceReplicate, hb, hy1, hk1, hk0, htk, hag, h03, aop_nc, tnc, aop_look, aop_mapset, hlk, hin, k1c, hst, ff_66]))
  generalize hset H1 m (MO (l ++ [x])) = H2 at *
  have hsp : Go.AM.splice [Value.int IntKind.i64 (Int.ofNat 0), Value.int IntKind.i64 (Int.ofNat 0), Value.int IntKind.i64 (Int.ofNat 0)] 0 (itC x) = itC x := rfl
  have hlen3 : (itC x).length = 3 := rfl
  have hb3 := hset_at H2 (n + 1) (.cells (itC x) 113 true)
  have hyn1 : y ≠ n + 1 := by omega
  have hmn1 : m ≠ n + 1 := by omega
  have hy3 := (hset_ne H2 (n + 1) (.cells (itC x) 113 true) hyn1).trans hy2
  have hm3 := (hset_ne H2 (n + 1) (.cells (itC x) 113 true) hmn1).trans hm2
  have k3 := Kp.new (n + 1) H2 (.cells (itC x) 113 true)
  have kx3 := kx2.trans k3.kx
  have hrk3 := hrk2.trans (rc_kp k3 hw2)
  have hw3 := k3.wf hw2
  have hadd : addI l x = l ++ [x] := by unfold addI; rw [if_neg hin]
  have hset0 : ∀ v', (cs.set k v')[k]? = some v' := fun v' => by rw [List.getElem?_set]; simp; omega
  have hset1 : ∀ v', (cs.set k v')[k + 1]? = some (.map (some m)) := fun v' => by rw [List.getElem?_set, if_neg (by omega)]; exact hk1
  rcases hv2 with ⟨rfl, rfl⟩ | ⟨h0, z, rfl, hzN, hz⟩
  ·have hg := grow_nil (P := Try.prog) (n := n + 1 + 1) (ts := #[106, 106]) (eapp_106_106) hb3 rfl
   generalize hE : hset H2 (n + 1) (.cells (itC x) 113 true) = H3 at *
   have hy4 : hset H3 (n + 1 + 1) (.rows (itC x) 113 true) y = _ := (hset_ne _ _ _ (by omega)).trans hy3
   have hm4 : hset H3 (n + 1 + 1) (.rows (itC x) 113 true) m = _ := (hset_ne _ _ _ (by omega)).trans hm3
   have hz4 := hset_at H3 (n + 1 + 1) (.rows (itC x) 113 true)
   have k4 := Kp.new (n + 1 + 1) H3 (.rows (itC x) 113 true)
   have kx4 := kx3.trans k4.kx
   have hrk4 := hrk3.trans (rc_kp k4 hw3)
   simp only [SS, qx44, vun, simprocAttr, -Int.reduceOfNat, -List.reduceReplicate, hy2, hk0, hb2, htk, hag, h03, hvc, hone, hsp, hlen3, hE, hg, aop_nc, tnc, hy3, hy4, k0c, ff_66]
   generalize hset H3 (n + 1 + 1) (.rows (itC x) 113 true) = H4 at *
   (first | refine WK.retNil ⟨Or.inr rfl, _, rfl, ?_, ?_⟩ | refine WK.skipNil ⟨Or.inl rfl, _, rfl, ?_, ?_⟩)
   ·intro z hz hzN
    exact (kx4.set _ (.inl hyN) (by omega)).keep z hz hzN
   ·refine ⟨hrk4.trans (.setY hy4 rfl), _, hset_at _ _ _, ?_⟩
    rw [hadd]
    refine ⟨_, m, hset0 _, hset1 _, hmN, (hset_ne _ _ _ (Ne.symm hym)).trans hm4, .inr ⟨by simp, n + 1 + 1, rfl, by omega, (hset_ne _ _ _ (by omega)).trans (hz4.trans (by simp))⟩⟩
  ·have hlz : l.length * 3 = (l.flatMap itC).length := (itcs_len l).symm
   have hl0 : l.length ≠ 0 := fun h => h0 (List.length_eq_zero_iff.1 h)
   have hzn : z < n + 1 := Classical.byContradiction fun hc => by rw [hw2 z (by omega)] at hz; cases hz
   have hz3 := (hset_ne H2 (n + 1) (.cells (itC x) 113 true) (x := z) (by omega)).trans hz
   have hg := grow_some (P := Try.prog) (n := n + 1 + 1) (ts := #[106, 106]) (c := l.length) (eapp_106_106) hb3 rfl hz3 hlz hl0 (by unfold bigN; omega)
   generalize hE : hset H2 (n + 1) (.cells (itC x) 113 true) = H3 at *
   have hzy : y ≠ z := by rintro rfl; rw [hy2] at hz; cases hz
   have hzm : m ≠ z := by rintro rfl; rw [hm2] at hz; unfold MO at hz; cases hz
   have hy5 := (hset_ne H3 z (.rows (l.flatMap itC) 113 false) hzy).trans hy3
   have hm5 := (hset_ne H3 z (.rows (l.flatMap itC) 113 false) hzm).trans hm3
   have kx5 := kx3.set (.rows (l.flatMap itC) 113 false) (x := z) (.inl hzN) (by omega)
   have hrk5 := hrk3.trans (RC.own hz3 (own' := false))
   have hw5 := kx5.wf hw
   generalize hE2 : hset H3 z (.rows (l.flatMap itC) 113 false) = H5 at *
   have hy4 : hset H5 (n + 1 + 1) (.rows (l.flatMap itC ++ itC x) 113 true) y = _ := (hset_ne _ _ _ (by omega)).trans hy5
   have hm4 : hset H5 (n + 1 + 1) (.rows (l.flatMap itC ++ itC x) 113 true) m = _ := (hset_ne _ _ _ (by omega)).trans hm5
   have hz4 := hset_at H5 (n + 1 + 1) (.rows (l.flatMap itC ++ itC x) 113 true)
   have k4 := Kp.new (n + 1 + 1) H5 (.rows (l.flatMap itC ++ itC x) 113 true)
   have kx4 := kx5.trans k4.kx
   have hrk4 := hrk5.trans (rc_kp k4 hw5)
   simp only [SS, qx44, vun, simprocAttr, -Int.reduceOfNat, -List.reduceReplicate, hy2, hk0, hb2, htk, hag, h03, hvc, hone, hsp, hlen3, hE, hg, hE2, aop_nc, tnc, hy3, hy4, k0c, ff_66]
   generalize hset H5 (n + 1 + 1) (.rows (l.flatMap itC ++ itC x) 113 true) = H4 at *
   (first | refine WK.retNil ⟨Or.inr rfl, _, rfl, ?_, ?_⟩ | refine WK.skipNil ⟨Or.inl rfl, _, rfl, ?_, ?_⟩)
   ·intro z hz hzN
    exact (kx4.set _ (.inl hyN) (by omega)).keep z hz hzN
   ·refine ⟨hrk4.trans (.setY hy4 rfl), _, hset_at _ _ _, ?_⟩
    rw [hadd]
    refine ⟨_, m, hset0 _, hset1 _, hmN, (hset_ne _ _ _ (Ne.symm hym)).trans hm4, .inr ⟨by simp, n + 1 + 1, by simp, by omega, (hset_ne _ _ _ (by omega)).trans (hz4.trans (by simp))⟩⟩
end Go.Proofs.Ytemkglelfeidhaa

namespace Go.Proofs.Ytemkglelfeidhaa
open Go.AM Go.RowKit
set_option maxRecDepth 100000
def Grown (N y k : Nat) (cs : List Value) (H H' : Heap) (l : List It) : Prop := RC (· = y) H H' ∧ ∃ v', H' y = .cells (cs.set k v') 108 true ∧ SC H' N (cs.set k v') k l
theorem Grown.refl {N y k : Nat} {cs : List Value} {H : Heap} {l : List It} (hy : H y = .cells cs 108 true) (hs : SC H N cs k l) : Grown N y k cs H H l := by
 have hs' := hs
 obtain ⟨v, m, h0, _⟩ := hs'
 exact ⟨.refl _ H, v, by rw [set_self h0]; exact hy, by rw [set_self h0]; exact hs⟩
theorem Grown.trans {N y k : Nat} {cs : List Value} {H H1 H2 : Heap} {l l2 : List It} (a : Grown N y k cs H H1 l) (b : ∀ cs1, H1 y = .cells cs1 108 true → SC H1 N cs1 k l → Grown N y k cs1 H1 H2 l2) : Grown N y k cs H H2 l2 := by
 obtain ⟨r1, v1, h1, s1⟩ := a
 obtain ⟨r2, v2, h2, s2⟩ := b _ h1 s1
 rw [List.set_set] at h2 s2
 exact ⟨r1.trans r2, v2, h2, s2⟩
theorem add_grown {N y k n : Nat} {H0 H : Heap} {cs : List Value} {l : List It} {x : It} (hw : WF n H) (hN : N ≤ n) (hyN : N ≤ y) (hg : Grown N y k cs H0 H l) (hx : smI x) (hl : l.length ≤ 900000) :
  GivesX Try.prog (fun z => N ≤ z) 66 [.pointer (some ⟨y, k, none⟩), itV x] n H fun _ _ H' => RC (· = y) H H' ∧ Grown N y k cs H0 H' (addI l x) := by
 have hg' := hg
 obtain ⟨r1, v1, h1, s1⟩ := hg'
 obtain ⟨v, n', H', a, b, c⟩ := add_gives hw hN hyN h1 s1 hx hl
 refine ⟨v, n', H', a, b, c.1, hg.trans fun cs1 h2 _ => ?_⟩
 rw [h1] at h2
 cases h2
 exact c
theorem small_okL {g : Gram} {at_ : Nat} {l : List It} (h : okL g at_ l) (hr : g.rules.length ≤ 24) (h8 : ∀ r ∈ g.rules, r.right.length ≤ 8) (ha : at_ ≤ 4000) : l.length ≤ 900000 := by
 have h1 := h.len
 have h2 := bndI_le (at_ := at_) hr h8
 omega
set_option maxHeartbeats 8000000 in
theorem cbegin_gives {S H0 H : Heap} {N o n y k at_ : Nat} {pt pv pr pg pe pc : Option Addr} {g : Gram} {gd em : List Bool} {co : List Nat} {sv wv : Value} {cs : List Value} {l : List It} {v : Int} (st : Stat S N pr pg pe pc g gd em co) (hw : WF n H) (hS : Sub S H) (hN : N ≤ n) (hoN : o < N) (hyN : N ≤ y)
  (ho : H o = .cells (chC pt pv pr pg pe pc g gd em co sv wv) 101 true) (hg : Grown N y k cs H0 H l) (hl : okL g at_ l) (ha : at_ ≤ 4000) :
  GivesX Try.prog (fun z => N ≤ z) 63 [.pointer (some ⟨o, 0, none⟩), .pointer (some ⟨y, k, none⟩), .int .i64 v, .int .i64 (at_ : Nat)] n H fun _ _ H' => RC (· = y) H H' ∧ Grown N y k cs H0 H' (beginL g gd v at_ l) := by
 refine GivesX.of orders ok63 (Nat.le_of_ble_eq_true rfl) ?_
 repeat refine qqn rfl ?_
 have c83 : 3 ≤ (chC pt pv pr pg pe pc g gd em co sv wv).length := by rw [chl]; omega
 repeat (first | refine qqm rfl ?_ | ((first | refine qqr ?_ | refine qqt ?_); simp only [SS, qx39, simprocAttr, ho, chg, c83, aop_nc, tnc, ff_63]))
 refine AtCall.by (rules_gives (pt := pt) (pv := pv) (v := v) hw (st.rr.sub hS) st.rl st.up) ?_
 rintro w n1 H1 hk1 ⟨a, b, rfl, hab, hb, ea, eb, ec⟩
 have hrl := st.rl
 have hon : o < n := by omega
 have hyn : y < n := Classical.byContradiction fun hc => by
  obtain ⟨_, v1, h1, _⟩ := hg
  rw [hw y (by omega)] at h1; cases h1
 have hg1 : Grown N y k cs H0 H1 l := by
  obtain ⟨r1, v1, h1, v2, m, s0, s1, s2, s3, s4⟩ := hg
  have hmn : m < n := Classical.byContradiction fun hc => by rw [hw m (by omega)] at s3; unfold MO at s3; cases s3
  refine ⟨r1.trans (rc_kp hk1 hw), v1, (hk1.keep y hyn).trans h1, v2, m, s0, s1, s2, (hk1.keep m hmn).trans s3, ?_⟩
  rcases s4 with h | ⟨h0, z, e1, e2, e3⟩
  ·exact .inl h
  ·exact .inr ⟨h0, z, e1, e2, (hk1.keep z (Classical.byContradiction fun hc => by rw [hw z (by omega)] at e3; cases e3)).trans e3⟩
 simp only [SS, qx39, simprocAttr, ff_63]
 repeat (first | refine qqm rfl ?_ | ((first | refine qqr ?_ | refine qqt ?_); simp only [SS, qx39, simprocAttr, ff_63]))
 refine WK.loop (fun k2 s => ∃ r : Nat, Kx (fun z => N ≤ z) n H s.n s.H ∧ s.f 0 = .pointer (some ⟨o, 0, none⟩) ∧ s.f 1 = .pointer (some ⟨y, k, none⟩) ∧ s.f 3 = .int .i64 (at_ : Nat) ∧ s.f 9 = .int .i64 (b : Nat) ∧ s.f 10 = .int .i64 (r : Nat) ∧ a ≤ r ∧ r ≤ b ∧ RC (· = y) H s.H ∧ Grown N y k cs H0 s.H (beginN g gd v at_ r l) ∧ k2 = b - r) (b - a) ?_ ?_
 ·exact ⟨a, hk1.kx, rfl, rfl, rfl, rfl, rfl, Nat.le_refl _, hab, rc_kp hk1 hw, by rw [beginN_from a ea]; exact hg1, rfl⟩
 rintro kk ⟨f, n2, H2⟩ ⟨r, kx, f0, f1, f3, f9, f10, har, hrb, hrc, hg2, rfl⟩ ih
 simp only at f0 f1 f3 f9 f10 kx hrc hg2 ih
 have hle := kx.le
 by_cases hlt : r < b
 ·have ho2 := (kx.keep o hon (by omega)).trans ho
  have hS2 := hS.kx st.wf kx hN
  have hrg : r < gd.length := by rw [st.gdL]; omega
  obtain ⟨z, kz, ds, tz, oz, rfl, hz, e⟩ := (st.gdA.sub hS2).at hrg
  have hw2 := kx.wf hw
  have hp : begP g gd v r = gd[r] := by
   unfold begP
   rw [eb r har hlt, List.getD_eq_getElem?_getD, List.getElem?_eq_getElem hrg]
   simp
  have hnx := beginN_succ (g := g) (gd := gd) (v := v) (at_ := at_) (l := l) r
  rw [hp] at hnx
  cases hgd : gd[r] with
  | true =>
   rw [hgd] at e hnx
   have hbd : Value.agg #[Value.int .i64 (r : Nat), Value.int .i64 0, Value.int .i64 (at_ : Nat)] = itV (r, 0, at_) := rfl
   repeat (first | refine qqm rfl ?_ | ((first | refine qqr ?_ | refine qqt ?_); simp only [SS, qx39, simprocAttr, f0, f1, f3, f9, f10, hlt, ho2, ch3, hrg, hz, e, aop_nc, tnc, ff_63]))
   refine AtCall.byX (add_grown (x := (r, 0, at_)) hw2 (by omega) hyN hg2 ⟨by show r ≤ 1000000; omega, by show 0 ≤ 1000000; omega, by show at_ ≤ 1000000; omega⟩ (small_okL (beginN_ok hl r (by omega)) st.rl st.r8 ha)) ?_
   rintro w n3 H3 kx3 ⟨hrc3, hg3⟩
   simp only [SS, qx39, simprocAttr, ff_63]
   repeat (first | refine qqm rfl ?_ | ((first | refine qqr ?_ | refine qqt ?_); simp only [SS, qx39, simprocAttr, f10, ff_63]))
   refine ih (b - (r + 1)) (by omega) _ ⟨r + 1, kx.trans kx3, f0, f1, f3, f9, ?_, by omega, hlt, hrc.trans hrc3, ?_, rfl⟩
   ·simp only [packed, fset_apply, Nat.reduceEqDiff, ↓reduceIte, List.getD_cons_zero, List.getD_cons_succ, ff_63]
    rw [wrap_in (by omega) (by omega)]; rfl
   ·rw [hnx, if_pos rfl]; exact hg3
  | false =>
   rw [hgd] at e hnx
   repeat (first | refine qqm rfl ?_ | ((first | refine qqr ?_ | refine qqt ?_); simp only [SS, qx39, simprocAttr, f0, f1, f3, f9, f10, hlt, ho2, ch3, hrg, hz, e, aop_nc, tnc, ff_63]))
   refine ih (b - (r + 1)) (by omega) _ ⟨r + 1, kx, f0, f1, f3, f9, ?_, by omega, hlt, hrc, ?_, rfl⟩
   ·simp only [packed, fset_apply, Nat.reduceEqDiff, ↓reduceIte, List.getD_cons_zero, List.getD_cons_succ, ff_63]
    rw [wrap_in (by omega) (by omega)]; rfl
   ·rw [hnx, if_neg (by simp)]; exact hg2
 ·repeat (first | refine qqm rfl ?_ | ((first | refine qqr ?_ | refine qqt ?_); simp only [SS, qx39, simprocAttr, f0, f1, f3, f9, f10, hlt, ff_63]))
  (first | refine WK.retNil ⟨Or.inr rfl, _, rfl, ?_, ?_⟩ | refine WK.skipNil ⟨Or.inl rfl, _, rfl, ?_, ?_⟩)
  ·exact kx.keep
  ·have : r = b := by omega
   subst this
   refine ⟨hrc, ?_⟩
   unfold beginL
   rw [beginN_to _ hb ec]
   exact hg2
end Go.Proofs.Ytemkglelfeidhaa

namespace Go.Proofs.Ytemkglelfeidhaa
open Go.AM Go.RowKit
set_option maxRecDepth 100000
theorem okI.small {g : Gram} {at_ : Nat} {x : It} (h : okI g at_ x) (hr : g.rules.length ≤ 24) (h8 : ∀ r ∈ g.rules, r.right.length ≤ 8) (ha : at_ ≤ 4000) : x.1 < 24 ∧ x.2.1 ≤ 8 ∧ x.2.2 ≤ 4000 := by
 obtain ⟨h1, h2, h3⟩ := h
 rw [rgt_at h1] at h2
 have := h8 _ (List.getElem_mem h1)
 omega
theorem Grown.kp {N y k n n' : Nat} {cs : List Value} {H H1 H2 : Heap} {l : List It} (a : Grown N y k cs H H1 l) (hw : WF n H1) (hk : Kp n H1 n' H2) : Grown N y k cs H H2 l := by
 obtain ⟨r1, v1, h1, v2, m2, s0, s1, s2, s3, s4⟩ := a
 have hyn : y < n := Classical.byContradiction fun hc => by rw [hw y (by omega)] at h1; cases h1
 have hmn : m2 < n := Classical.byContradiction fun hc => by rw [hw m2 (by omega)] at s3; unfold MO at s3; cases s3
 refine ⟨r1.trans (rc_kp hk hw), v1, (hk.keep y hyn).trans h1, v2, m2, s0, s1, s2, (hk.keep m2 hmn).trans s3, ?_⟩
 rcases s4 with h | ⟨h0, z, e1, e2, e3⟩
 ·exact .inl h
 ·exact .inr ⟨h0, z, e1, e2, (hk.keep z (Classical.byContradiction fun hc => by rw [hw z (by omega)] at e3; cases e3)).trans e3⟩
set_option maxHeartbeats 8000000 in
theorem done_gives {S H0 H : Heap} {N o n y k at_ m c : Nat} {pt pv pr pg pe pc : Option Addr} {g : Gram} {gd em : List Bool} {co : List Nat} {wv : Value} {cs : List Value} {l ps : List It} {x : It} (st : Stat S N pr pg pe pc g gd em co) (hw : WF n H) (hS : Sub S H) (hN : N ≤ n) (hoN : o < N) (hyN : N ≤ y)
  (ho : H o = .cells (chC pt pv pr pg pe pc g gd em co (.slice (some ⟨y, 0, none⟩) m c) wv) 101 true) (hg : Grown N y k cs H0 H l) (hl : okL g at_ l) (ha : at_ ≤ 4000) (hx : okI g at_ x)
  (hm : x.2.2 < m) (hm4 : m ≤ 5000) {cs1 : List Value} (hy1 : H y = .cells cs1 108 true) {pp : Option Addr} (hp : cs1[x.2.2 * 2]? = some (.slice pp ps.length ps.length)) (hps : LR H (.slice pp ps.length ps.length) ps) (hpo : ∀ p ∈ ps, okI g at_ p) (hpl : ps.length ≤ 900000) :
  GivesX Try.prog (fun z => N ≤ z) 81 [.pointer (some ⟨o, 0, none⟩), .pointer (some ⟨y, k, none⟩), itV x] n H fun _ _ H' => RC (· = y) H H' ∧ Grown N y k cs H0 H' (doneL g (lft g x.1) ps l) := by
 refine GivesX.of orders ok81 (Nat.le_of_ble_eq_true rfl) ?_
 have hk := Kp.new n H (.cells (itC x) 113 true)
 have hb := hset_at H n (.cells (itC x) 113 true)
 have hon : o < n := by omega
 have hyn : y < n := Classical.byContradiction fun hc => by rw [hw y (by omega)] at hy1; cases hy1
 have ho1 := (hk.keep o hon).trans ho
 have hS1 := hS.kp hw hk
 have hrk := rc_kp (P := (· = y)) hk hw
 have hyb := (hk.keep y hyn).trans hy1
 repeat refine qqn rfl ?_
 (refine qqr ?_; simp only [SS, qx25, simprocAttr, -Int.reduceOfNat, -List.reduceReplicate, itvc, itone, ff_81])
 generalize hset H n (.cells (itC x) 113 true) = H1 at *
 obtain ⟨hx1, hx2, hx3⟩ := hx
 have hrl := st.rl
 obtain ⟨z, kz, ds, tz, oz, p, rfl, hz, c0, c1, c2, hpp⟩ := (st.rr.sub hS1).at hx1
 repeat (first | refine qqm rfl ?_ | ((first | refine qqr ?_ | refine qqt ?_); simp only [SS, qx25, simprocAttr, -Int.reduceOfNat, -List.reduceReplicate, hb, ho1, ch2, ch6, it0, it1, it2, aop_nc, tnc, hx1, hz, c0, c1, hm, hyb, hp, ff_81]))
 have hw1 := hk.wf hw
 have hg1 := hg.kp hw hk
 have hps1 := hps.rk hrk.1
 refine WK.loop (fun k2 s => ∃ j : Nat, Kx (fun z => N ≤ z) n H s.n s.H ∧ s.f 0 = .pointer (some ⟨o, 0, none⟩) ∧ s.f 1 = .pointer (some ⟨y, k, none⟩) ∧ s.f 6 = .int .i64 (lft g x.1) ∧ s.f 29 = .slice pp ps.length ps.length ∧ s.f 30 = .int .i64 (ps.length : Nat) ∧ s.f 31 = .int .i64 (j : Nat) ∧ j ≤ ps.length ∧ RC (· = y) H1 s.H ∧ Grown N y k cs H0 s.H (doneL g (lft g x.1) (ps.take j) l) ∧ k2 = ps.length - j) ps.length ?_ ?_
 ·exact ⟨0, hk.kx, rfl, rfl, by rw [lft_at hx1]; rfl, rfl, rfl, rfl, Nat.zero_le _, .refl _ _, by rw [List.take_zero]; exact hg1, rfl⟩
 rintro kk ⟨f, n2, H2⟩ ⟨j, kx, f0, f1, f6, f29, f30, f31, hj, hrk2, hg2, rfl⟩ ih
 simp only at f0 f1 f6 f29 f30 f31 kx hg2 hrk2 ih
 have hle := kx.le
 have hw2 := kx.wf hw
 by_cases hlt : j < ps.length
 ·obtain ⟨zp, op, rfl, hzp, e3, e4⟩ := (hps1.rk hrk2.1).at hlt
  have hk3 := Kp.new n2 H2 (.cells (itC ps[j]) 113 true)
  have hb3 := hset_at H2 n2 (.cells (itC ps[j]) 113 true)
  have ho3 := ((kx.trans hk3.kx).keep o hon (by omega)).trans ho
  have hS3 := hS.kx st.wf (kx.trans hk3.kx) hN
  have hw3 := hk3.wf hw2
  have hrk3 := hrk2.trans (rc_kp hk3 hw2)
  have hg3 := hg2.kp hw2 hk3
  have kx3 := kx.trans hk3.kx
  generalize hE : hset H2 n2 (.cells (itC ps[j]) 113 true) = H3 at *
  repeat (first | refine qqm rfl ?_ | ((first | refine qqr ?_ | refine qqt ?_); simp only [SS, qx25, simprocAttr, -Int.reduceOfNat, -List.reduceReplicate, f0, f1, f6, f29, f30, f31, hlt, hzp, e3, e4, itvc, itone, itsp, itle, ittk, itag, hb3, hE, ff_81]))
  obtain ⟨hq1, hq2, hq3⟩ := hpo _ (List.getElem_mem hlt)
  have hsm : ps[j].1 < 24 ∧ ps[j].2.1 ≤ 8 ∧ ps[j].2.2 ≤ 4000 := okI.small ⟨hq1, hq2, hq3⟩ st.rl st.r8 ha
  have hsm1 : ps[j].2.1 ≤ 1000 := by omega
  refine AtCall.by (next_gives st hw3 hS3 ho3 hq1 hq2) ?_
  rintro w n4 H4 hk4 rfl
  have hb4 := (hk4.keep n2 (by omega)).trans hb3
  have hrk4 := hrk3.trans (rc_kp hk4 hw3)
  have hg4 := hg3.kp hw3 hk4
  have kx4 := kx3.trans hk4.kx
  have hsn := doneL_snoc (g := g) (left := lft g x.1) (l := l) hlt
  cases hn : nx g ps[j] with
  | none =>
   rw [hn] at hsn
   rw [if_neg (by simp)] at hsn
   simp only [SS, qx25, simprocAttr, -Int.reduceOfNat, -List.reduceReplicate, ff_81]
   repeat (first | refine qqm rfl ?_ | ((first | refine qqr ?_ | refine qqt ?_); simp only [SS, qx25, simprocAttr, -Int.reduceOfNat, -List.reduceReplicate, f0, f1, f6, f29, f30, f31, Option.isSome_none, ff_81]))
   refine ih (ps.length - (j + 1)) (by omega) _ ⟨j + 1, kx4, f0, f1, f6, f29, f30, ?_, hlt, hrk4, ?_, rfl⟩
   ·simp only [packed, fset_apply, Nat.reduceEqDiff, ↓reduceIte, List.getD_cons_zero, List.getD_cons_succ, ff_81]
    rw [wrap_in (by omega) (by omega)]; rfl
   ·rw [hsn]; exact hg4
  | some y0 =>
   rw [hn] at hsn
   by_cases he : y0 = lft g x.1
   ·rw [if_pos (by rw [he])] at hsn
    simp only [SS, qx25, simprocAttr, -Int.reduceOfNat, -List.reduceReplicate, ff_81]
    repeat (first | refine qqm rfl ?_ | ((first | refine qqr ?_ | refine qqt ?_); simp only [SS, qx25, simprocAttr, -Int.reduceOfNat, -List.reduceReplicate, f0, f1, f6, f29, f30, f31, he, hb4, itup _ hsm1, Option.isSome_some, Option.getD_some, it0, it1, it2, ff_81]))
    have hy4 := hg4
    refine AtCall.byX (add_grown (x := upI ps[j]) (kx4.wf hw) (by have := kx4.le; omega) hyN hg4 ⟨by show ps[j].1 ≤ 1000000; omega, by show ps[j].2.1 + 1 ≤ 1000000; omega, by show ps[j].2.2 ≤ 1000000; omega⟩ (small_okL (doneL_ok (ps.take j) (fun p hp => hpo p (List.mem_of_mem_take hp)) hl) st.rl st.r8 ha)) ?_
    rintro w n5 H5 kx5 ⟨hrk5, hg5⟩
    simp only [SS, qx25, simprocAttr, -Int.reduceOfNat, -List.reduceReplicate, ff_81]
    repeat (first | refine qqm rfl ?_ | ((first | refine qqr ?_ | refine qqt ?_); simp only [SS, qx25, simprocAttr, -Int.reduceOfNat, -List.reduceReplicate, f31, ff_81]))
    refine ih (ps.length - (j + 1)) (by omega) _ ⟨j + 1, kx4.trans kx5, f0, f1, f6, f29, f30, ?_, hlt, ?_, ?_, rfl⟩
    ·simp only [packed, fset_apply, Nat.reduceEqDiff, ↓reduceIte, List.getD_cons_zero, List.getD_cons_succ, ff_81]
     rw [wrap_in (by omega) (by omega)]; rfl
    ·exact hrk4.trans hrk5
    ·rw [hsn]; exact hg5
   ·rw [if_neg (by simp [he])] at hsn
    simp only [SS, qx25, simprocAttr, -Int.reduceOfNat, -List.reduceReplicate, ff_81]
    repeat (first | refine qqm rfl ?_ | ((first | refine qqr ?_ | refine qqt ?_); simp only [SS, qx25, simprocAttr, -Int.reduceOfNat, -List.reduceReplicate, f0, f1, f6, f29, f30, f31, he, Option.isSome_some, Option.getD_some, ff_81]))
    refine ih (ps.length - (j + 1)) (by omega) _ ⟨j + 1, kx4, f0, f1, f6, f29, f30, ?_, hlt, hrk4, ?_, rfl⟩
    ·simp only [packed, fset_apply, Nat.reduceEqDiff, ↓reduceIte, List.getD_cons_zero, List.getD_cons_succ, ff_81]
     rw [wrap_in (by omega) (by omega)]; rfl
    ·rw [hsn]; exact hg4
 ·repeat (first | refine qqm rfl ?_ | ((first | refine qqr ?_ | refine qqt ?_); simp only [SS, qx25, simprocAttr, -Int.reduceOfNat, -List.reduceReplicate, f0, f1, f6, f29, f30, f31, hlt, ff_81]))
  (first | refine WK.retNil ⟨Or.inr rfl, _, rfl, ?_, ?_⟩ | refine WK.skipNil ⟨Or.inl rfl, _, rfl, ?_, ?_⟩)
  ·exact kx.keep
  ·have : j = ps.length := by omega
   subst this
   rw [List.take_length] at hg2
   exact ⟨hrk.trans hrk2, hg2⟩
end Go.Proofs.Ytemkglelfeidhaa

namespace Go.Proofs.Ytemkglelfeidhaa
open Go.AM Go.RowKit
set_option maxRecDepth 100000
def SR (H : Heap) (cs : List Value) (sets : List (List It)) : Prop := ∀ i (hi : i < sets.length), ∃ pp, cs[i * 2]? = some (.slice pp sets[i].length sets[i].length) ∧ LR H (.slice pp sets[i].length sets[i].length) sets[i]
theorem SR.rk {H H' : Heap} {cs : List Value} {sets : List (List It)} (h : SR H cs sets) {P : Nat → Prop} (k : RC P H H') : SR H' cs sets := fun i hi => by
 obtain ⟨pp, a, b⟩ := h i hi
 exact ⟨pp, a, b.rk k.1⟩
theorem SC.lr {H : Heap} {N k : Nat} {cs : List Value} {l : List It} (h : SC H N cs k l) : ∃ pp, cs[k]? = some (.slice pp l.length l.length) ∧ LR H (.slice pp l.length l.length) l := by
 obtain ⟨v, m, h0, _, _, _, h1⟩ := h
 obtain ⟨pp, rfl⟩ := h1.lr.slice
 exact ⟨pp, h0, h1.lr⟩
theorem nx_sym {S : Heap} {N : Nat} {pr pg pe pc : Option Addr} {g : Gram} {gd em : List Bool} {co : List Nat} (st : Stat S N pr pg pe pc g gd em co) {x : It} (hx : x.1 < g.rules.length) {s : Int} (h : nx g x = some s) : inI s ∧ s < g.vars.length := by
 unfold nx at h
 rw [rgt_at hx] at h
 exact st.sym _ (List.getElem_mem hx) _ (List.mem_of_getElem? h)
set_option maxHeartbeats 8000000 in
theorem close_gives {S H : Heap} {N o n y at_ c : Nat} {pt pv pr pg pe pc : Option Addr} {g : Gram} {gd em : List Bool} {co : List Nat} {wv : Value} {cs : List Value} {l0 : List It} {sets : List (List It)} (st : Stat S N pr pg pe pc g gd em co) (hw : WF n H) (hS : Sub S H) (hN : N ≤ n) (hoN : o < N) (hyN : N ≤ y)
  (ho : H o = .cells (chC pt pv pr pg pe pc g gd em co (.slice (some ⟨y, 0, none⟩) (at_ + 1) c) wv) 101 true) (hy : H y = .cells cs 108 true) (hs : SC H N cs (at_ * 2) l0) (hl : okL g at_ l0) (ha : at_ ≤ 4000) (hsl : sets.length = at_) (hsr : SR H cs sets) (hso : ∀ i s, sets[i]? = some s → okL g i s) :
  GivesX Try.prog (fun z => N ≤ z) 64 [.pointer (some ⟨o, 0, none⟩), .int .i64 (at_ : Nat)] n H fun _ _ H' => Grown N y (at_ * 2) cs H H' (closeL g gd em sets at_ l0) := by
 refine GivesX.of orders ok64 (Nat.le_of_ble_eq_true rfl) ?_
 have hon : o < n := by omega
 have hyn : y < n := Classical.byContradiction fun hc => by rw [hw y (by omega)] at hy; cases hy
 have hat : at_ < at_ + 1 := Nat.lt_succ_self _
 repeat refine qqn rfl ?_
 repeat (first | refine qqn rfl ?_ | ((first | refine qqr ?_ | refine qqt ?_); simp only [SS, qx18, vun, simprocAttr, -Int.reduceOfNat, -List.reduceReplicate, ho, ch6, aop_nc, tnc, hat, ff_64]) | (refine qqj ?_ ?_; focus (simp only [qqs, Nat.reduceEqDiff, ↓reduceIte, ho, ch6, aop_nc, tnc, hat, ff_64]; done)) | (refine qqk ?_ ?_; focus (simp only [qqs, Nat.reduceEqDiff, ↓reduceIte, ho, ch6, aop_nc, tnc, hat, ff_64]; done)))
 have hB := bndI_le (at_ := at_) st.rl st.r8
 have hrl := st.rl
 refine WK.loop (fun k2 s => ∃ (l : List It) (i : Nat), Kx (fun z => N ≤ z) n H s.n s.H ∧ s.f 0 = .pointer (some ⟨o, 0, none⟩) ∧ s.f 1 = .int .i64 (at_ : Nat) ∧ s.f 4 = .pointer (some ⟨y, at_ * 2, none⟩) ∧ s.f 5 = .int .i64 (i : Nat) ∧ Grown N y (at_ * 2) cs H s.H l ∧ okL g at_ l ∧ i ≤ bndI g at_ ∧ closeC g gd em sets at_ (bndI g at_ - i) l i = closeL g gd em sets at_ l0 ∧ k2 = bndI g at_ - i) (bndI g at_) ?_ ?_
 ·exact ⟨l0, 0, .refl _ _ _, rfl, rfl, rfl, rfl, .refl hy hs, hl, Nat.zero_le _, rfl, rfl⟩
 rintro kk ⟨f, n2, H2⟩ ⟨l, i, kx, f0, f1, f4, f5, hg2, hl2, hiB, hcl, rfl⟩ ih
 simp only at f0 f1 f4 f5 kx hg2 ih
 have hle := kx.le
 have hw2 := kx.wf hw
 have hS2 := hS.kx st.wf kx hN
 have ho2 := (kx.keep o hon (by omega)).trans ho
 have hlB := hl2.len
 obtain ⟨rk2, v2, hy2, hs2⟩ := id hg2
 obtain ⟨pp, hpp, hlr⟩ := hs2.lr
 by_cases hlt : i < l.length
 ·obtain ⟨zp, op, rfl, hzp, e3, e4⟩ := hlr.at hlt
  have hk3 := Kp.new n2 H2 (.cells (itC l[i]) 113 true)
  have hb3 := hset_at H2 n2 (.cells (itC l[i]) 113 true)
  have ho3 := (hk3.keep o (by omega)).trans ho2
  have hS3 := hS2.kp hw2 hk3
  have hw3 := hk3.wf hw2
  have hg3 := hg2.kp hw2 hk3
  have kx3 := kx.trans hk3.kx
  generalize hE : hset H2 n2 (.cells (itC l[i]) 113 true) = H3 at *
  repeat (first | refine qqn rfl ?_ | ((first | refine qqr ?_ | refine qqt ?_); simp only [SS, qx18, vun, simprocAttr, -Int.reduceOfNat, -List.reduceReplicate, f0, f1, f4, f5, hlt, hy2, hpp, hzp, e3, e4, itvc, itone, itsp, itle, ittk, itag, hb3, hE, aop_nc, tnc, ff_64]) | (refine qqj ?_ ?_; focus (simp only [qqs, Nat.reduceEqDiff, ↓reduceIte, f0, f1, f4, f5, hlt, hy2, hpp, hzp, e3, e4, itvc, itone, itsp, itle, ittk, itag, hb3, hE, aop_nc, tnc, ff_64]; done)) | (refine qqk ?_ ?_; focus (simp only [qqs, Nat.reduceEqDiff, ↓reduceIte, f0, f1, f4, f5, hlt, hy2, hpp, hzp, e3, e4, itvc, itone, itsp, itle, ittk, itag, hb3, hE, aop_nc, tnc, ff_64]; done)))
  obtain ⟨hq1, hq2, hq3⟩ := hl2.ok _ (List.getElem_mem hlt)
  have hsm : l[i].1 < 24 ∧ l[i].2.1 ≤ 8 ∧ l[i].2.2 ≤ 4000 := okI.small ⟨hq1, hq2, hq3⟩ st.rl st.r8 ha
  have hsm1 : l[i].2.1 ≤ 1000 := by omega
  have hcl' : closeC g gd em sets at_ (bndI g at_ - (i + 1)) (stepC g gd em sets at_ l l[i]) (i + 1) = closeL g gd em sets at_ l0 := by
   rw [← hcl, show bndI g at_ - i = (bndI g at_ - (i + 1)) + 1 by omega]
   show _ = (match l[i]? with | none => l | some x => closeC g gd em sets at_ (bndI g at_ - (i + 1)) (stepC g gd em sets at_ l x) (i + 1))
   rw [List.getElem?_eq_getElem hlt]
  have hok' : okL g at_ (stepC g gd em sets at_ l l[i]) := stepC_ok (fun i s _ h => hso i s h) hl2 ⟨hq1, hq2, hq3⟩
  have hwi : IntKind.wrap .i64 ((i : Int) + 1) = ((i + 1 : Nat) : Int) := by rw [wrap_in (by omega) (by omega)]; rfl
  refine AtCall.by (next_gives st hw3 hS3 ho3 hq1 hq2) ?_
  rintro w n4 H4 hk4 rfl
  have hb4 := (hk4.keep n2 (by omega)).trans hb3
  have hg4 := hg3.kp hw3 hk4
  have kx4 := kx3.trans hk4.kx
  have hw4 := hk4.wf hw3
  have hN4 : N ≤ n4 := by have := hk4.le; omega
  have hS4 := hS3.kp hw3 hk4
  have ho4 := (hk4.keep o (by omega)).trans ho3
  have hy4 := (hk4.keep y (by omega)).trans ((hk3.keep y (by omega)).trans hy2)
  cases hn : nx g l[i] with
  | none =>
   have hst : stepC g gd em sets at_ l l[i] = doneL g (lft g l[i].1) (if l[i].2.2 = at_ then l else sets.getD l[i].2.2 []) l := by unfold stepC; rw [hn]
   simp only [SS, qx18, vun, simprocAttr, -Int.reduceOfNat, -List.reduceReplicate, ff_64]
   repeat (first | refine qqn rfl ?_ | ((first | refine qqr ?_ | refine qqt ?_); simp only [SS, qx18, vun, simprocAttr, -Int.reduceOfNat, -List.reduceReplicate, f0, f1, f4, f5, Option.isSome_none, hb4, it0, it1, it2, itle, ittk, itag, ff_64]) | (refine qqj ?_ ?_; focus (simp only [qqs, Nat.reduceEqDiff, ↓reduceIte, f0, f1, f4, f5, Option.isSome_none, hb4, it0, it1, it2, itle, ittk, itag, ff_64]; done)) | (refine qqk ?_ ?_; focus (simp only [qqs, Nat.reduceEqDiff, ↓reduceIte, f0, f1, f4, f5, Option.isSome_none, hb4, it0, it1, it2, itle, ittk, itag, ff_64]; done)))
   have hps : ∃ pq, (cs.set (at_ * 2) v2)[l[i].2.2 * 2]? = some (.slice pq (if l[i].2.2 = at_ then l else sets.getD l[i].2.2 []).length (if l[i].2.2 = at_ then l else sets.getD l[i].2.2 []).length) ∧ LR H4 (.slice pq (if l[i].2.2 = at_ then l else sets.getD l[i].2.2 []).length (if l[i].2.2 = at_ then l else sets.getD l[i].2.2 []).length) (if l[i].2.2 = at_ then l else sets.getD l[i].2.2 []) ∧ okL g at_ (if l[i].2.2 = at_ then l else sets.getD l[i].2.2 []) := by
    have hr4 : RC (· = y) H H4 := hg4.1
    by_cases hia : l[i].2.2 = at_
    ·simp only [hia, if_true]
     exact ⟨_, hpp, hlr.rk ((hk3.rk hw2).trans (hk4.rk hw3)), hl2⟩
    ·simp only [hia, if_false]
     have hlt2 : l[i].2.2 < sets.length := by omega
     obtain ⟨pq, c1, c2⟩ := hsr _ hlt2
     have hgd : sets.getD l[i].2.2 [] = sets[l[i].2.2] := by rw [List.getD_eq_getElem?_getD, List.getElem?_eq_getElem hlt2]; rfl
     rw [hgd]
     refine ⟨pq, ?_, c2.rk hr4.1, (hso _ _ (List.getElem?_eq_getElem hlt2)).up (by omega)⟩
     rw [List.getElem?_set, if_neg (by omega)]
     exact c1
   obtain ⟨pq, hp1, hp2, hp3⟩ := hps
   refine AtCall.byX (done_gives (m := at_ + 1) (c := c) st hw4 hS4 hN4 hoN hyN ho4 hg4 hl2 ha ⟨hq1, hq2, hq3⟩ (by omega) (by omega) hy4 hp1 hp2 hp3.ok (small_okL hp3 st.rl st.r8 ha)) ?_
   rintro w n5 H5 kx5 ⟨_, hg5⟩
   simp only [SS, qx18, vun, simprocAttr, -Int.reduceOfNat, -List.reduceReplicate, ff_64]
   repeat (first | refine qqn rfl ?_ | ((first | refine qqr ?_ | refine qqt ?_); simp only [SS, qx18, vun, simprocAttr, -Int.reduceOfNat, -List.reduceReplicate, f5, hwi, ff_64]) | (refine qqj ?_ ?_; focus (simp only [qqs, Nat.reduceEqDiff, ↓reduceIte, f5, hwi, ff_64]; done)) | (refine qqk ?_ ?_; focus (simp only [qqs, Nat.reduceEqDiff, ↓reduceIte, f5, hwi, ff_64]; done)))
   refine ih (bndI g at_ - (i + 1)) (by omega) _ ⟨_, i + 1, kx4.trans kx5, f0, f1, f4, rfl, ?_, hok', by omega, hcl', rfl⟩
   rw [hst]; exact hg5
  | some y0 =>
   obtain ⟨hy0, hy1⟩ := nx_sym st hq1 hn
   simp only [SS, qx18, vun, simprocAttr, -Int.reduceOfNat, -List.reduceReplicate, ff_64]
   repeat (first | refine qqn rfl ?_ | ((first | refine qqr ?_ | refine qqt ?_); simp only [SS, qx18, vun, simprocAttr, -Int.reduceOfNat, -List.reduceReplicate, f0, f1, f4, f5, Option.isSome_some, Option.getD_some, hb4, it0, it1, it2, itle, ittk, itag, ff_64]) | (refine qqj ?_ ?_; focus (simp only [qqs, Nat.reduceEqDiff, ↓reduceIte, f0, f1, f4, f5, Option.isSome_some, Option.getD_some, hb4, it0, it1, it2, itle, ittk, itag, ff_64]; done)) | (refine qqk ?_ ?_; focus (simp only [qqs, Nat.reduceEqDiff, ↓reduceIte, f0, f1, f4, f5, Option.isSome_some, Option.getD_some, hb4, it0, it1, it2, itle, ittk, itag, ff_64]; done)))
   refine AtCall.by (isVar_gives y0 n4 H4) ?_
   rintro w n5 H5 hk5 ⟨rfl, rfl, rfl⟩
   simp only [SS, qx18, vun, simprocAttr, -Int.reduceOfNat, -List.reduceReplicate, ff_64]
   by_cases hv : 0 ≤ y0
   ·obtain ⟨yn, rfl⟩ := Int.eq_ofNat_of_zero_le hv
    have hst : stepC g gd em sets at_ l l[i] = (if em.getD yn false then addI (beginL g gd yn at_ l) (upI l[i]) else beginL g gd yn at_ l) := by unfold stepC; rw [hn]; simp only [hv, if_true, Int.toNat_natCast]
    have hye : yn < em.length := by rw [st.emL]; omega
    repeat (first | refine qqn rfl ?_ | ((first | refine qqr ?_ | refine qqt ?_); simp only [SS, qx18, vun, simprocAttr, -Int.reduceOfNat, -List.reduceReplicate, f0, f1, f4, f5, hv, decide_true, ff_64]) | (refine qqj ?_ ?_; focus (simp only [qqs, Nat.reduceEqDiff, ↓reduceIte, f0, f1, f4, f5, hv, decide_true, ff_64]; done)) | (refine qqk ?_ ?_; focus (simp only [qqs, Nat.reduceEqDiff, ↓reduceIte, f0, f1, f4, f5, hv, decide_true, ff_64]; done)))
    refine AtCall.byX (cbegin_gives st hw4 hS4 hN4 hoN hyN ho4 hg4 hl2 ha) ?_
    rintro w n6 H6 kx6 ⟨rc6, hg6⟩
    have hb6 := rc6.2 _ _ _ _ (by omega) hb4
    have ho6 := (kx6.keep o (by omega) (by omega)).trans ho4
    have hS6 := hS4.kx st.wf kx6 hN4
    obtain ⟨z, kz, ds, tz, oz, rfl, hz, e⟩ := (st.emA.sub hS6).at hye
    cases hem : em[yn] with
    | false =>
     rw [hem] at e
     simp only [SS, qx18, vun, simprocAttr, -Int.reduceOfNat, -List.reduceReplicate, ff_64]
     repeat (first | refine qqn rfl ?_ | ((first | refine qqr ?_ | refine qqt ?_); simp only [SS, qx18, vun, simprocAttr, -Int.reduceOfNat, -List.reduceReplicate, f0, f1, f4, f5, hwi, ho6, ch4, hye, hz, e, aop_nc, tnc, ff_64]) | (refine qqj ?_ ?_; focus (simp only [qqs, Nat.reduceEqDiff, ↓reduceIte, f0, f1, f4, f5, hwi, ho6, ch4, hye, hz, e, aop_nc, tnc, ff_64]; done)) | (refine qqk ?_ ?_; focus (simp only [qqs, Nat.reduceEqDiff, ↓reduceIte, f0, f1, f4, f5, hwi, ho6, ch4, hye, hz, e, aop_nc, tnc, ff_64]; done)))
     have hst2 : em.getD yn false = false := by rw [List.getD_eq_getElem?_getD, List.getElem?_eq_getElem hye, hem]; rfl
     refine ih (bndI g at_ - (i + 1)) (by omega) _ ⟨_, i + 1, kx4.trans kx6, f0, f1, f4, rfl, ?_, hok', by omega, hcl', rfl⟩
     rw [hst, hst2, if_neg (by simp)]; exact hg6
    | true =>
     rw [hem] at e
     have hst2 : em.getD yn false = true := by rw [List.getD_eq_getElem?_getD, List.getElem?_eq_getElem hye, hem]; rfl
     simp only [SS, qx18, vun, simprocAttr, -Int.reduceOfNat, -List.reduceReplicate, ff_64]
     repeat (first | refine qqn rfl ?_ | ((first | refine qqr ?_ | refine qqt ?_); simp only [SS, qx18, vun, simprocAttr, -Int.reduceOfNat, -List.reduceReplicate, f0, f1, f4, f5, hwi, ho6, ch4, hye, hz, e, aop_nc, tnc, hb6, it0, it1, it2, itup _ hsm1, ff_64]) | (refine qqj ?_ ?_; focus (simp only [qqs, Nat.reduceEqDiff, ↓reduceIte, f0, f1, f4, f5, hwi, ho6, ch4, hye, hz, e, aop_nc, tnc, hb6, it0, it1, it2, itup _ hsm1, ff_64]; done)) | (refine qqk ?_ ?_; focus (simp only [qqs, Nat.reduceEqDiff, ↓reduceIte, f0, f1, f4, f5, hwi, ho6, ch4, hye, hz, e, aop_nc, tnc, hb6, it0, it1, it2, itup _ hsm1, ff_64]; done)))
     refine AtCall.byX (add_grown (x := upI l[i]) (kx6.wf hw4) (by have := kx6.le; omega) hyN hg6 ⟨by show l[i].1 ≤ 1000000; omega, by show l[i].2.1 + 1 ≤ 1000000; omega, by show l[i].2.2 ≤ 1000000; omega⟩ (small_okL (beginN_ok hl2 _ (Nat.le_refl _)) st.rl st.r8 ha)) ?_
     rintro w n7 H7 kx7 ⟨_, hg7⟩
     simp only [SS, qx18, vun, simprocAttr, -Int.reduceOfNat, -List.reduceReplicate, ff_64]
     repeat (first | refine qqn rfl ?_ | ((first | refine qqr ?_ | refine qqt ?_); simp only [SS, qx18, vun, simprocAttr, -Int.reduceOfNat, -List.reduceReplicate, f5, hwi, ff_64]) | (refine qqj ?_ ?_; focus (simp only [qqs, Nat.reduceEqDiff, ↓reduceIte, f5, hwi, ff_64]; done)) | (refine qqk ?_ ?_; focus (simp only [qqs, Nat.reduceEqDiff, ↓reduceIte, f5, hwi, ff_64]; done)))
     refine ih (bndI g at_ - (i + 1)) (by omega) _ ⟨_, i + 1, (kx4.trans kx6).trans kx7, f0, f1, f4, rfl, ?_, hok', by omega, hcl', rfl⟩
     rw [hst, hst2, if_pos rfl]; exact hg7
   ·have hst : stepC g gd em sets at_ l l[i] = l := by unfold stepC; rw [hn]; simp only [hv, if_false]
    repeat (first | refine qqn rfl ?_ | ((first | refine qqr ?_ | refine qqt ?_); simp only [SS, qx18, vun, simprocAttr, -Int.reduceOfNat, -List.reduceReplicate, f0, f1, f4, f5, hv, decide_false, hwi, ff_64]) | (refine qqj ?_ ?_; focus (simp only [qqs, Nat.reduceEqDiff, ↓reduceIte, f0, f1, f4, f5, hv, decide_false, hwi, ff_64]; done)) | (refine qqk ?_ ?_; focus (simp only [qqs, Nat.reduceEqDiff, ↓reduceIte, f0, f1, f4, f5, hv, decide_false, hwi, ff_64]; done)))
    refine ih (bndI g at_ - (i + 1)) (by omega) _ ⟨_, i + 1, kx4, f0, f1, f4, rfl, ?_, hok', by omega, hcl', rfl⟩
    rw [hst]; exact hg4
 ·repeat (first | refine qqn rfl ?_ | ((first | refine qqr ?_ | refine qqt ?_); simp only [SS, qx18, vun, simprocAttr, -Int.reduceOfNat, -List.reduceReplicate, f0, f1, f4, f5, hlt, hy2, hpp, aop_nc, tnc, ff_64]) | (refine qqj ?_ ?_; focus (simp only [qqs, Nat.reduceEqDiff, ↓reduceIte, f0, f1, f4, f5, hlt, hy2, hpp, aop_nc, tnc, ff_64]; done)) | (refine qqk ?_ ?_; focus (simp only [qqs, Nat.reduceEqDiff, ↓reduceIte, f0, f1, f4, f5, hlt, hy2, hpp, aop_nc, tnc, ff_64]; done)))
  (first | refine WK.retNil ⟨Or.inr rfl, _, rfl, ?_, ?_⟩ | refine WK.skipNil ⟨Or.inl rfl, _, rfl, ?_, ?_⟩)
  ·exact kx.keep
  ·rw [closeC_end _ (by omega)] at hcl
   rw [← hcl]
   exact hg2
end Go.Proofs.Ytemkglelfeidhaa
