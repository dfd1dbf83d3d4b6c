/- A part of a proof. Its conditions: none. -/
import Derived.Test.YtemkglelfeidhaaAmJChGood
import Derived.Test.YtemkglelfeidhaaAmJLfPrice
import Derived.Test.YtemkglelfeidhaaAmJLfCostW
import Derived.Test.YtemkglelfeidhaaAmJFoSums
import Derived.Test.YtemkglelfeidhaaAmC
set_option linter.all false
namespace Go.Proofs.Ytemkglelfeidhaa
open Go.AM Go.RowKit
set_option maxRecDepth 100000
open Classical in
noncomputable def bP (n : Nat) (p : Int → Prop) : List Bool := (List.range n).map fun (v : Nat) => decide (p v)
noncomputable def emG (g : Gram) : List Bool := bP g.vars.length (Nul g)
noncomputable def wdG (g : Gram) : List Bool := bP g.vars.length (Prd g)
noncomputable def gdG (g : Gram) : List Bool := g.rules.map fun r => prdB r.right (wdG g)
open Classical in
theorem bP_of {n : Nat} {p : Int → Prop} {hs : List Bool} (hl : hs.length = n) (h : ∀ v, hold hs v ↔ p v) : hs = bP n p := by
 apply List.ext_getElem (by unfold bP; simpa using hl)
 intro i h1 h2
 simp only [bP]
 rw [List.getElem_map, List.getElem_range, Bool.eq_iff_iff, decide_eq_true_iff, ← h]
 unfold hold
 rw [List.getD_eq_getElem?_getD, Int.toNat_natCast, List.getElem?_eq_getElem h1]
 simp
theorem gdG_len (g : Gram) : (gdG g).length = g.rules.length := by unfold gdG; simp
theorem gdG_at {g : Gram} {i : Nat} (h : i < g.rules.length) : (gdG g)[i]'(by rw [gdG_len]; exact h) = prdB g.rules[i].right (wdG g) := by unfold gdG; rw [List.getElem_map]
section
variable {pt pv pr pg pe pc : Option Addr} {g : Gram} {gd em : List Bool} {co : List Nat} {sv wv : Value}
theorem chz : Go.AM.splice [Value.slice none 0 0, Value.slice none 0 0, Value.slice none 0 0, Value.slice none 0 0, Value.slice none 0 0, Value.slice none 0 0, Value.slice none 0 0, Value.slice none 0 0] 0 (gcells pt pv pr g) = chC pt pv pr none none none g [] [] [] (.slice none 0 0) (.slice none 0 0) := rfl
theorem chs4 (p : Option Addr) (l : List Bool) : (chC pt pv pr pg pe pc g gd em co sv wv).set 4 (.slice p l.length l.length) = chC pt pv pr pg p pc g gd l co sv wv := rfl
theorem chs5 (p : Option Addr) (l : List Nat) : (chC pt pv pr pg pe pc g gd em co sv wv).set 5 (.slice p l.length l.length) = chC pt pv pr pg pe p g gd em l sv wv := rfl
theorem chv : vcells (.agg (chC pt pv pr pg pe pc g gd em co sv wv).toArray) = chC pt pv pr pg pe pc g gd em co sv wv := rfl
theorem cho : (chC pt pv pr pg pe pc g gd em co (.slice none 0 0) (.slice none 0 0)).all one = true := rfl
theorem chn5 : ((chC pt pv pr pg pe pc g gd em co sv wv).length < 5) = False := by rw [chl]; simp
end
theorem RightOK.up {g : Gram} (h : RightOK g) : ∀ i j (hi : i < g.rules.length) (hj : j < g.rules.length), i ≤ j → g.rules[i].left ≤ g.rules[j].left := by
  intro i j hi hj hij
  induction j with
  | zero => have : i = 0 := by omega
            subst this; exact Int.le_refl _
  | succ j ih =>
    by_cases e : i = j + 1
    · subst e; exact Int.le_refl _
    · exact Int.le_trans (ih (by omega) (by omega)) ((h.rule (j + 1) hj).up j rfl _ (List.getElem?_eq_getElem (by omega)))
def GV (H : Heap) (B : Nat) (pg : Option Addr) (l : List Bool) : Prop := (l = [] ∧ pg = none) ∨ (l ≠ [] ∧ ∃ z, pg = some ⟨z, 0, none⟩ ∧ B ≤ z ∧ H z = .cells (l.map .bool) 4 true)
set_option maxHeartbeats 8000000 in
theorem cnew_gives {g : Gram} {n : Nat} {H : Heap} {v : Value} (hw : WF n H) (hg : RG H v g) (wg : WG g) (ok : RightOK g) (hf : few g = true) :
    Gives Try.prog 38 [v] n H fun r n' H' => ∃ (S : Heap) (N o y x : Nat) (pt pv pr pg pe pc : Option Addr) (co : List Nat), r = .pointer (some ⟨o, 0, none⟩) ∧ Stat S N pr pg pe pc g (gdG g) (emG g) co ∧ S o = .dead ∧ Sub S H' ∧ N ≤ n' ∧ o < N ∧ n ≤ o ∧ n ≤ y ∧ n ≤ x ∧ CHR H' N o y x pt pv pr pg pe pc g (gdG g) (emG g) co (newS g (gdG g) (emG g)) [] ∧ (∃ b, CostOK g (cF co) b) ∧ Sub H S ∧ v = .agg (gcells pt pv pr g).toArray := by
  have hg0 := hg
  obtain ⟨pt, pv, pr, rfl, ht, hv, hr⟩ := hg
  refine Gives.of orders ok38 (Nat.le_of_ble_eq_true rfl) ?_
  have hk := Kp.new n H (.cells (gcells pt pv pr g) 25 true)
  have hb := hset_at H n (.cells (gcells pt pv pr g) 25 true)
  have hw1 := hk.wf hw
  have hg1 := hg0.mono hw hk
  repeat refine qqn rfl ?_
  (refine qqr ?_; simp only [SS, qx19, vun, simprocAttr, box_cells, box_one, ff_38])
  generalize hset H n (.cells (gcells pt pv pr g) 25 true) = H1 at *
  repeat (first | refine qqm rfl ?_ | ((first | refine qqr ?_ | refine qqt ?_); simp only [SS, qx19, vun, simprocAttr, hb, gc_len, gc_all, ff_38]))
  refine AtCall.by (nullable_gives hw1 hg1 wg ok) ?_
  rintro v n2 H2 hk2 ⟨hs, x1, hx1, hx2, rfl, hsl, hxs, hsn⟩
  obtain rfl := bP_of hsl hsn
  rw [← hsl]
  have hxb : x1 ≠ n2 := by omega
  have kA := Kp.new n2 H2 (.cells (chC pt pv pr none (some ⟨x1, 0, none⟩) none g [] (emG g) [] (.slice none 0 0) (.slice none 0 0)) 101 true)
  have oA := hset_at H2 n2 (.cells (chC pt pv pr none (some ⟨x1, 0, none⟩) none g [] (emG g) [] (.slice none 0 0) (.slice none 0 0)) 101 true)
  change (bP g.vars.length (Nul g)).length = _ at hsl
  have hcomm : (bP g.vars.length (Nul g)) = emG g := rfl
  rw [hcomm] at hsl hxs
  have xA := (kA.keep x1 hx2).trans hxs
  have bA := (kA.keep n (by have := hk2.le; omega)).trans ((hk2.keep n (by omega)).trans hb)
  have k1 := hk.trans (hk2.trans kA)
  generalize hA : hset H2 n2 (.cells (chC pt pv pr none (some ⟨x1, 0, none⟩) none g [] (emG g) [] (.slice none 0 0) (.slice none 0 0)) 101 true) = HA at *
  simp only [SS, qx19, vun, simprocAttr, gc_len, gc_all, chz, chn5, chs4, chv, cho, hcomm, hA, ff_38]
  repeat (first | refine qqm rfl ?_ | ((first | refine qqr ?_ | refine qqt ?_); simp only [SS, qx19, vun, simprocAttr, hA, bA, gc_len, gc_all, ff_38]))
  have hwA := k1.wf hw
  have hgA := hg0.mono hw k1
  refine AtCall.by (cost_gives hwA hgA wg ok) ?_
  rintro v n3 H3 hk3 ⟨cl, bl, rfl, hcl, hbl, hcll, hbll, hcost, hbest⟩
  rw [← hcll]
  have o3 := (hk3.keep n2 (by omega)).trans oA
  have x3 := (hk3.keep x1 (by omega)).trans xA
  have b3 := (hk3.keep n (by have := hk2.le; omega)).trans bA
  have k3 := k1.trans hk3
  have hle3 := hk3.le
  have hcl3 : n2 + 1 + 1 < n3 := Classical.byContradiction fun hc => by rw [(k3.wf hw) (n2 + 1 + 1) (by omega)] at hcl; cases hcl
  have oB := hset_at H3 n2 (.cells (chC pt pv pr none (some ⟨x1, 0, none⟩) (some ⟨n2 + 1 + 1, 0, none⟩) g [] (emG g) cl (.slice none 0 0) (.slice none 0 0)) 101 true)
  have nB := fun z (hz : z ≠ n2) => hset_ne H3 n2 (.cells (chC pt pv pr none (some ⟨x1, 0, none⟩) (some ⟨n2 + 1 + 1, 0, none⟩) g [] (emG g) cl (.slice none 0 0) (.slice none 0 0)) 101 true) hz
  have kB := k3.set (x := n2) (.cells (chC pt pv pr none (some ⟨x1, 0, none⟩) (some ⟨n2 + 1 + 1, 0, none⟩) g [] (emG g) cl (.slice none 0 0) (.slice none 0 0)) 101 true) (by have := hk2.le; omega) (by omega)
  have h6 : ∀ sv wv, 6 ≤ (chC pt pv pr none (some ⟨x1, 0, none⟩) none g [] (emG g) [] sv wv).length := fun sv wv => by rw [chl]; omega
  generalize hB : hset H3 n2 (.cells (chC pt pv pr none (some ⟨x1, 0, none⟩) (some ⟨n2 + 1 + 1, 0, none⟩) g [] (emG g) cl (.slice none 0 0) (.slice none 0 0)) 101 true) = HB at *
  have xB := (nB x1 hxb).trans x3
  have bB := (nB n (by have := hk2.le; omega)).trans b3
  have cB := (nB (n2 + 1 + 1) (by omega)).trans hcl
  have hwB := kB.wf hw
  simp only [SS, qx19, vun, simprocAttr, o3, h6, chs5, hB, aop_nc, tnc, ff_38]
  repeat (first | refine qqm rfl ?_ | ((first | refine qqr ?_ | refine qqt ?_); simp only [SS, qx19, vun, simprocAttr, hB, bB, gc_len, gc_all, ff_38]))
  refine AtCall.by (productive_gives hwB (hg0.mono hw kB) wg ok) ?_
  rintro v n4 H4 hk4 ⟨ws, x4, hx4, hx4', rfl, hwl, hxw, hwn⟩
  obtain rfl := bP_of hwl hwn
  rw [← hwl]
  change (wdG g).length = _ at hwl
  have hcomw : (bP g.vars.length (Prd g)) = wdG g := rfl
  rw [hcomw] at hxw ⊢
  have k5 := Kp.new n4 H4 (.cells [.slice (some ⟨x4, 0, none⟩) (wdG g).length (wdG g).length] 97 true)
  have w5 := hset_at H4 n4 (.cells [.slice (some ⟨x4, 0, none⟩) (wdG g).length (wdG g).length] 97 true)
  have hk45 := hk4.trans k5
  have o5 := (hk45.keep n2 (by omega)).trans oB
  have x5 := (hk45.keep x1 (by omega)).trans xB
  have b5 := (hk45.keep n (by have := hk2.le; omega)).trans bB
  have c5 := (hk45.keep (n2 + 1 + 1) (by omega)).trans cB
  have y5 := (k5.keep x4 hx4').trans hxw
  have k0 := kB.trans hk45
  generalize hE : hset H4 n4 (.cells [.slice (some ⟨x4, 0, none⟩) (wdG g).length (wdG g).length] 97 true) = H5 at *
  simp only [SS, qx19, vun, simprocAttr, ff_38]
  repeat (first | refine qqm rfl ?_ | ((first | refine qqr ?_ | refine qqt ?_); simp only [SS, qx19, vun, simprocAttr, hE, b5, gc_2, ff_38]))
  have h2n := hk2.le
  have h4n := hk45.le
  refine WK.loop (fun k s => ∃ (i : Nat) (pg : Option Addr), Kx (· = n2) (n4 + 1) H5 s.n s.H ∧ s.f 3 = .pointer (some ⟨n2, 0, none⟩) ∧ s.f 4 = .pointer (some ⟨n4, 0, none⟩) ∧ s.f 24 = .slice pr g.rules.length g.rules.length ∧ s.f 25 = .int .i64 (g.rules.length : Nat) ∧ s.f 26 = .int .i64 (i : Nat) ∧ i ≤ g.rules.length ∧
    s.H n2 = .cells (chC pt pv pr pg (some ⟨x1, 0, none⟩) (some ⟨n2 + 1 + 1, 0, none⟩) g ((gdG g).take i) (emG g) cl (.slice none 0 0) (.slice none 0 0)) 101 true ∧ GV s.H (n4 + 1) pg ((gdG g).take i) ∧ k = g.rules.length - i) g.rules.length ?_ ?_
  · exact ⟨0, none, .refl _ _ _, rfl, rfl, rfl, rfl, rfl, Nat.zero_le _, o5, .inl ⟨rfl, rfl⟩, rfl⟩
  rintro kk ⟨f, n6, H6⟩ ⟨i, pg, kx, f3, f4, f24, f25, f26, hi, o6, hgv, rfl⟩ ih
  simp only at f3 f4 f24 f25 f26 kx o6 hgv ih
  have hle6 := kx.le
  have hw5 := k0.wf hw
  have hw6 := kx.wf hw5
  have hgl := gdG_len g
  have hfew := hf
  unfold few at hfew
  simp only [Bool.and_eq_true, decide_eq_true_eq, List.all_eq_true] at hfew
  obtain ⟨⟨⟨hfv, hft⟩, hfr⟩, hf8⟩ := hfew
  have hin := ok.inG
  by_cases hil : i < g.rules.length
  · have hr6 : RR H6 pr g.rules := hr.sub fun x hx => by
      have hxn : x < n := Classical.byContradiction fun hc => hx (hw x (by omega))
      exact (kx.keep x (by omega) (by omega)).trans (k0.keep x hxn)
    obtain ⟨z, kz, ds, tz, oz, p, rfl, hz, d0, d1, d2, hp⟩ := hr6.at hil
    have d3 := take3 d0 d1 d2
    have d4 : kz + i * 3 + 3 ≤ ds.length := by have := (List.getElem?_eq_some_iff.1 d2).1; omega
    have kR := Kp.new n6 H6 (.cells [.int .i64 g.rules[i].left, .slice p g.rules[i].right.length g.rules[i].right.length, .float .f64 g.rules[i].weight] 49 true)
    have bR := hset_at H6 n6 (.cells [.int .i64 g.rules[i].left, .slice p g.rules[i].right.length g.rules[i].right.length, .float .f64 g.rules[i].weight] 49 true)
    have o7 := (kR.keep n2 (by omega)).trans o6
    have kx7 := kx.trans kR.kx
    have hp7 := hp.mono hw6 kR
    have w7 := (kx7.keep n4 (by omega) (by omega)).trans w5
    have y7 := (kx7.keep x4 (by omega) (by omega)).trans y5
    have hw7 := kR.wf hw6
    generalize hR : hset H6 n6 (.cells [.int .i64 g.rules[i].left, .slice p g.rules[i].right.length g.rules[i].right.length, .float .f64 g.rules[i].weight] 49 true) = H7 at *
    repeat (first | refine qqm rfl ?_ | ((first | refine qqr ?_ | refine qqt ?_); simp only [SS, qx19, vun, simprocAttr, f3, f4, f24, f25, f26, hil, hz, d3, d4, hR, bR, o7, ch3, aop_nc, tnc, ff_38]))
    have hmem := List.getElem_mem hil
    refine AtCall.by (contains_gives (p := fun s => !(decide (s < 0) || (wdG g).getD s.toNat false)) (captured := [.pointer (some ⟨n4, 0, none⟩)]) (wg.right _ hmem).1 hw7 hp7 fun s hs n1 H1 k => good1_gives ((k.keep n4 (by omega)).trans w7) ((k.keep x4 (by omega)).trans y7) (by rw [hwl]; exact hin.right _ hmem s hs)) ?_
    rintro v n8 H8 hk8 rfl
    have hprd : (!g.rules[i].right.any fun s => !(decide (s < 0) || (wdG g).getD s.toNat false)) = (gdG g)[i]'(by rw [hgl]; exact hil) := by
      rw [gdG_at hil]
      unfold prdB
      rw [List.all_eq_not_any_not]
    have htk : (gdG g).take (i + 1) = (gdG g).take i ++ [(gdG g)[i]'(by rw [hgl]; exact hil)] := List.take_succ_eq_append_getElem (by rw [hgl]; exact hil)
    generalize (gdG g)[i]'(by rw [hgl]; exact hil) = b at *
    have hLi : ((gdG g).take i).length = i := by rw [List.length_take, hgl]; omega
    have hiw : IntKind.wrap .i64 ((i : Int) + 1) = ((i + 1 : Nat) : Int) := by rw [wrap_in (by omega) (by omega)]; rfl
    generalize (gdG g).take i = L at *
    have hle8 := hk8.le
    have o8 := (hk8.keep n2 (by omega)).trans o7
    have kx8 := kx7.trans hk8.kx
    have kC := Kp.new n8 H8 (.cells [.bool b] 4 true)
    have bC := hset_at H8 n8 (.cells [.bool b] 4 true)
    have oC := (kC.keep n2 (by omega)).trans o8
    have kxC := kx8.trans kC.kx
    have u1 : vcells (Value.bool b) = [Value.bool b] := rfl
    have u2 : ([Value.bool b] : List Value).length = 1 := rfl
    have u3 : ([Value.bool b] : List Value).all one = true := rfl
    have u4 : Go.AM.splice [Value.bool false] 0 [Value.bool b] = [Value.bool b] := rfl
    have u5 : ([Value.bool b] : List Value).take 1 = [Value.bool b] := rfl
    have ch4' : ∀ l sv wv p, 4 ≤ (chC pt pv (some ⟨z, kz, none⟩) p (some ⟨x1, 0, none⟩) (some ⟨n2 + 1 + 1, 0, none⟩) g l (emG g) cl sv wv).length := fun l sv wv p => by rw [chl]; omega
    rcases hgv with ⟨rfl, rfl⟩ | ⟨hne, zg, rfl, hzg, hzc⟩
    · have kD := Kp.new (n8 + 1) (hset H8 n8 (.cells [.bool b] 4 true)) (.cells [.bool b] 4 true)
      have bD := hset_at (hset H8 n8 (.cells [.bool b] 4 true)) (n8 + 1) (.cells [.bool b] 4 true)
      have oD := (kD.keep n2 (by omega)).trans oC
      have kxD := kxC.trans kD.kx
      generalize hC : hset H8 n8 (.cells [.bool b] 4 true) = HC at *
      generalize hD : hset HC (n8 + 1) (.cells [.bool b] 4 true) = HD at *
      have s3 : ∀ sv wv, (chC pt pv (some ⟨z, kz, none⟩) none (some ⟨x1, 0, none⟩) (some ⟨n2 + 1 + 1, 0, none⟩) g [] (emG g) cl sv wv).set 3 (.slice (some ⟨n8 + 1, 0, none⟩) 1 1) = chC pt pv (some ⟨z, kz, none⟩) (some ⟨n8 + 1, 0, none⟩) (some ⟨x1, 0, none⟩) (some ⟨n2 + 1 + 1, 0, none⟩) g [b] (emG g) cl sv wv := fun sv wv => rfl
      simp only [SS, qx19, vun, simprocAttr, hprd, List.length_nil, u1, u2, u3, u4, u5, hC, bC, hD, oD, ch4', s3, List.drop_zero, aop_nc, tnc, ff_38]
      repeat (first | refine qqm rfl ?_ | ((first | refine qqr ?_ | refine qqt ?_); simp only [SS, qx19, vun, simprocAttr, f26, hiw, ff_38]))
      refine ih (g.rules.length - (i + 1)) (by omega) _ ⟨i + 1, some ⟨n8 + 1, 0, none⟩, kxD.set (x := n2) _ (.inl rfl) (by omega), f3, f4, f24, f25, ?_, hil, ?_, ?_, rfl⟩
      · simp only [packed, fset_apply, Nat.reduceEqDiff, ↓reduceIte, List.getD_cons_zero, List.getD_cons_succ, f26, hiw, ff_38]
      · rw [htk]; exact hset_at _ _ _
      · rw [htk]
        exact .inr ⟨by simp, n8 + 1, rfl, by omega, (hset_ne _ _ _ (by omega)).trans bD⟩
    · have hzn : zg < n6 := Classical.byContradiction fun hc => by rw [hw6 zg (by omega)] at hzc; cases hzc
      have hz8 : H8 zg = .cells (L.map .bool) 4 true := ((hk8.keep zg (by omega)).trans (kR.keep zg hzn)).trans hzc
      have zC := (kC.keep zg (by omega)).trans hz8
      generalize hC : hset H8 n8 (.cells [.bool b] 4 true) = HC at *
      have oC1 := (hset_ne HC zg .dead (x := n2) (by omega)).trans oC
      have kxC1 := kxC.trans (Kx.refl (· = n2) (n8 + 1) HC)
      have kxC2 : Kx (· = n2) (n4 + 1) H5 (n8 + 1) (hset HC zg .dead) := kxC1.set (x := zg) .dead (.inr hzg) (by omega)
      generalize hC1 : hset HC zg .dead = HC1 at *
      have kD := Kp.new (n8 + 1) HC1 (.cells (L.map .bool ++ [.bool b]) 4 true)
      have bD := hset_at HC1 (n8 + 1) (.cells (L.map .bool ++ [.bool b]) 4 true)
      have oD := (kD.keep n2 (by omega)).trans oC1
      have kxD := kxC2.trans kD.kx
      generalize hD : hset HC1 (n8 + 1) (.cells (L.map .bool ++ [.bool b]) 4 true) = HD at *
      have s3 : ∀ sv wv, (chC pt pv (some ⟨z, kz, none⟩) (some ⟨zg, 0, none⟩) (some ⟨x1, 0, none⟩) (some ⟨n2 + 1 + 1, 0, none⟩) g L (emG g) cl sv wv).set 3 (.slice (some ⟨n8 + 1, 0, none⟩) (L.length + 1) (L.length + 1)) = chC pt pv (some ⟨z, kz, none⟩) (some ⟨n8 + 1, 0, none⟩) (some ⟨x1, 0, none⟩) (some ⟨n2 + 1 + 1, 0, none⟩) g (L ++ [b]) (emG g) cl sv wv := fun sv wv => by
        rw [show L.length + 1 = (L ++ [b]).length by simp]; rfl
      have v1 : L.length + 1 ≤ bigN := by unfold bigN; omega
      have v2 : [n8].contains zg = false := by simp; omega
      have v3 : (L.map Value.bool).take L.length = L.map Value.bool := List.take_of_length_le (by simp)
      have v4 : L.length ≤ (L.map Value.bool).length := by simp
      simp only [SS, qx19, vun, simprocAttr, hprd, u1, u2, u3, u4, u5, hC, bC, zC, hC1, hD, oD, ch4', s3, v1, v2, v3, v4, List.drop_zero, aop_nc, tnc, ff_38]
      repeat (first | refine qqm rfl ?_ | ((first | refine qqr ?_ | refine qqt ?_); simp only [SS, qx19, vun, simprocAttr, f26, hiw, ff_38]))
      refine ih (g.rules.length - (i + 1)) (by omega) _ ⟨i + 1, some ⟨n8 + 1, 0, none⟩, kxD.set (x := n2) _ (.inl rfl) (by omega), f3, f4, f24, f25, ?_, hil, ?_, ?_, rfl⟩
      · simp only [packed, fset_apply, Nat.reduceEqDiff, ↓reduceIte, List.getD_cons_zero, List.getD_cons_succ, f26, hiw, ff_38]
      · rw [htk]; exact hset_at _ _ _
      · rw [htk]
        exact .inr ⟨by simp, n8 + 1, rfl, by omega, (hset_ne _ _ _ (by omega)).trans (bD.trans (by simp))⟩
  · have hie : i = g.rules.length := by omega
    have htk : (gdG g).take i = gdG g := List.take_of_length_le (by omega)
    rw [htk] at o6 hgv
    have hnd : ∀ {z cs ty own}, H6 z = .cells cs ty own → z < n6 := fun {z cs ty own} e => Classical.byContradiction fun hc => by rw [hw6 z (by omega)] at e; cases e
    have x6 := (kx.keep x1 (by omega) (by omega)).trans x5
    have c6 := (kx.keep (n2 + 1 + 1) (by omega) (by omega)).trans c5
    have sN : ∀ z, z ≠ n2 → hset H6 n2 .dead z = H6 z := fun z hz => hset_ne _ _ _ hz
    have st : Stat (hset H6 n2 .dead) n6 pr pg (some ⟨x1, 0, none⟩) (some ⟨n2 + 1 + 1, 0, none⟩) g (gdG g) (emG g) cl := {
      wf := fun z hz => (sN z (by omega)).trans (hw6 z hz)
      rr := hr.sub fun x hx => by
        have hxn : x < n := Classical.byContradiction fun hc => hx (hw x (by omega))
        exact (sN x (by omega)).trans ((kx.keep x (by omega) (by omega)).trans (k0.keep x hxn))
      gdA := fun hne => by
        rcases hgv with ⟨h, _⟩ | ⟨_, z, rfl, hz, hzc⟩
        · exact absurd h hne
        · exact ⟨z, 0, _, _, _, rfl, (sN z (by omega)).trans hzc, fun i y hi => by rw [Nat.zero_add, List.getElem?_map, hi]; rfl⟩
      emA := fun _ => ⟨x1, 0, _, _, _, rfl, (sN x1 (by omega)).trans x6, fun i y hi => by rw [Nat.zero_add, List.getElem?_map, hi]; rfl⟩
      coA := fun _ => ⟨n2 + 1 + 1, 0, _, _, _, rfl, (sN _ (by omega)).trans c6, fun i y hi => by rw [Nat.zero_add, List.getElem?_map, hi]; rfl⟩
      gdL := hgl
      emL := hsl
      coL := hcll
      rl := hfr
      r8 := hf8
      sym := fun r hr s hs => ⟨(wg.right r hr).2 s hs, hin.right r hr s hs⟩
      left := fun r hr => ⟨hin.left0 r hr, hin.left1 r hr⟩
      up := ok.up
      vl := hfv }
    have hS6 : Sub (hset H6 n2 .dead) H6 := fun z hz => (sN z (by rintro rfl; exact hz (hset_at _ _ _))).symm
    have kM := Kp.new n6 H6 (MO [])
    have bM := hset_at H6 n6 (MO [])
    have wM := kM.wf hw6
    have hmk := make_it n6
    generalize hM : hset H6 n6 (MO []) = HM at *
    have kS := Kp.new (n6 + 1) HM (.cells [.slice none 0 0, .map (some n6)] 108 true)
    have bS := hset_at HM (n6 + 1) (.cells [.slice none 0 0, .map (some n6)] 108 true)
    have bMS := (kS.keep n6 (by omega)).trans bM
    have wS := kS.wf wM
    have kk := kM.trans kS
    have oS := (kk.keep n2 (by omega)).trans o6
    have hSS := hS6.kp hw6 kk
    generalize hS' : hset HM (n6 + 1) (.cells [.slice none 0 0, .map (some n6)] 108 true) = HS at *
    have hspl : Go.AM.splice [Value.slice none 0 0, Value.map none] 0 (Go.AM.splice [Value.slice none 0 0, Value.map none] 1 (vcells (Value.map (some n6)))) = [.slice none 0 0, .map (some n6)] := rfl
    repeat (first | refine qqm rfl ?_ | ((first | refine qqr ?_ | refine qqt ?_); simp only [SS, qx19, vun, simprocAttr, f25, f26, hil, f3, aop_makemap, hmk, hM, hspl, hS', ff_38]))
    have hgS : Grown n6 (n6 + 1) 0 [.slice none 0 0, .map (some n6)] HS HS [] := .refl bS ⟨_, n6, rfl, rfl, Nat.le_refl _, bMS, .inl ⟨rfl, rfl⟩⟩
    refine AtCall.byX (cbegin_gives (at_ := 0) (v := 0) st wS hSS (by omega) (by omega) (by omega) oS hgS (.nil g 0) (by omega)) ?_
    rintro wq n9 H9 kx9 ⟨rc9, hg9⟩
    have o9 := (kx9.keep n2 (by omega) (by omega)).trans oS
    have hS9 := hSS.kx st.wf kx9 (by omega)
    have w9 := kx9.wf wS
    have hle9 := kx9.le
    have hLok := beginN_ok (gd := gdG g) (v := 0) (okL.nil g 0) g.rules.length (Nat.le_refl _)
    change okL g 0 (beginL g (gdG g) 0 0 []) at hLok
    have hnew : newS g (gdG g) (emG g) = [closeL g (gdG g) (emG g) [] 0 (beginL g (gdG g) 0 0 [])] := rfl
    rw [hnew]
    generalize beginL g (gdG g) 0 0 [] = L at *
    obtain ⟨_, v9, b9, s9⟩ := hg9
    obtain ⟨pl, hpl, _⟩ := s9.lr
    have hv9 : v9 = .slice pl L.length L.length := by simpa using hpl
    subst hv9
    obtain ⟨vq, mq, q0, q1, q2, hmo, hlv⟩ := s9
    have hq0 : Value.slice pl L.length L.length = vq := by simpa using q0
    have hq1 : n6 = mq := by simpa using q1
    subst hq0; subst hq1
    simp only [SS, qx19, vun, simprocAttr, ff_38]
    have b9' : H9 (n6 + 1) = .cells [.slice pl L.length L.length, .map (some n6)] 108 true := b9
    have e1 : ([Value.slice pl L.length L.length, .map (some n6)] : List Value).take 2 = [.slice pl L.length L.length, .map (some n6)] := rfl
    have e2 : (2 : Nat) ≤ ([Value.slice pl L.length L.length, .map (some n6)] : List Value).length := Nat.le_refl _
    have e3 : vcells (Value.agg #[.slice pl L.length L.length, .map (some n6)]) = [.slice pl L.length L.length, .map (some n6)] := rfl
    have e4 : ([Value.slice pl L.length L.length, .map (some n6)] : List Value).length = 2 := rfl
    have e5 : ([Value.slice pl L.length L.length, .map (some n6)] : List Value).all one = true := rfl
    have e6 : Go.AM.splice [Value.slice none 0 0, Value.map none] 0 [Value.slice pl L.length L.length, .map (some n6)] = [Value.slice pl L.length L.length, .map (some n6)] := rfl
    have chl7 : ∀ v w, 7 ≤ (chC pt pv pr pg (some ⟨x1, 0, none⟩) (some ⟨n2 + 1 + 1, 0, none⟩) g (gdG g) (emG g) cl v w).length := fun v w => by rw [chl]; omega
    have kQ := Kp.new n9 H9 (.cells [.slice pl L.length L.length, .map (some n6)] 108 true)
    have bQ := hset_at H9 n9 (.cells [.slice pl L.length L.length, .map (some n6)] 108 true)
    have oQ := (kQ.keep n2 (by omega)).trans o9
    generalize hQ : hset H9 n9 (.cells [.slice pl L.length L.length, .map (some n6)] 108 true) = HQ at *
    have oF := hset_at HQ n2 (.cells (chC pt pv pr pg (some ⟨x1, 0, none⟩) (some ⟨n2 + 1 + 1, 0, none⟩) g (gdG g) (emG g) cl (.slice (some ⟨n9, 0, none⟩) 1 1) (.slice none 0 0)) 101 true)
    have kF := (kQ.kx (X := (· = n2))).set (x := n2) (.cells (chC pt pv pr pg (some ⟨x1, 0, none⟩) (some ⟨n2 + 1 + 1, 0, none⟩) g (gdG g) (emG g) cl (.slice (some ⟨n9, 0, none⟩) 1 1) (.slice none 0 0)) 101 true) (.inl rfl) (by omega)
    have bF := (hset_ne HQ n2 (.cells (chC pt pv pr pg (some ⟨x1, 0, none⟩) (some ⟨n2 + 1 + 1, 0, none⟩) g (gdG g) (emG g) cl (.slice (some ⟨n9, 0, none⟩) 1 1) (.slice none 0 0)) 101 true) (x := n9) (by omega)).trans bQ
    generalize hF : hset HQ n2 (.cells (chC pt pv pr pg (some ⟨x1, 0, none⟩) (some ⟨n2 + 1 + 1, 0, none⟩) g (gdG g) (emG g) cl (.slice (some ⟨n9, 0, none⟩) 1 1) (.slice none 0 0)) 101 true) = HF at *
    repeat (first | refine qqm rfl ?_ | ((first | refine qqr ?_ | refine qqt ?_); simp only [SS, qx19, vun, simprocAttr, f3, b9', e1, e2, e3, e4, e5, e6, hQ, oQ, chl7, chs6, hF, List.drop_zero, aop_nc, tnc, ff_38]))
    refine AtCall.byX (push_fin (sets := []) (cs := []) (L := L) (m := n6) (q := n9) (y := n2) (x := n2) (x' := n2) (w' := []) (Pk := (· = n2)) st (hset_at _ _ _) w9 hS9 (by omega) (by omega) (fun i s h => by simp at h) hLok (by simp) (fun i hi => absurd hi (Nat.not_lt_zero _)) (by simp) (Nat.le_refl _) hmo hlv (Nat.le_refl _) kF (fun z hz => by subst hz; exact ⟨.inl rfl, .inl rfl, _, _, _, o9⟩) oF bF (.inl ⟨rfl, rfl⟩) (by omega)) ?_
    rintro wz n10 H10 kx10 ⟨rc10, hc10⟩
    have hS10 : Sub (hset H6 n2 .dead) H10 := (sub_kxo hS9 st.wf (hset_at _ _ _) ((kF.mono fun z _ h => .inl h).trans (kx10.mono fun z _ h => .inr h)) (by omega))
    have hle10 := kx10.le
    simp only [SS, qx19, vun, simprocAttr, ff_38]
    repeat (first | refine qqm rfl ?_ | ((first | refine qqr ?_ | refine qqt ?_); simp only [SS, qx19, vun, simprocAttr, f3, ff_38]))
    have kAll : Kx (fun z => z = n2 ∨ n6 ≤ z) n6 H6 n10 H10 := (((kk.kx).trans (kx9.mono fun z _ h => .inr h)).trans (kF.mono fun z _ h => .inl h)).trans (kx10.mono fun z _ h => .inr h)
    (first | refine WK.retNil ⟨Or.inr rfl, _, rfl, ?_, ?_⟩ | refine WK.skipNil ⟨Or.inl rfl, _, rfl, ?_, ?_⟩)
    · exact fun z hz => (kAll.keep z (by omega) (by omega)).trans ((kx.keep z (by omega) (by omega)).trans (k0.keep z hz))
    · simp only [packed, fset_apply, Nat.reduceEqDiff, ↓reduceIte, List.getD_cons_zero, List.getD_cons_succ, f3, ff_38]
      exact ⟨hset H6 n2 .dead, n6, n2, n9, n2, pt, pv, pr, pg, _, _, cl, rfl, st, hset_at _ _ _, hS10, by omega, by omega, by omega, by omega, by omega, hc10, ⟨_, hcost⟩, fun x hx => (by
        have hxn : x < n := Classical.byContradiction fun hc => hx (hw x (by omega))
        exact (sN x (by omega)).trans ((kx.keep x (by omega) (by omega)).trans (k0.keep x hxn))), rfl⟩
end Go.Proofs.Ytemkglelfeidhaa

namespace Go.Proofs.Ytemkglelfeidhaa
open Go.AM Go.RowKit
set_option maxRecDepth 100000
def accP (g : Gram) (x : It) : Bool := (nx g x).isNone && decide (x.2.2 = 0) && decide (lft g x.1 = 0)
set_option maxHeartbeats 8000000 in
theorem accm_gives {S H : Heap} {N o y x n : Nat} {pt pv pr pg pe pc : Option Addr} {g : Gram} {gd em : List Bool} {co : List Nat} {sets : List (List It)} {w : List Int} (st : Stat S N pr pg pe pc g gd em co) (hw : WF n H) (hS : Sub S H)
  (hc : CHR H N o y x pt pv pr pg pe pc g gd em co sets w) (hk : okS g sets) (ha : sets.length ≤ 4000) :
  Gives Try.prog 40 [.pointer (some ⟨o, 0, none⟩)] n H fun v _ _ => v = .bool (accB g sets) := by
 refine Gives.of orders ok40 (Nat.le_of_ble_eq_true rfl) ?_
 obtain ⟨c, wv, cs, ho, hyN, hy, hyl, hsr, hwv⟩ := id hc
 have low : ∀ {z cs ty own}, H z = .cells cs ty own → z < n := fun {z cs ty own} e => Classical.byContradiction fun hc => by rw [hw z (by omega)] at e; cases e
 have hon := low ho
 have hs0 := List.length_pos_iff.2 hk.1
 have hsl : sets.length - 1 < sets.length := by omega
 obtain ⟨pp, hpp, hlr⟩ := hsr _ hsl
 have hlast : lastS sets = sets[sets.length - 1] := by unfold lastS; rw [List.getD_eq_getElem?_getD, List.getElem?_eq_getElem hsl]; rfl
 have hlok := lastS_ok hk
 have hacc : accB g sets = (lastS sets).any (accP g) := rfl
 rw [← hlast] at hpp hlr
 rw [hacc]
 generalize hps : lastS sets = ps at *
 repeat refine qqn rfl ?_
 have hsub : IntKind.wrap .i64 ((sets.length : Int) - 1) = ((sets.length - 1 : Nat) : Int) := by rw [wrap_in (by omega) (by omega)]; omega
 repeat (first | refine qqm rfl ?_ | ((first | refine qqr ?_ | refine qqt ?_); simp only [SS, qx28, vun, simprocAttr, -Int.reduceOfNat, -List.reduceReplicate, ho, ch6, hy, hsub, hsl, hpp, aop_nc, tnc, ff_40]))
 refine WK.loop (fun k2 s => ∃ j : Nat, Kp n H s.n s.H ∧ s.f 0 = .pointer (some ⟨o, 0, none⟩) ∧ s.f 19 = .slice pp ps.length ps.length ∧ s.f 20 = .int .i64 (ps.length : Nat) ∧ s.f 21 = .int .i64 (j : Nat) ∧ j ≤ ps.length ∧ (ps.take j).any (accP g) = false ∧ k2 = ps.length - j) ps.length ?_ ?_
 ·exact ⟨0, .refl _ _, rfl, rfl, rfl, rfl, Nat.zero_le _, rfl, rfl⟩
 rintro kk ⟨f, n3, H3⟩ ⟨j, kx, f0, f19, f20, f21, hj, hn3, rfl⟩ ih
 simp only at f0 f19 f20 f21 kx ih
 have hw3 := kx.wf hw
 have hS3 := hS.kp hw kx
 have ho3 := (kx.keep o hon).trans ho
 have hpl := hlok.len
 have hB := bndI_le (at_ := sets.length - 1) st.rl st.r8
 by_cases hlt : j < ps.length
 ·obtain ⟨zp, op, rfl, hzp, e3, e4⟩ := (hlr.rk (kx.rk hw)).at hlt
  have hk4 := Kp.new n3 H3 (.cells (itC ps[j]) 113 true)
  have hb4 := hset_at H3 n3 (.cells (itC ps[j]) 113 true)
  have hle := kx.le
  have ho4 := (hk4.keep o (by omega)).trans ho3
  have hS4 := hS3.kp hw3 hk4
  have hw4 := hk4.wf hw3
  have kx4 := kx.trans hk4
  generalize hE : hset H3 n3 (.cells (itC ps[j]) 113 true) = H4 at *
  repeat (first | refine qqm rfl ?_ | ((first | refine qqr ?_ | refine qqt ?_); simp only [SS, qx28, vun, simprocAttr, -Int.reduceOfNat, -List.reduceReplicate, f0, f19, f20, f21, hlt, hzp, e3, e4, itvc, itone, itsp, itle, ittk, itag, hb4, hE, ff_40]))
  obtain ⟨hq1, hq2, hq3⟩ := hlok.ok _ (List.getElem_mem hlt)
  refine AtCall.by (next_gives st hw4 hS4 ho4 hq1 hq2) ?_
  rintro wq n5 H5 hk5 rfl
  have hb5 := (hk5.keep n3 (by omega)).trans hb4
  have ho5 := (hk5.keep o (by omega)).trans ho4
  have hS5 := hS4.kp hw4 hk5
  have kx5 := kx4.trans hk5
  have hwj : IntKind.wrap .i64 ((j : Int) + 1) = ((j + 1 : Nat) : Int) := by rw [wrap_in (by omega) (by omega)]; rfl
  have htj : ps.take (j + 1) = ps.take j ++ [ps[j]] := List.take_succ_eq_append_getElem hlt
  have go : accP g ps[j] = false → (ps.take (j + 1)).any (accP g) = false := fun h => by rw [htj, List.any_append, hn3]; simp [h]
  cases hn : nx g ps[j] with
  | some y0 =>
   simp only [SS, qx28, vun, simprocAttr, -Int.reduceOfNat, -List.reduceReplicate, ff_40]
   repeat (first | refine qqm rfl ?_ | ((first | refine qqr ?_ | refine qqt ?_); simp only [SS, qx28, vun, simprocAttr, -Int.reduceOfNat, -List.reduceReplicate, f0, f19, f20, f21, Option.isSome_some, hwj, ff_40]))
   refine ih (ps.length - (j + 1)) (by omega) _ ⟨j + 1, kx5, f0, f19, f20, ?_, hlt, go (by unfold accP; rw [hn]; rfl), rfl⟩
   simp only [packed, fset_apply, Nat.reduceEqDiff, ↓reduceIte, List.getD_cons_zero, List.getD_cons_succ, f21, hwj, ff_40]
  | none =>
   by_cases hf0 : ps[j].2.2 = 0
   ·have hf1 : ((ps[j].2.2 : Int) = 0) = True := by rw [hf0]; simp
    obtain ⟨z, kz, ds, tz, oz, p, rfl, hz, c0, c1, c2, hpp2⟩ := (st.rr.sub hS5).at hq1
    have hlf := lft_at hq1
    by_cases hl0 : g.rules[ps[j].1].left = 0
    ·simp only [SS, qx28, vun, simprocAttr, -Int.reduceOfNat, -List.reduceReplicate, ff_40]
     repeat (first | refine qqm rfl ?_ | ((first | refine qqr ?_ | refine qqt ?_); simp only [SS, qx28, vun, simprocAttr, -Int.reduceOfNat, -List.reduceReplicate, f0, f19, f20, f21, Option.isSome_none, hb5, ho5, ch2, it0, it1, it2, hf1, hq1, hz, c0, hl0, aop_nc, tnc, ff_40]))
     (first | refine WK.retNil ⟨Or.inr rfl, _, rfl, ?_, ?_⟩ | refine WK.skipNil ⟨Or.inl rfl, _, rfl, ?_, ?_⟩)
     ·exact kx5.keep
     ·simp only [packed, fset_apply, Nat.reduceEqDiff, ↓reduceIte, List.getD_cons_zero, List.getD_cons_succ, ff_40]
      have : ps.any (accP g) = true := List.any_eq_true.2 ⟨_, List.getElem_mem hlt, by unfold accP; rw [hn, hlf, hl0, hf0]; rfl⟩
      rw [this]
    ·simp only [SS, qx28, vun, simprocAttr, -Int.reduceOfNat, -List.reduceReplicate, ff_40]
     repeat (first | refine qqm rfl ?_ | ((first | refine qqr ?_ | refine qqt ?_); simp only [SS, qx28, vun, simprocAttr, -Int.reduceOfNat, -List.reduceReplicate, f0, f19, f20, f21, Option.isSome_none, hb5, ho5, ch2, it0, it1, it2, hf1, hq1, hz, c0, hl0, hwj, aop_nc, tnc, ff_40]))
     refine ih (ps.length - (j + 1)) (by omega) _ ⟨j + 1, kx5, f0, f19, f20, ?_, hlt, go (by unfold accP; rw [hlf]; simp [hl0]), rfl⟩
     simp only [packed, fset_apply, Nat.reduceEqDiff, ↓reduceIte, List.getD_cons_zero, List.getD_cons_succ, f21, hwj, ff_40]
   ·have hf1 : ((ps[j].2.2 : Int) = 0) = False := by simp; omega
    simp only [SS, qx28, vun, simprocAttr, -Int.reduceOfNat, -List.reduceReplicate, ff_40]
    repeat (first | refine qqm rfl ?_ | ((first | refine qqr ?_ | refine qqt ?_); simp only [SS, qx28, vun, simprocAttr, -Int.reduceOfNat, -List.reduceReplicate, f0, f19, f20, f21, Option.isSome_none, hb5, it0, it1, it2, hf1, hwj, ff_40]))
    refine ih (ps.length - (j + 1)) (by omega) _ ⟨j + 1, kx5, f0, f19, f20, ?_, hlt, go (by unfold accP; simp [hf0]), rfl⟩
    simp only [packed, fset_apply, Nat.reduceEqDiff, ↓reduceIte, List.getD_cons_zero, List.getD_cons_succ, f21, hwj, ff_40]
 ·repeat (first | refine qqm rfl ?_ | ((first | refine qqr ?_ | refine qqt ?_); simp only [SS, qx28, vun, simprocAttr, -Int.reduceOfNat, -List.reduceReplicate, f0, f19, f20, f21, hlt, ff_40]))
  (first | refine WK.retNil ⟨Or.inr rfl, _, rfl, ?_, ?_⟩ | refine WK.skipNil ⟨Or.inl rfl, _, rfl, ?_, ?_⟩)
  ·exact kx.keep
  ·simp only [packed, fset_apply, Nat.reduceEqDiff, ↓reduceIte, List.getD_cons_zero, List.getD_cons_succ, ff_40]
   rw [List.take_of_length_le (by omega)] at hn3
   rw [hn3]
end Go.Proofs.Ytemkglelfeidhaa

namespace Go.Proofs.Ytemkglelfeidhaa
open Go.AM Go.RowKit
set_option maxRecDepth 100000
theorem accW_cons {g : Gram} {gd em : List Bool} (s : List (List It)) (t : Int) (w : List Int) : accW g gd em s (t :: w) = match pushS g gd em s t with | none => false | some s' => accW g gd em s' w := rfl
set_option maxHeartbeats 8000000 in
theorem accepts_gives {g : Gram} {n : Nat} {H : Heap} {v : Value} {w : List Int} {a : Option Addr} (hw : WF n H) (hg : RG H v g) (wg : WG g) (ok : RightOK g) (hf : few g = true) (ha : RA (Value.int .i64) H a w) (hwl : w.length ≤ 3900) (hi : ∀ t ∈ w, inI t) :
    Gives Try.prog 17 [v, .slice a w.length w.length] n H fun r _ _ => r = .bool (accW g (gdG g) (emG g) (newS g (gdG g) (emG g)) w) := by
  have hg0 := hg
  obtain ⟨pt0, pv0, pr0, rfl, ht, hv, hr⟩ := hg
  refine Gives.of orders ok17 (Nat.le_of_ble_eq_true rfl) ?_
  have hk := Kp.new n H (.cells (gcells pt0 pv0 pr0 g) 25 true)
  have hb := hset_at H n (.cells (gcells pt0 pv0 pr0 g) 25 true)
  have hw1 := hk.wf hw
  have hg1 := hg0.mono hw hk
  repeat refine qqn rfl ?_
  (refine qqr ?_; simp only [SS, qx8, vun, simprocAttr, box_cells, box_one, ff_17])
  generalize hset H n (.cells (gcells pt0 pv0 pr0 g) 25 true) = H1 at *
  repeat (first | refine qqm rfl ?_ | ((first | refine qqr ?_ | refine qqt ?_); simp only [SS, qx8, vun, simprocAttr, hb, gc_len, gc_all, ff_17]))
  refine AtCall.by (cnew_gives hw1 hg1 wg ok hf) ?_
  rintro v n2 H2 hk2 ⟨S, N, o, y, x, pt, pv, pr, pg, pe, pc, co, rfl, st, hso, hS2, hN2, hoN, hno, hny, hnx, hc2, _⟩
  have hw2 := hk2.wf hw1
  have k2 := hk.trans hk2
  simp only [SS, qx8, vun, simprocAttr, ff_17]
  repeat (first | refine qqm rfl ?_ | ((first | refine qqr ?_ | refine qqt ?_); simp only [SS, qx8, vun, simprocAttr, ff_17]))
  refine WK.loop (fun k2 s => ∃ (j y x : Nat) (sets : List (List It)), Kx (fun z => z = o ∨ N ≤ z) n2 H2 s.n s.H ∧ s.f 5 = .pointer (some ⟨o, 0, none⟩) ∧ s.f 10 = .slice a w.length w.length ∧ s.f 11 = .int .i64 (w.length : Nat) ∧ s.f 12 = .int .i64 (j : Nat) ∧ j ≤ w.length ∧
    CHR s.H N o y x pt pv pr pg pe pc g (gdG g) (emG g) co sets (w.take j) ∧ okS g sets ∧ sets.length = j + 1 ∧ accW g (gdG g) (emG g) (newS g (gdG g) (emG g)) w = accW g (gdG g) (emG g) sets (w.drop j) ∧ k2 = w.length - j) w.length ?_ ?_
  · exact ⟨0, y, x, newS g (gdG g) (emG g), .refl _ _ _, rfl, rfl, rfl, rfl, Nat.zero_le _, hc2, okS.new, rfl, by simp, rfl⟩
  rintro kk ⟨f, n3, H3⟩ ⟨j, y3, x3, sets, kx, f5, f10, f11, f12, hj, hc3, hk3, hsl, hpr, rfl⟩ ih
  simp only at f5 f10 f11 f12 kx hc3 ih
  have hw3 := kx.wf hw2
  have hS3 := sub_kxo hS2 st.wf hso kx hN2
  have hle := kx.le
  have keepn : ∀ z, z < n → H3 z = H z := fun z hz => (kx.keep z (by have := k2.le; omega) (by omega)).trans (k2.keep z hz)
  by_cases hlt : j < w.length
  · have ha3 : RA (Value.int .i64) H3 a w := fun hne => by
      obtain ⟨q, k, cs, ty, own, c1, c2, c3⟩ := ha hne
      exact ⟨q, k, cs, ty, own, c1, (keepn q (Classical.byContradiction fun hc => by rw [hw q (by omega)] at c2; cases c2)).trans c2, c3⟩
    obtain ⟨zp, kp, dsp, tp, op, rfl, hzp, e3⟩ := ha3.at hlt
    have hwj : IntKind.wrap .i64 ((j : Int) + 1) = ((j + 1 : Nat) : Int) := by rw [wrap_in (by omega) (by omega)]; rfl
    repeat (first | refine qqm rfl ?_ | ((first | refine qqr ?_ | refine qqt ?_); simp only [SS, qx8, vun, simprocAttr, f5, f10, f11, f12, hlt, hzp, e3, ff_17]))
    refine AtCall.byX (push_gives (t := w[j]) st hso hw3 hS3 (by omega) hoN hc3 hk3 (by omega) (by rw [List.length_take]; omega) (hi _ (List.getElem_mem hlt))) ?_
    rintro v n4 H4 kx4 ⟨rfl, rc4, y4, x4, hc4, _, _⟩
    have hdr : w.drop j = w[j] :: w.drop (j + 1) := List.drop_eq_getElem_cons hlt
    have htj : w.take (j + 1) = w.take j ++ [w[j]] := List.take_succ_eq_append_getElem hlt
    rw [hdr, accW_cons] at hpr
    cases hpu : pushS g (gdG g) (emG g) sets w[j] with
    | none =>
      rw [hpu] at hpr
      simp only [SS, qx8, vun, simprocAttr, Option.isSome_none, ff_17]
      repeat (first | refine qqm rfl ?_ | ((first | refine qqr ?_ | refine qqt ?_); simp only [SS, qx8, vun, simprocAttr, ff_17]))
      (first | refine WK.retNil ⟨Or.inr rfl, _, rfl, ?_, ?_⟩ | refine WK.skipNil ⟨Or.inl rfl, _, rfl, ?_, ?_⟩)
      · exact fun z hz => ((kx.trans kx4).keep z (by have := k2.le; omega) (by omega)).trans (k2.keep z hz)
      · simp only [packed, fset_apply, Nat.reduceEqDiff, ↓reduceIte, List.getD_cons_zero, List.getD_cons_succ, ff_17]
        rw [hpr]
    | some s' =>
      rw [hpu] at hpr hc4
      simp only [Option.getD_some, Option.isSome_some, if_true] at hc4
      rw [← htj] at hc4
      simp only [SS, qx8, vun, simprocAttr, Option.isSome_some, ff_17]
      repeat (first | refine qqm rfl ?_ | ((first | refine qqr ?_ | refine qqt ?_); simp only [SS, qx8, vun, simprocAttr, f12, hwj, ff_17]))
      refine ih (w.length - (j + 1)) (by omega) _ ⟨j + 1, y4, x4, s', kx.trans kx4, f5, f10, f11, ?_, hlt, hc4, hk3.push hpu, by rw [pushS_len hpu]; omega, hpr, rfl⟩
      simp only [packed, fset_apply, Nat.reduceEqDiff, ↓reduceIte, List.getD_cons_zero, List.getD_cons_succ, f12, hwj, ff_17]
  · have hje : j = w.length := by omega
    repeat (first | refine qqm rfl ?_ | ((first | refine qqr ?_ | refine qqt ?_); simp only [SS, qx8, vun, simprocAttr, f5, f10, f11, f12, hlt, ff_17]))
    refine AtCall.by (accm_gives st hw3 hS3 hc3 hk3 (by omega)) ?_
    rintro v n4 H4 hk4 rfl
    simp only [SS, qx8, vun, simprocAttr, ff_17]
    repeat (first | refine qqm rfl ?_ | ((first | refine qqr ?_ | refine qqt ?_); simp only [SS, qx8, vun, simprocAttr, ff_17]))
    (first | refine WK.retNil ⟨Or.inr rfl, _, rfl, ?_, ?_⟩ | refine WK.skipNil ⟨Or.inl rfl, _, rfl, ?_, ?_⟩)
    · exact fun z hz => (hk4.keep z (by have := k2.le; omega)).trans ((kx.keep z (by have := k2.le; omega) (by omega)).trans (k2.keep z hz))
    · simp only [packed, fset_apply, Nat.reduceEqDiff, ↓reduceIte, List.getD_cons_zero, List.getD_cons_succ, ff_17]
      rw [hpr, hje, List.drop_length]
      rfl
noncomputable section
theorem snocInd {α : Type} {P : List α → Prop} (h0 : P []) (h1 : ∀ l a, P l → P (l ++ [a])) : ∀ l, P l := by
 intro l
 suffices ∀ l : List α, P l.reverse by have := this l.reverse; rwa [List.reverse_reverse] at this
 intro l
 induction l with
 | nil => exact h0
 | cons a l ih => rw [List.reverse_cons]; exact h1 _ a ih
def runS (g : Gram) (w : List Int) : Option (List (List It)) := w.foldlM (pushS g (gdG g) (emG g)) (newS g (gdG g) (emG g))
theorem runS_snoc (g : Gram) (w : List Int) (t : Int) : runS g (w ++ [t]) = (runS g w).bind fun s => pushS g (gdG g) (emG g) s t := by
 unfold runS
 rw [List.foldlM_append]
 cases List.foldlM (pushS g (gdG g) (emG g)) (newS g (gdG g) (emG g)) w with
 | none => rfl
 | some s => simp [List.foldlM]
def accR (g : Gram) (w : List Int) : Bool := accB g ((runS g w).getD [])
end
theorem bP_get {n : Nat} {p : Int → Prop} {y : Int} (h0 : 0 ≤ y) : (bP n p).getD y.toNat false = true ↔ y < (n : Int) ∧ p y := by
 unfold bP
 rw [List.getD_eq_getElem?_getD, List.getElem?_map]
 by_cases h : y.toNat < n
 ·rw [List.getElem?_range h]
  simp only [Option.map_some, Option.getD_some, decide_eq_true_eq]
  have e : ((y.toNat : Nat) : Int) = y := Int.toNat_of_nonneg h0
  rw [e]
  constructor
  ·intro hp; exact ⟨by omega, hp⟩
  ·intro hp; exact hp.2
 ·rw [List.getElem?_eq_none (by simp; omega)]
  simp
  intro h1; omega
theorem knows {g : Gram} (ok : RightOK g) : Knows g (gdG g) (emG g) := by
 have hg := ok.inG
 refine ⟨hg, fun r hr hp => ?_, fun y h0 => ?_⟩
 ·rw [List.getD_eq_getElem?_getD, List.getElem?_eq_getElem (by rw [gdG_len]; exact hr), Option.getD_some, gdG_at hr]
  refine prdB_hold.2 fun s hs h0 => ⟨h0, ?_⟩
  unfold wdG
  rw [bP_get h0]
  exact ⟨hg.right _ (List.getElem_mem hr) s hs, hp s (by rw [rgt_eq hr]; exact hs) h0⟩
 ·unfold emG
  rw [bP_get h0]
  constructor
  ·exact fun h => h.2
  ·intro h
   refine ⟨?_, h⟩
   cases h with
   | mk i hi _ _ => exact hg.left1 _ (List.getElem_mem hi)
theorem run_fine {g : Gram} (ok : RightOK g) : ∀ (u : List Int) (sets : List (List It)), runS g u = some sets → Fine g (gdG g) (emG g) u sets := by
 have K := knows ok
 have hem : ∀ y : Int, 0 ≤ y → (emG g).getD y.toNat false = true → Nul g y := fun y h0 h => (K.em y h0).1 h
 refine snocInd ?_ ?_
 ·intro sets h; cases h; exact .new hem
 ·intro u t ih sets h
  rw [runS_snoc] at h
  cases hr : runS g u with
  | none => rw [hr] at h; cases h
  | some s => rw [hr] at h; exact (ih s hr).push hem h
theorem push_some {g : Gram} {gd em : List Bool} {sets : List (List It)} {t : Int} : (pushS g gd em sets t).isSome = true ↔ 0 ≤ t ∧ ∃ p ∈ lastS sets, nx g p = some (-t - 1) := by
 unfold pushS
 constructor
 ·intro h
  split at h
  ·cases h
  ·rename_i x l hl
   obtain ⟨h0, p, h1, h2, _⟩ := (pushL_mem (y := x) (lastS sets)).1 (by rw [hl]; simp)
   exact ⟨h0, p, h1, h2⟩
 ·rintro ⟨h0, p, h1, h2⟩
  have := (pushL_mem (g := g) (t := t) (y := upI p) (lastS sets)).2 ⟨h0, p, h1, h2, rfl⟩
  split
  ·rename_i hl; rw [hl] at this; cases this
  ·rfl
theorem run_some {g : Gram} (ok : RightOK g) : ∀ (u v : List Int), Yd g [0] (u ++ v) → (runS g u).isSome = true := by
 refine snocInd ?_ ?_
 ·intro v _; rfl
 ·intro u t ih v h
  rw [List.append_assoc, List.singleton_append] at h
  obtain ⟨sets, hs⟩ := Option.isSome_iff_exists.1 (ih _ h)
  have hf := run_fine ok u sets hs
  rw [runS_snoc, hs]
  refine push_some.2 ⟨h.pos t (by simp), ?_⟩
  rw [hf.last]
  exact next_word hf (knows ok) h
theorem accR_iff {g : Gram} (ok : RightOK g) {u : List Int} (h : (runS g u).isSome = true) : accR g u = true ↔ Yd g [0] u := by
 obtain ⟨sets, hs⟩ := Option.isSome_iff_exists.1 h
 unfold accR
 rw [hs, Option.getD_some]
 exact acc_iff (run_fine ok u sets hs) (knows ok)
theorem acc_run {g : Gram} {gd em : List Bool} : ∀ (w : List Int) (s s' : List (List It)), w.foldlM (pushS g gd em) s = some s' → accW g gd em s w = accB g s' := by
 intro w
 induction w with
 | nil => intro s s' h; cases h; rfl
 | cons t w ih =>
  intro s s' h
  rw [List.foldlM_cons] at h
  rw [accW_cons]
  cases hp : pushS g gd em s t with
  | none => rw [hp] at h; cases h
  | some s2 => rw [hp] at h; exact ih s2 s' h
theorem acc_none {g : Gram} {gd em : List Bool} : ∀ (w : List Int) (s : List (List It)), w.foldlM (pushS g gd em) s = none → accW g gd em s w = false := by
 intro w
 induction w with
 | nil => intro s h; cases h
 | cons t w ih =>
  intro s h
  rw [List.foldlM_cons] at h
  rw [accW_cons]
  cases hp : pushS g gd em s t with
  | none => rfl
  | some s2 => rw [hp] at h; exact ih s2 h
theorem accW_iff {g : Gram} (ok : RightOK g) {w : List Int} : accW g (gdG g) (emG g) (newS g (gdG g) (emG g)) w = true ↔ Yd g [0] w := by
 cases hr : runS g w with
 | none =>
  rw [acc_none w _ hr]
  constructor
  ·intro h; cases h
  ·intro h
   have := run_some ok w [] (by rw [List.append_nil]; exact h)
   rw [hr] at this; cases this
 | some s =>
  rw [acc_run w _ s hr]
  have := accR_iff ok (u := w) (by rw [hr]; rfl)
  unfold accR at this
  rwa [hr, Option.getD_some] at this
end Go.Proofs.Ytemkglelfeidhaa
