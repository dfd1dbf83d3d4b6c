/- A part of a proof. Its conditions: none. -/
import Derived.Test.YtjlgpanihjnaeaaGreatDoorAmXLfRef9A
import Derived.Test.YtjlgpanihjnaeaaGreatDoorAmC
import Derived.Test.YtjlgpanihjnaeaaGreatDoorAmD
import Derived.Test.YtjlgpanihjnaeaaGreatDoorAmXLfRight
import Derived.Test.YtjlgpanihjnaeaaGreatDoorAmXDfPl
import Derived.Test.YtjlgpanihjnaeaaGreatDoorAmXAtMv2
set_option linter.all false
namespace Go.Proofs.YtjlgpanihjnaeaaGreatDoor
open Go.AM
set_option maxRecDepth 100000
theorem productiveR_gives{v:Value}{g:Gram}{n:Nat}{H:Heap}(hw:WF n H)(hg:RG H v g)(wg:WG g)(ok:RightOK g) :
  Gives Tryz.prog 30 [v] n H fun v n' H'=>∃(hs:List Bool) (x:Nat),n≤x∧v=.slice (some ⟨x,0,none⟩) g.vars.length g.vars.length∧hs.length=g.vars.length∧H' x=.cells (hs.map .bool) 4 true∧∀v,hold hs v↔Prd g v:=by
 have hg0:=hg
 obtain⟨pt,pv,pr,rfl,ht,hv,hr⟩:=hg
 refine Gives.of orders ok30 (Nat.le_of_ble_eq_true rfl) ?_
 have hk:=Kp.new n H (.cells (gcells pt pv pr g) 25 true)
 have hb:=hset_at H n (.cells (gcells pt pv pr g) 25 true)
 repeat refine qqn rfl ?_
 (refine qqr ?_;simp only[SS,qx48,simprocAttr,box_cells,box_one,ff_30])
 generalize hset H n (.cells (gcells pt pv pr g) 25 true)=H1 at *
 repeat refine qqn rfl ?_
 (refine qqr ?_;simp only[SS,qx48,simprocAttr,hb,gc_len,gc_all,ff_30])
 refine AtCall.by (rounds_gives (nn:=false) (hk.wf hw) (hg0.mono hw hk) wg ok) ?_
 rintro v n2 H2 k2 ⟨hs,x,hx0,rfl,hl,hx,hn⟩
 simp only[SS,qx48,simprocAttr,ff_30]
 repeat (first|refine qqm rfl ?_|((first|refine qqr ?_|refine qqt ?_);simp only[SS,qx48,simprocAttr,ff_30]))
 first|refine qqf ?_ ?_|refine qqg ?_ ?_
 ·exact(hk.trans k2).keep
 ·simp only[packed,qv,Nat.reduceEqDiff,↓reduceIte,ff_30]
  exact⟨hs,x,by omega,rfl,hl,hx,hn⟩
theorem holdO{o:List Bool}{l:Nat}(hl:l<o.length):hold o (l:Int)↔o[l]=true:=by
 rw[hold_nat,List.getElem?_eq_getElem hl];simp
set_option maxHeartbeats 8000000 in
theorem usefulR_gives {v : Value} {g : Gram} {n : Nat} {H : Heap} (hw : WF n H) (hg : RG H v g) (wg : WG g) (ok : RightOK g) :
    Gives Tryz.prog 28 [v] n H fun v _ H' => ∃ (hs : List Bool) (x : Nat), n ≤ x ∧ v = .slice (some ⟨x, 0, none⟩) g.vars.length g.vars.length ∧ hs.length = g.vars.length ∧ H' x = .cells (hs.map .bool) 4 true ∧ ∀ v, hold hs v ↔ Usd g v := by
  have hg0 := hg
  obtain ⟨pt, pv, pr, rfl, ht, hv, hr⟩ := hg
  refine Gives.of orders ok28 (Nat.le_of_ble_eq_true rfl) ?_
  have hk := Kp.new n H (.cells (gcells pt pv pr g) 25 true)
  have hb := hset_at H n (.cells (gcells pt pv pr g) 25 true)
  have hi := ok.inG
  have hv64 := ok.vars
  have hv1 := ok.vars1
  have hrl := ok.rules
  have hvl : (g.vars.length : Int) ≤ bigN := by unfold bigN; omega
  repeat refine qqn rfl ?_
  (refine qqr ?_; simp only [SS, qx17, simprocAttr, box_cells, box_one, ff_28])
  generalize hset H n (.cells (gcells pt pv pr g) 25 true) = H1 at *
  repeat refine qqn rfl ?_
  (refine qqr ?_; simp only [SS, qx17, simprocAttr, hb, gc_len, gc_all, ff_28])
  refine AtCall.by (productiveR_gives (hk.wf hw) (hg0.mono hw hk) wg ok) ?_
  rintro v nb Hb kb ⟨ws, xw, hxw0, rfl, hwl, hxw, hws⟩
  simp only [SS, qx17, simprocAttr, ff_28]
  have kk := hk.trans kb
  have wb := kk.wf hw
  have hnb := kk.le
  have hxw1 := live_lt wb (live_of hxw)
  have hbb := (kb.keep n (by omega)).trans hb
  have hw0l : 0 < ws.length := by omega
  have hget0 : (ws.map Value.bool)[0]? = some (.bool ws[0]) := by rw [List.getElem?_map, List.getElem?_eq_getElem hw0l]; rfl
  have hlt0' : (0 : Int) < (g.vars.length : Int) := by omega
  repeat refine qqn rfl ?_
  (refine qqr ?_; simp only [SS, qx17, simprocAttr, hbb, gc_1, hvl, ff_28])
  rw [rep_map]
  have k3 := kk.trans (Kp.new nb Hb (.cells ((List.replicate g.vars.length false).map .bool) 4 true))
  have b3 := hset_at Hb nb (.cells ((List.replicate g.vars.length false).map .bool) 4 true)
  have bb3 := (hset_ne Hb nb (.cells ((List.replicate g.vars.length false).map .bool) 4 true) (x := n) (by omega)).trans hbb
  have bw3 := (hset_ne Hb nb (.cells ((List.replicate g.vars.length false).map .bool) 4 true) (x := xw) (by omega)).trans hxw
  generalize hset Hb nb (.cells ((List.replicate g.vars.length false).map .bool) 4 true) = H3 at *
  have hset0 : (((List.replicate g.vars.length false).map Value.bool).set 0 (.bool ws[0])) = ((List.replicate g.vars.length false).set 0 ws[0]).map .bool := by rw [List.map_set]
  have hlr : 0 + 1 ≤ (List.replicate g.vars.length false).length := by simp; omega
  repeat (first | refine qqm rfl ?_ | ((first | refine qqr ?_ | refine qqt ?_); simp only [SS, qx17, simprocAttr, bw3, b3, hget0, hlt0', hset0, hlr, List.length_map, ff_28]))
  have k4 := k3.set (x := nb) (.cells (((List.replicate g.vars.length false).set 0 ws[0]).map .bool) 4 true) (by omega) (by omega)
  have e0 := (hset_ne H3 nb (.cells (((List.replicate g.vars.length false).set 0 ws[0]).map .bool) 4 true) (x := n) (by omega)).trans bb3
  have e1 := (hset_ne H3 nb (.cells (((List.replicate g.vars.length false).set 0 ws[0]).map .bool) 4 true) (x := xw) (by omega)).trans bw3
  have e2 := hset_at H3 nb (.cells (((List.replicate g.vars.length false).set 0 ws[0]).map .bool) 4 true)
  have hp0 : hold ws 0 ↔ ws[0] = true := holdO hw0l
  have hst : ∀ v, hold ((List.replicate g.vars.length false).set 0 ws[0]) v ↔ v = 0 ∧ ws[0] = true := by
    intro v
    unfold hold
    rw [List.getD_eq_getElem?_getD, List.getElem?_set]
    by_cases e : 0 = v.toNat
    · rw [if_pos e]
      simp only [List.length_replicate, show 0 < g.vars.length by omega, if_true, Option.getD_some]
      constructor
      · rintro ⟨h1, h2⟩; exact ⟨by omega, h2⟩
      · rintro ⟨h1, h2⟩; exact ⟨by omega, h2⟩
    · rw [if_neg e]
      constructor
      · rintro ⟨_, h2⟩
        rw [List.getElem?_replicate] at h2
        split at h2 <;> simp at h2
      · rintro ⟨h1, _⟩; omega
  refine WK.loop (fun k s => ∃ (i : Nat) (o : List Bool), Kp n H s.n s.H ∧ nb < s.n ∧ s.f 1 = .pointer (some ⟨n, 0, none⟩) ∧ s.f 3 = .slice (some ⟨xw, 0, none⟩) g.vars.length g.vars.length ∧ s.f 4 = .slice (some ⟨nb, 0, none⟩) g.vars.length g.vars.length ∧ s.f 5 = .int .i64 (i : Nat) ∧
      s.H n = .cells (gcells pt pv pr g) 25 true ∧ s.H xw = .cells (ws.map .bool) 4 true ∧ s.H nb = .cells (o.map .bool) 4 true ∧ i ≤ g.vars.length ∧ o.length = g.vars.length ∧ (∀ v, hold o v → Usd g v) ∧ (Prd g 0 → hold o 0) ∧ (UClosed g ws o ∨ i ≤ o.count true) ∧ k = g.vars.length - i) g.vars.length ?_ ?_
  · refine ⟨0, _, k4, Nat.lt_succ_self _, rfl, rfl, rfl, rfl, e0, e1, e2, Nat.zero_le _, by simp, fun v h => ?_, fun h => (hst 0).2 ⟨rfl, hp0.1 ((hws 0).2 h)⟩, .inr (Nat.zero_le _), rfl⟩
    obtain ⟨h1, h2⟩ := (hst v).1 h
    rw [h1]
    exact .base ((hws 0).1 (hp0.2 h2))
  clear e0 e1 e2 hst hset0 hlr k4 b3 bb3 bw3
  rintro kk' ⟨f, n5, H5⟩ ⟨i, o0, kp, hn5, f1, f3, f4, f5, b0, bw, bo, hiv, hol0, hsound0, hbase0, hprog, rfl⟩ ih
  simp only at f1 f3 f4 f5 ih kp hn5 b0 bw bo
  by_cases hil : i < g.vars.length
  · have hiw : IntKind.i64.wrap ((i : Int) + 1) = ((i + 1 : Nat) : Int) := by rw [wrap_in (by omega) (by omega)]; rfl
    repeat (first | refine qqm rfl ?_ | ((first | refine qqr ?_ | refine qqt ?_); simp only [SS, qx17, simprocAttr, f1, f5, b0, gc_1, hil, ff_28]))
    refine WK.loop (fun k s => ∃ (q : Nat) (o : List Bool), Kp n H s.n s.H ∧ nb < s.n ∧ s.f 1 = .pointer (some ⟨n, 0, none⟩) ∧ s.f 3 = .slice (some ⟨xw, 0, none⟩) g.vars.length g.vars.length ∧ s.f 4 = .slice (some ⟨nb, 0, none⟩) g.vars.length g.vars.length ∧ s.f 5 = .int .i64 (i : Nat) ∧ s.f 6 = .int .i64 (q : Nat) ∧
        s.H n = .cells (gcells pt pv pr g) 25 true ∧ s.H xw = .cells (ws.map .bool) 4 true ∧ s.H nb = .cells (o.map .bool) 4 true ∧ q ≤ g.rules.length ∧ RU g ws o0 o q 0 ∧ k = g.rules.length - q) g.rules.length ?_ ?_
    · exact ⟨0, o0, kp, hn5, f1, f3, f4, f5, rfl, b0, bw, bo, Nat.zero_le _, .start hsound0, rfl⟩
    clear f1 f3 f4 f5 b0 bw bo kp hn5
    rintro kk' ⟨f, n6, H6⟩ ⟨q, o1, kp, hn6, f1, f3, f4, f5, f6, b0, bw, bo, hq, hRU, rfl⟩ ih2
    simp only at f1 f3 f4 f5 f6 ih2 kp hn6 b0 bw bo
    have hw6 := kp.wf hw
    by_cases hql : q < g.rules.length
    · have hqw : IntKind.i64.wrap ((q : Int) + 1) = ((q + 1 : Nat) : Int) := by rw [wrap_in (by omega) (by omega)]; rfl
      obtain ⟨z, kz, cs, ty, own, p, e0, hzH, d0, d1, d2, hpH⟩ := hr.at hql
      subst e0
      have hz := (kp.keep z (live_lt hw (live_of hzH))).trans hzH
      have d3 := take3 d0 d1 d2
      have d4 := len3 d2
      have hm := List.getElem_mem hql
      have hlen24 := (ok.rule q hql).len
      have hl0 := (ok.rule q hql).left0
      have hl1 := (ok.rule q hql).left1
      have kn := Kp.new n6 H6 (.cells [.int .i64 g.rules[q].left, .slice p g.rules[q].right.length g.rules[q].right.length, .float .f64 g.rules[q].weight] 63 true)
      have c0 := (kn.keep n (live_lt hw6 (live_of b0))).trans b0
      have cw := (kn.keep xw (live_lt hw6 (live_of bw))).trans bw
      have co := (kn.keep nb (live_lt hw6 (live_of bo))).trans bo
      have cr := hset_at H6 n6 (.cells [.int .i64 g.rules[q].left, .slice p g.rules[q].right.length g.rules[q].right.length, .float .f64 g.rules[q].weight] 63 true)
      repeat (first | refine qqm rfl ?_ | ((first | refine qqr ?_ | refine qqt ?_); simp only [SS, qx17, simprocAttr, f1, f6, b0, gc_2, hql, hz, d3, d4, hset_hset, List.nil_append, List.cons_append, ff_28]))
      have kp7 := kp.trans kn
      generalize hset H6 n6 (.cells [.int .i64 g.rules[q].left, .slice p g.rules[q].right.length g.rules[q].right.length, .float .f64 g.rules[q].weight] 63 true) = H7 at *
      refine WK.loop (fun k s => ∃ (j : Nat) (o : List Bool), Kp n H s.n s.H ∧ n6 < s.n ∧ s.f 1 = .pointer (some ⟨n, 0, none⟩) ∧ s.f 3 = .slice (some ⟨xw, 0, none⟩) g.vars.length g.vars.length ∧ s.f 4 = .slice (some ⟨nb, 0, none⟩) g.vars.length g.vars.length ∧ s.f 5 = .int .i64 (i : Nat) ∧ s.f 6 = .int .i64 (q : Nat) ∧ s.f 7 = .pointer (some ⟨n6, 0, none⟩) ∧ s.f 8 = .int .i64 (j : Nat) ∧
          s.H n = .cells (gcells pt pv (some ⟨z, kz, none⟩) g) 25 true ∧ s.H xw = .cells (ws.map .bool) 4 true ∧ s.H nb = .cells (o.map .bool) 4 true ∧ s.H n6 = .cells [.int .i64 g.rules[q].left, .slice p g.rules[q].right.length g.rules[q].right.length, .float .f64 g.rules[q].weight] 63 true ∧
          j ≤ g.rules[q].right.length ∧ RU g ws o0 o q j ∧ k = g.rules[q].right.length - j) g.rules[q].right.length ?_ ?_
      · exact ⟨0, o1, kp7, Nat.lt_succ_self _, f1, f3, f4, f5, f6, rfl, rfl, c0, cw, co, cr, Nat.zero_le _, hRU, rfl⟩
      clear f1 f3 f4 f5 f6 c0 cw co cr kp7 kn hRU b0 bw bo
      rintro kk' ⟨f, n8, H8⟩ ⟨j, o, kp8, hn8, f1, f3, f4, f5, f6, f7, f8, b0, bw, bo, br, hj, hRU, rfl⟩ ih3
      simp only at f1 f3 f4 f5 f6 f7 f8 ih3 kp8 hn8 b0 bw bo br
      have hw8 := kp8.wf hw
      have hol : o.length = g.vars.length := by rw [hRU.len]; exact hol0
      by_cases hjl : j < g.rules[q].right.length
      · have hjw : IntKind.i64.wrap ((j : Int) + 1) = ((j + 1 : Nat) : Int) := by rw [wrap_in (by omega) (by omega)]; rfl
        obtain ⟨x3, k3', ds, tz3, oz3, e3, hx3, e⟩ := (hpH.mono hw kp8).at hjl
        subst e3
        have hlt := hi.right _ hm _ (List.getElem_mem hjl)
        have hs : g.rules[q].right[j]? = some g.rules[q].right[j] := List.getElem?_eq_getElem hjl
        have skip : ¬ (0 ≤ g.rules[q].right[j] ∧ hold o g.rules[q].left ∧ prdB g.rules[q].right ws = true) → RU g ws o0 o q (j + 1) := fun hn => hRU.skip hql hs hn
        by_cases h0 : 0 ≤ g.rules[q].right[j]
        · obtain ⟨s, hs'⟩ : ∃ s : Nat, g.rules[q].right[j] = s := ⟨g.rules[q].right[j].toNat, by omega⟩
          obtain ⟨l, hl⟩ : ∃ l : Nat, g.rules[q].left = l := ⟨g.rules[q].left.toNat, by omega⟩
          have hll : l < o.length := by omega
          have hlv : l < g.vars.length := by omega
          have hgl : (o.map Value.bool)[l]? = some (.bool o[l]) := by rw [List.getElem?_map, List.getElem?_eq_getElem hll]; rfl
          have h00 : (0 ≤ (s : Int)) = True := by simp
          cases hol2 : o[l]
          · rw [hol2] at hgl
            repeat (first | refine qqm rfl ?_ | ((first | refine qqr ?_ | refine qqt ?_); simp only [SS, qx17, simprocAttr, f4, f7, f8, br, hl, hjl, hx3, e, hs', h00, bo, hlv, hgl, ff_28]))
            refine ih3 (g.rules[q].right.length - (j + 1)) (by omega) _ ⟨j + 1, o, kp8, hn8, f1, f3, f4, f5, f6, f7, ?_, b0, bw, bo, br, hjl, skip fun ⟨_, h2, _⟩ => ?_, rfl⟩
            · simp only [packed, qv, Nat.reduceEqDiff, ↓reduceIte, f8, hjw, ff_28]
            · rw [hl, holdO hll, hol2] at h2; cases h2
          · rw [hol2] at hgl
            repeat (first | refine qqm rfl ?_ | ((first | refine qqr ?_ | refine qqt ?_); simp only [SS, qx17, simprocAttr, f3, f4, f7, f8, br, hl, hjl, hx3, e, hs', h00, bo, hlv, hgl, ff_28]))
            have hall := all_gives (l := g.rules[q].left) (wt := g.rules[q].weight) (nn := false) hw8 (hpH.mono hw kp8) bw (wg.right _ hm).1 (fun s hs => by rw [hwl]; exact hi.right _ hm s hs)
            rw [hwl, hl] at hall
            refine AtCall.by hall ?_
            rintro v n9 H9 k9 rfl
            have kp9 := kp8.trans k9
            have hn9 := k9.le
            have g0 := (k9.keep n (live_lt hw8 (live_of b0))).trans b0
            have gw := (k9.keep xw (live_lt hw8 (live_of bw))).trans bw
            have go := (k9.keep nb (live_lt hw8 (live_of bo))).trans bo
            have gr := (k9.keep n6 hn8).trans br
            have gx := (k9.keep x3 (live_lt hw8 (live_of hx3))).trans hx3
            have hallB : allB false g.rules[q].right ws = prdB g.rules[q].right ws := rfl
            cases hb9 : prdB g.rules[q].right ws
            · rw [hb9] at hallB
              simp only [SS, qx17, simprocAttr, hallB, ff_28]
              repeat (first | refine qqm rfl ?_ | ((first | refine qqr ?_ | refine qqt ?_); simp only [SS, qx17, simprocAttr, f8, hjw, ff_28]))
              refine ih3 (g.rules[q].right.length - (j + 1)) (by omega) _ ⟨j + 1, o, kp9, by show n6 < n9; omega, f1, f3, f4, f5, f6, f7, ?_, g0, gw, go, gr, hjl, skip fun ⟨_, _, h3⟩ => ?_, rfl⟩
              · simp only [packed, qv, Nat.reduceEqDiff, ↓reduceIte, f8, hjw, ff_28]
              · rw [hb9] at h3; cases h3
            · rw [hb9] at hallB
              have hsl : s < o.length := by omega
              have hsv : s < g.vars.length := by omega
              have hsl1 : s + 1 ≤ o.length := hsl
              have hset' : (o.map Value.bool).set s (.bool true) = (o.set s true).map .bool := by rw [List.map_set]
              simp only [SS, qx17, simprocAttr, hallB, ff_28]
              repeat (first | refine qqm rfl ?_ | ((first | refine qqr ?_ | refine qqt ?_); simp only [SS, qx17, simprocAttr, f4, f7, f8, gr, gx, go, e, hs', hjl, hjw, hsv, hsl1, hset', List.length_map, ff_28]))
              refine ih3 (g.rules[q].right.length - (j + 1)) (by omega) _ ⟨j + 1, o.set s true, kp9.set _ (by omega) (by omega), by show n6 < n9; omega, f1, f3, f4, f5, f6, f7, ?_, (hset_ne _ _ _ (by omega)).trans g0, (hset_ne _ _ _ (by omega)).trans gw, hset_at _ _ _, (hset_ne _ _ _ (by omega)).trans gr, hjl, hRU.take hql hws (by rw [hs, hs']) hsl (by rw [hl, holdO hll, hol2]) hb9, rfl⟩
              simp only [packed, qv, Nat.reduceEqDiff, ↓reduceIte, f8, hjw, ff_28]
        · repeat (first | refine qqm rfl ?_ | ((first | refine qqr ?_ | refine qqt ?_); simp only [SS, qx17, simprocAttr, f7, f8, br, hjl, hx3, e, h0, ff_28]))
          refine ih3 (g.rules[q].right.length - (j + 1)) (by omega) _ ⟨j + 1, o, kp8, hn8, f1, f3, f4, f5, f6, f7, ?_, b0, bw, bo, br, hjl, skip fun ⟨h1, _, _⟩ => h0 h1, rfl⟩
          simp only [packed, qv, Nat.reduceEqDiff, ↓reduceIte, f8, hjw, ff_28]
      · repeat (first | refine qqm rfl ?_ | ((first | refine qqr ?_ | refine qqt ?_); simp only [SS, qx17, simprocAttr, f6, f7, f8, br, hjl, hqw, ff_28]))
        refine ih2 (g.rules.length - (q + 1)) (by omega) _ ⟨q + 1, o, kp8, by show nb < n8; omega, f1, f3, f4, f5, ?_, b0, bw, bo, hql, hRU.rule hql (by omega), rfl⟩
        simp only [packed, qv, Nat.reduceEqDiff, ↓reduceIte, f6, hqw, ff_28]
    · have hqe : q = g.rules.length := by omega
      subst hqe
      repeat (first | refine qqm rfl ?_ | ((first | refine qqr ?_ | refine qqt ?_); simp only [SS, qx17, simprocAttr, f1, f5, f6, b0, gc_2, hql, hiw, ff_28]))
      refine ih (g.vars.length - (i + 1)) (by omega) _ ⟨i + 1, o1, kp, hn6, f1, f3, f4, ?_, b0, bw, bo, hil, by rw [hRU.len]; exact hol0, hRU.sound, fun h => hRU.mono _ (hbase0 h), hRU.next hprog, rfl⟩
      simp only [packed, qv, Nat.reduceEqDiff, ↓reduceIte, f5, hiw, ff_28]
  · repeat (first | refine qqm rfl ?_ | ((first | refine qqr ?_ | refine qqt ?_); simp only [SS, qx17, simprocAttr, f1, f4, f5, b0, gc_1, hil, ff_28]))
    first | refine qqf ?_ ?_ | refine qqg ?_ ?_
    · exact kp.keep
    · simp only [packed, qv, Nat.reduceEqDiff, ↓reduceIte, f4, ff_28]
      exact ⟨o0, nb, by omega, rfl, hol0, bo, usd_of hws hsound0 hbase0 (uclosed_full hi hol0 (hprog.imp id fun h => by omega))⟩
end Go.Proofs.YtjlgpanihjnaeaaGreatDoor

namespace Go.Proofs.YtjlgpanihjnaeaaGreatDoor
open Go.AM
set_option maxRecDepth 100000
set_option maxHeartbeats 8000000 in
theorem kept_gives{v:Value}{g:Gram}{k n:Nat}{H:Heap}(hw:WF n H)(hg:RG H v g)(wg:WG g)(ok:RightOK g)(hk:k<g.rules.length){us ws:List Bool}(hul:us.length=g.vars.length)(hwl:ws.length=g.vars.length)
  (hus:∀v,hold us v↔Usd g v) (hws:∀v,hold ws v↔Prd g v) :
  Gives Tryz.prog 15 [v,.int .i64 (k:Nat)] n H fun v _ _=>v=.bool (kpB us ws g.rules[k]):=by
 have hg0:=hg
 obtain⟨pt,pv,pr,rfl,ht,hv,hr⟩:=hg
 refine Gives.of orders ok15 (Nat.le_of_ble_eq_true rfl) ?_
 have hi:=ok.inG
 have hrl:=ok.rules
 have k1:=Kp.new n H (.cells (gcells pt pv pr g) 25 true)
 have hb:=hset_at H n (.cells (gcells pt pv pr g) 25 true)
 have hw1:=k1.wf hw
 repeat refine qqn rfl ?_
 (refine qqr ?_;simp only[SS,qx37,simprocAttr,box_cells,box_one,ff_15])
 generalize hset H n (.cells (gcells pt pv pr g) 25 true)=H1 at *
 repeat (first|refine qqm rfl ?_|((first|refine qqr ?_|refine qqt ?_);simp only[SS,qx37,simprocAttr,hb,gc_all,gc_len,ff_15]))
 refine AtCall.by (usefulR_gives hw1 (hg0.mono hw k1) wg ok) ?_
 rintro v n2 H2 k2 ⟨hs,x,hx0,rfl,hsl,hx,hsu⟩
 have hw2:=k2.wf hw1
 have hb2:=(k2.keep n (by omega)).trans hb
 have kk2:=k1.trans k2
 have hr2:=hr.mono hw kk2
 obtain⟨z,kz,ds,tz,oz,p,rfl,hz,d0,d1,d2,hp⟩:=hr2.at hk
 have d3:=take3 d0 d1 d2
 have d4:=len3 d2
 have hmem:=List.getElem_mem hk
 have hl0:=hi.left0 _ hmem
 have hl1:=hi.left1 _ hmem
 have hri:=hi.right _ hmem
 have hrw:=(wg.right _ hmem).1
 generalize g.rules[k]=r at *
 obtain⟨l,hl⟩:∃l:Nat,r.left=l:=⟨r.left.toNat,by omega⟩
 have hlv:l<g.vars.length:=by omega
 have hgu:(hs.map Value.bool)[l]? = some (.bool (us.getD l false)):=by
  have h1:=(hsu l).trans (hus l).symm
  rw[hold_nat,hold_nat,List.getElem?_eq_getElem (by omega),List.getElem?_eq_getElem (by omega)]at h1
  rw[List.getElem?_map,List.getElem?_eq_getElem (by omega),List.getD_eq_getElem?_getD,List.getElem?_eq_getElem (by omega)]
  cases h2:hs[l]'(by omega) <;> cases h3:us[l]'(by omega) <;> simp_all
 have hll:l<hs.length:=by omega
 have hkp:kpB us ws r=(us.getD l false && prdB r.right ws):=by unfold kpB;rw[hl,Int.toNat_natCast]
 rw[hkp]
 cases hu:us.getD l false with
 | false =>
  rw[hu]at hgu
  simp only[SS,qx37,simprocAttr,hb2,gc_2,gc_len,hk,hz,d0,hl,hx,hlv,hll,hgu,ff_15]
  repeat (first|refine qqm rfl ?_|((first|refine qqr ?_|refine qqt ?_);simp only[SS,qx37,simprocAttr,ff_15]))
  first|refine qqf ?_ ?_|refine qqg ?_ ?_
  ·exact kk2.keep
  ·simp only[packed,qv,Nat.reduceEqDiff,↓reduceIte,ff_15]
   all_goals simp
 | true =>
  rw[hu]at hgu
  simp only[SS,qx37,simprocAttr,hb2,gc_2,gc_all,gc_len,hk,hz,d0,d3,d4,hl,hx,hlv,hll,hgu,ff_15]
  refine AtCall.by (productiveR_gives hw2 (hg0.mono hw kk2) wg ok) ?_
  rintro v n3 H3 k3 ⟨hs3,x3,hx3,rfl,hs3l,hx3',hs3p⟩
  have hw3:=k3.wf hw2
  have kk3:=kk2.trans k3
  have hal:=all_gives (l:=(l:Int)) (wt:=r.weight) (right:=r.right) (nn:=false) (hs:=hs3) hw3 (hp.mono hw2 k3) hx3' hrw (fun s hs=>by rw[hs3l];exact hri s hs)
  rw[hs3l]at hal
  have hpe:allB false r.right hs3=prdB r.right ws:=by
   have e1:allB false r.right hs3=prdB r.right hs3:=rfl
   rw[e1]
   have h1:prdB r.right hs3=true↔prdB r.right ws=true:=by
    rw[prdB_hold,prdB_hold]
    exact⟨fun h s hs h0=>(hws s).2 ((hs3p s).1 (h s hs h0)),fun h s hs h0=>(hs3p s).2 ((hws s).1 (h s hs h0))⟩
   cases h2:prdB r.right hs3 <;> cases h3:prdB r.right ws <;> simp_all
  simp only[SS,qx37,simprocAttr,ff_15]
  refine AtCall.by hal ?_
  rintro v n4 H4 k4 rfl
  simp only[SS,qx37,simprocAttr,ff_15]
  repeat (first|refine qqm rfl ?_|((first|refine qqr ?_|refine qqt ?_);simp only[SS,qx37,simprocAttr,ff_15]))
  first|refine qqf ?_ ?_|refine qqg ?_ ?_
  ·exact(kk3.trans k4).keep
  ·simp only[packed,qv,Nat.reduceEqDiff,↓reduceIte,ff_15]
   rw[hpe]
   all_goals simp
end Go.Proofs.YtjlgpanihjnaeaaGreatDoor

namespace Go.Proofs.YtjlgpanihjnaeaaGreatDoor
open Go.AM
set_option maxRecDepth 100000
def AllUse(g:Gram):Prop:=∀r∈g.rules,Usd g r.left∧∀s∈r.right,0≤s→Prd g s
theorem prd_in{g:Gram}(hi:InG g){v:Int}(h:Prd g v):0≤v∧v<g.vars.length:=by
 cases h with
 | mk i h h1=>exact⟨hi.left0 _ (List.getElem_mem h),hi.left1 _ (List.getElem_mem h)⟩
theorem hold_of{n:Nat}{p:Int→Prop}(hp:∀v,p v→0≤v∧v<n)(v:Int):hold ((List.range n).map fun i:Nat=>@decide (p i) (Classical.propDecidable _)) v↔p v:=by
 unfold hold
 constructor
 ·rintro⟨h0,h1⟩
  rw[List.getD_eq_getElem?_getD,List.getElem?_map]at h1
  by_cases hl:v.toNat<n
  ·rw[List.getElem?_range hl]at h1
   simp only[Option.map_some,Option.getD_some,decide_eq_true_eq]at h1
   rwa [Int.toNat_of_nonneg h0]at h1
  ·rw[List.getElem?_eq_none (by simp;omega)]at h1
   simp at h1
 ·intro h
  obtain⟨h0,h1⟩:=hp v h
  refine⟨h0,?_⟩
  rw[List.getD_eq_getElem?_getD,List.getElem?_map,List.getElem?_range (by omega)]
  simp only[Option.map_some,Option.getD_some,decide_eq_true_eq]
  rwa [Int.toNat_of_nonneg h0]
theorem kp_all{g:Gram}(hi:InG g){us ws:List Bool}(hus:∀v,hold us v↔Usd g v)(hws:∀v,hold ws v↔Prd g v){r:GRule}(hr:r∈g.rules)(h:kpB us ws r=true):Usd g r.left∧∀s∈r.right,0≤s→Prd g s:=by
 unfold kpB at h
 rw[Bool.and_eq_true]at h
 refine⟨(hus _).1 ⟨hi.left0 r hr,h.1⟩,fun s hs h0=>(hws s).1 ((prdB_hold.1 h.2) s hs h0)⟩
set_option maxHeartbeats 8000000 in
theorem whole12_gives{v:Value}{g:Gram}{n:Nat}{H:Heap}(hw:WF n H)(hg:RG H v g)(wg:WG g) :
  Gives Tryz.prog 5 [v] n H fun v _ _=>∃t:Int,v=.int .i64 t∧(t=0∨t=1∧RightX g∧few g=true∧AllUse g):=by
 have hg0:=hg
 obtain⟨pt,pv,pr,rfl,ht,hv,hr⟩:=hg
 refine Gives.of orders ok5 (Nat.le_of_ble_eq_true rfl) ?_
 have k1:=Kp.new n H (.cells (gcells pt pv pr g) 25 true)
 have hb:=hset_at H n (.cells (gcells pt pv pr g) 25 true)
 repeat refine qqn rfl ?_
 (refine qqr ?_;simp only[SS,qx21,vun,simprocAttr,box_cells,box_one,ff_5])
 generalize hset H n (.cells (gcells pt pv pr g) 25 true)=H1 at *
 have hw1:=k1.wf hw
 have hg1:=hg0.mono hw k1
 repeat (first|refine qqm rfl ?_|((first|refine qqr ?_|refine qqt ?_);simp only[SS,qx21,vun,simprocAttr,hb,gc_all,gc_len,ff_5]))
 refine AtCall.by (few_gives hw1 hg1 wg) ?_
 rintro v n2 H2 k2 rfl
 have hw2:=k2.wf hw1
 have hle2:=k2.le
 have hb2:=(k2.keep n (by omega)).trans hb
 have hg2:=hg1.mono hw1 k2
 have k12:=k1.trans k2
 cases hf:few g with
 | false =>
  simp only[SS,qx21,vun,simprocAttr,Bool.not_false,ff_5]
  repeat (first|refine qqm rfl ?_|((first|refine qqr ?_|refine qqt ?_);simp only[SS,qx21,vun,simprocAttr,ff_5]))
  first|refine qqf ?_ ?_|refine qqg ?_ ?_
  ·exact k12.keep
  ·simp only[packed,qv,Nat.reduceEqDiff,↓reduceIte,ff_5]
   exact⟨0,rfl,rfl⟩
 | true =>
  simp only[SS,qx21,vun,simprocAttr,Bool.not_true,hb2,gc_all,gc_len,ff_5]
  refine AtCall.by (rightX_gives hw2 hg2 wg) ?_
  rintro v n3 H3 k3 ⟨t,rfl,hok⟩
  have hw3:=k3.wf hw2
  have hle3:=k3.le
  have hb3:=(k3.keep n (by omega)).trans hb2
  have hg3:=hg2.mono hw2 k3
  have k13:=k12.trans k3
  cases t with
  | false =>
   simp only[SS,qx21,vun,simprocAttr,Bool.not_false,ff_5]
   repeat (first|refine qqm rfl ?_|((first|refine qqr ?_|refine qqt ?_);simp only[SS,qx21,vun,simprocAttr,ff_5]))
   first|refine qqf ?_ ?_|refine qqg ?_ ?_
   ·exact k13.keep
   ·simp only[packed,qv,Nat.reduceEqDiff,↓reduceIte,ff_5]
    exact⟨0,rfl,.inl rfl⟩
  | true =>
   have okx:=hok rfl
   have ok:=okx.toRightOK
   have hi:=ok.inG
   have hrl:=ok.rules
   have hus:=hold_of (n:=g.vars.length) (p:=Usd g) fun v h=>prd_in hi h.prd
   have hws:=hold_of (n:=g.vars.length) (p:=Prd g) fun v h=>prd_in hi h
   generalize hU:((List.range g.vars.length).map fun i:Nat=>@decide (Usd g i) (Classical.propDecidable _))=us at *
   generalize hW:((List.range g.vars.length).map fun i:Nat=>@decide (Prd g i) (Classical.propDecidable _))=ws at *
   have hul:us.length=g.vars.length:=by rw[←hU];simp
   have hwl:ws.length=g.vars.length:=by rw[←hW];simp
   simp only[SS,qx21,vun,simprocAttr,Bool.not_true,ff_5]
   repeat (first|refine qqm rfl ?_|((first|refine qqr ?_|refine qqt ?_);simp only[SS,qx21,vun,simprocAttr,hb3,gc_2,ff_5]))
   refine WK.loop (fun kk s=>∃i:Nat,Kp (n+1) H1 s.n s.H∧s.f 1=.pointer (some ⟨n,0,none⟩)∧s.f 14=.int .i64 (g.rules.length:Nat)∧s.f 15=.int .i64 (i:Nat)∧i≤g.rules.length∧(∀r∈g.rules.take i,kpB us ws r=true)∧kk=g.rules.length - i) g.rules.length ?_ ?_
   ·exact⟨0,k2.trans k3,rfl,rfl,rfl,Nat.zero_le _,fun r hr=>by simp at hr,rfl⟩
   clear k3 k13 hb3 hg3 hw3 hle3
   rintro kk ⟨f,n3,H3⟩ ⟨i,k3,f1,f14,f15,hil,hkp,rfl⟩ ih
   simp only at k3 f1 f14 f15 ih
   have hw3:=k3.wf hw1
   have hle3:=k3.le
   have hb3:=(k3.keep n (by omega)).trans hb
   have hg3:=hg1.mono hw1 k3
   by_cases hlt:i<g.rules.length
   ·have hiw:IntKind.i64.wrap ((i:Int)+1)=((i+1:Nat):Int):=by rw[wrap_in (by omega) (by omega)];rfl
    repeat (first|refine qqm rfl ?_|((first|refine qqr ?_|refine qqt ?_);simp only[SS,qx21,vun,simprocAttr,f1,f14,f15,hlt,hb3,gc_all,gc_len,ff_5]))
    refine AtCall.by (kept_gives hw3 hg3 wg ok hlt hul hwl hus hws) ?_
    rintro v n4 H4 k4 rfl
    cases hk:kpB us ws g.rules[i]with
    | false =>
     simp only[SS,qx21,vun,simprocAttr,Bool.not_false,ff_5]
     repeat (first|refine qqm rfl ?_|((first|refine qqr ?_|refine qqt ?_);simp only[SS,qx21,vun,simprocAttr,ff_5]))
     first|refine qqf ?_ ?_|refine qqg ?_ ?_
     ·exact(k1.trans (k3.trans k4)).keep
     ·simp only[packed,qv,Nat.reduceEqDiff,↓reduceIte,ff_5]
      exact⟨0,rfl,.inl rfl⟩
    | true =>
     simp only[SS,qx21,vun,simprocAttr,Bool.not_true,ff_5]
     repeat (first|refine qqm rfl ?_|((first|refine qqr ?_|refine qqt ?_);simp only[SS,qx21,vun,simprocAttr,f15,hiw,ff_5]))
     refine ih (g.rules.length - (i+1)) (by omega) _ ⟨i+1,k3.trans k4,f1,f14,rfl,hlt,fun r hr=>?_,rfl⟩
     rw[List.take_succ_eq_append_getElem hlt]at hr
     rcases List.mem_append.1 hr with hr|hr
     ·exact hkp r hr
     ·rw[List.mem_singleton]at hr;rw[hr];exact hk
   ·rw[List.take_of_length_le (by omega)]at hkp
    repeat (first|refine qqm rfl ?_|((first|refine qqr ?_|refine qqt ?_);simp only[SS,qx21,vun,simprocAttr,f1,f14,f15,hlt,ff_5]))
    first|refine qqf ?_ ?_|refine qqg ?_ ?_
    ·exact(k1.trans k3).keep
    ·simp only[packed,qv,Nat.reduceEqDiff,↓reduceIte,ff_5]
     exact⟨1,rfl,.inr ⟨rfl,okx,fun r hr=>kp_all hi hus hws hr (hkp r hr)⟩⟩
end Go.Proofs.YtjlgpanihjnaeaaGreatDoor

namespace Go.Proofs.YtjlgpanihjnaeaaGreatDoor
open Go.AM Go.AM.Fo
set_option maxRecDepth 100000
inductive Ac(g:Gram):Cfg→List Int→Prop where
 | fin {c:Cfg} (h:c.rule = -1):Ac g c []
 | step {c d:Cfg} {u:List Int} (h:d∈stepL g (callsL g) c) (k:Ac g d u):Ac g c u
 | read {c:Cfg} {t:Int} {u:List Int} (h0:0≤t) (h:nextL g c=t) (k:Ac g (mvC c) u):Ac g c (t::u)
theorem Ac.run{g:Gram}{c:Cfg}{u:List Int}(h:Ac g c u):∃c',(∀l,RchC g (callsL g) l c→RchC g (callsL g) l c')∧c'.alt=c.alt∧((u=[]∧nextL g c' = -1)∨∃t u',u=t::u'∧0≤t∧nextL g c'=t∧Ac g (mvC c') u'):=by
 induction h with
 | @fin c h=>exact⟨c,fun _ h=>h,rfl,.inl ⟨rfl,by unfold nextL;rw[if_pos (by omega)]⟩⟩
 | step h _ ih =>
  obtain⟨c',h1,h2,h3⟩:=ih
  exact⟨c',fun l hl=>h1 l (.step hl h),h2.trans (step_alt h),h3⟩
 | @read c t u h0 h k _=>exact⟨c,fun _ h=>h,rfl,.inr ⟨t,u,rfl,h0,h,k⟩⟩
variable {g:Gram}
theorem rgt_eq{r:Nat}(h:r<g.rules.length):rgt g r=g.rules[r].right:=by unfold rgt;rw[List.getElem?_eq_getElem h];rfl
theorem lft_eq{r:Nat}(h:r<g.rules.length):lft g r=g.rules[r].left:=by unfold lft;rw[List.getElem?_eq_getElem h];rfl
theorem rule_get{r:Nat}(h:r<g.rules.length):g.rules[((r:Nat):Int).toNat]? = some g.rules[r]:=by rw[Int.toNat_natCast,List.getElem?_eq_getElem h]
theorem step_in{a:Int}{r i k:Nat}{st:List (Int × Int)}(hr:r<g.rules.length)(hi:i<(rgt g r).length)(hk:k<g.rules.length)(h0:0≤lft g k)(h:(rgt g r)[i]=lft g k) :
  (⟨a,(k:Nat),0,if st=[]∨i+1<(rgt g r).length then st++[((r:Int),((i+1:Nat):Int))] else st⟩:Cfg)∈stepL g (callsL g) ⟨a,(r:Nat),(i:Nat),st⟩:=by
 have hR:=rgt_eq hr
 have hi':i<g.rules[r].right.length:=by rw[←hR];exact hi
 have hs:g.rules[r].right[i]? = some (lft g k):=by
  rw[←h,←hR];exact List.getElem?_eq_getElem hi
 unfold stepL
 rw[if_neg (by show ¬((r:Nat):Int)<0;omega)]
 simp only[rule_get hr]
 rw[if_neg (by omega)]
 simp only[Int.toNat_natCast,hs]
 rw[if_pos h0]
 refine List.mem_map.2 ⟨k,?_,?_⟩
 ·unfold ruleIx
  rw[List.mem_filter,List.mem_range]
  refine⟨hk,?_⟩
  rw[List.getElem?_eq_getElem hk,lft_eq hk]
  simp
 ·unfold stkL
  rw[hR]
  simp only
  by_cases hc:st=[]∨i+1<g.rules[r].right.length
  ·rw[if_pos hc,if_pos (by rcases hc with h|h;exact .inl h;exact .inr (by omega))]
   rfl
  ·rw[if_neg hc,if_neg (by rintro(h|h);exact hc (.inl h);exact hc (.inr (by omega)))]
theorem step_pop{a:Int}{r:Nat}{st:List (Int × Int)}{s:Int × Int}(hr:r<g.rules.length):(⟨a,s.1,s.2,st⟩:Cfg)∈stepL g (callsL g) ⟨a,(r:Nat),((rgt g r).length:Nat),st++[s]⟩:=by
 unfold stepL
 rw[if_neg (by show ¬((r:Nat):Int)<0;omega)]
 simp only[rule_get hr]
 rw[if_pos (by rw[rgt_eq hr])]
 unfold backL
 simp
theorem step_end{a:Int}{r:Nat}(hr:r<g.rules.length)(h0:lft g r=0):(⟨a,-1,0,[]⟩:Cfg)∈stepL g (callsL g) ⟨a,(r:Nat),((rgt g r).length:Nat),[]⟩:=by
 unfold stepL
 rw[if_neg (by show ¬((r:Nat):Int)<0;omega)]
 simp only[rule_get hr]
 rw[if_pos (by rw[rgt_eq hr])]
 unfold backL
 simp only[List.getLast?_nil,rule_get hr]
 rw[lft_eq hr]at h0
 rw[if_pos h0]
 simp
theorem step_call {a : Int} {r k j : Nat} (hr : r < g.rules.length) (hv : 0 ≤ lft g r ∧ lft g r < g.vars.length) (hk : k < g.rules.length) (hj : j < (rgt g k).length) (h : (rgt g k)[j] = lft g r) : (⟨a, (k : Nat), ((j + 1 : Nat) : Int), []⟩ : Cfg) ∈ stepL g (callsL g) ⟨a, (r : Nat), ((rgt g r).length : Nat), []⟩ := by
  unfold stepL
  rw [if_neg (by show ¬ ((r : Nat) : Int) < 0; omega)]
  simp only [rule_get hr]
  rw [if_pos (by rw [rgt_eq hr])]
  unfold backL
  simp only [List.getLast?_nil, rule_get hr]
  rw [lft_eq hr] at hv h
  refine List.mem_append_right _ (List.mem_map.2 ⟨((k : Int), ((j + 1 : Nat) : Int)), ?_, rfl⟩)
  unfold callsL
  rw [List.getD_eq_getElem?_getD, List.getElem?_map, List.getElem?_range (by omega)]
  show _ ∈ callsN g g.rules.length g.rules[r].left.toNat
  unfold callsN
  refine List.mem_flatMap.2 ⟨k, List.mem_range.2 hk, ?_⟩
  simp only [List.getElem?_eq_getElem hk]
  unfold rowT
  refine List.mem_filterMap.2 ⟨j, ?_, ?_⟩
  · rw [List.mem_range, ← rgt_eq hk]; exact hj
  · have e : g.rules[k].right[j]? = some (g.rules[r].left) := by
      rw [← h, List.getElem?_eq_getElem (by rw [← rgt_eq hk]; exact hj)]
      simp only [rgt_eq hk]
    rw [e, if_pos (by congr 1; omega)]
theorem next_term{a s:Int}{r i:Nat}{st:List (Int × Int)}(hr:r<g.rules.length)(hi:i<(rgt g r).length)(h:(rgt g r)[i]=s)(hs:s<0):nextL g ⟨a,(r:Nat),(i:Nat),st⟩ = -s - 1:=by
 have hi':i<g.rules[r].right.length:=by rw[←rgt_eq hr];exact hi
 have hs':g.rules[r].right[i]? = some s:=by
  rw[←h,List.getElem?_eq_getElem hi']
  simp only[rgt_eq hr]
 unfold nextL
 rw[if_neg (by show ¬((r:Nat):Int)<0;omega)]
 simp only[rule_get hr]
 rw[if_neg (by omega)]
 simp only[Int.toNat_natCast,hs']
 rw[if_neg (by omega)]
def Rt(g:Gram)(a:Int)(r:Nat)(st:List (Int × Int))(v:List Int):Prop :=
 (st=[]∧Ac g ⟨a,(r:Nat),((rgt g r).length:Nat),[]⟩ v)∨∃st0 s,st=st0++[s]∧Ac g ⟨a,s.1,s.2,st0⟩ v
theorem ac_rule(hg:InG g){f d u:List Int}(h:Dv g f d u):∀(a:Int) (r i:Nat) (st:List (Int × Int)) (v:List Int),r<g.rules.length→i≤(rgt g r).length→f=(rgt g r).drop i→Rt g a r st v→Ac g ⟨a,(r:Nat),(i:Nat),st⟩ (u++v):=by
 induction h with
 | nil =>
  intro a r i st v hr hi hf hv
  have hil:i=(rgt g r).length:=by
   have:=congrArg List.length hf
   rw[List.length_drop]at this
   simp at this;omega
  subst hil
  rcases hv with⟨rfl,hv⟩|⟨st0,s,rfl,hv⟩
  ·exact hv
  ·exact .step (step_pop hr) hv
 | @term s l d w hs k ih =>
  intro a r i st v hr hi hf hv
  have hil:i<(rgt g r).length:=by
   apply Classical.byContradiction
   intro hc
   rw[List.drop_of_length_le (by omega)]at hf
   cases hf
  rw[List.drop_eq_getElem_cons hil]at hf
  obtain⟨e1,e2⟩:=List.cons.inj hf
  refine .read (by omega) (next_term hr hil e1.symm hs) ?_
  have:=ih a r (i+1) st v hr hil e2 hv
  exact this
 | @var k l d1 d2 w1 w2 hk x y ihx ihy =>
  intro a r i st v hr hi hf hv
  have hil:i<(rgt g r).length:=by
   apply Classical.byContradiction
   intro hc
   rw[List.drop_of_length_le (by omega)]at hf
   cases hf
  rw[List.drop_eq_getElem_cons hil]at hf
  obtain⟨e1,e2⟩:=List.cons.inj hf
  have h0:0≤lft g k:=by rw[lft_eq hk];exact hg.left0 _ (List.getElem_mem hk)
  refine .step (step_in hr hil hk h0 e1.symm) ?_
  rw[List.append_assoc]
  by_cases hc:st=[]∨i+1<(rgt g r).length
  ·rw[if_pos hc]
   exact ihx a k 0 _ _ hk (Nat.zero_le _) (by rw[List.drop_zero]) (.inr ⟨st,_,rfl,ihy a r (i+1) st v hr hil e2 hv⟩)
  ·rw[if_neg hc]
   have hl:l=[]:=by rw[e2];exact List.drop_of_length_le (by omega)
   rw[hl]at y
   obtain⟨_,rfl⟩:=y.nil_inv
   rcases hv with⟨h,_⟩|⟨st0,s,h,hv⟩
   ·exact absurd (.inl h) hc
   ·exact ihx a k 0 _ _ hk (Nat.zero_le _) (by rw[List.drop_zero]) (.inr ⟨st0,s,h,hv⟩)
inductive Cx(g:Gram):Int→List Int→Prop where
 | root:Cx g 0 []
 | sub {k j:Nat} {F:List Int} (hk:k<g.rules.length) (hj:j<(rgt g k).length) (h:Cx g (lft g k) F):Cx g (rgt g k)[j] ((rgt g k).drop (j+1)++F)
theorem ac_end(hg:InG g){A:Int}{F:List Int}(h:Cx g A F):∀(d y:List Int),Dv g F d y→∀(a:Int) (r:Nat),r<g.rules.length→lft g r=A→Ac g ⟨a,(r:Nat),((rgt g r).length:Nat),[]⟩ y:=by
 induction h with
 | root =>
  intro d y hd a r hr hl
  obtain⟨_,rfl⟩:=hd.nil_inv
  exact .step (step_end hr hl) (.fin rfl)
 | @sub k j F hk hj h ih =>
  intro d y hd a r hr hl
  obtain⟨d1,d2,y1,y2,rfl,rfl,h1,h2⟩:=hd.split rfl
  refine .step (step_call hr ⟨?_,?_⟩ hk hj hl.symm) ?_
  ·rw[lft_eq hr];exact hg.left0 _ (List.getElem_mem hr)
  ·rw[lft_eq hr];exact hg.left1 _ (List.getElem_mem hr)
  ·exact ac_rule hg h1 a k (j+1) [] y2 hk hj rfl (.inl ⟨rfl,ih d2 y2 h2 a k hk rfl⟩)
theorem prd_dv{v:Int}(h:Prd g v):∃d w,Dv g [v] d w:=by
 induction h with
 | mk i h h1 ih =>
  have key:∀l:List Int,(∀s∈l,0≤s→∃d w,Dv g [s] d w)→∃d w,Dv g l d w:=by
   intro l
   induction l with
   | nil=>exact fun _=>⟨_,_,.nil⟩
   | cons s l ihl =>
    intro hl
    obtain⟨d2,w2,k2⟩:=ihl fun x hx=>hl x (List.mem_cons_of_mem _ hx)
    by_cases h0:0≤s
    ·obtain⟨d1,w1,k1⟩:=hl s (List.mem_cons_self ..) h0
     exact⟨_,_,k1.append k2⟩
    ·exact⟨_,_,.term (by omega) k2⟩
  obtain⟨d,w,k⟩:=key _ ih
  have:=Dv.one h (by rw[rgt_eq h];exact k)
  rw[lft_eq h]at this
  exact⟨_,_,this⟩
theorem form_dv:∀{l:List Int},(∀s∈l,0≤s→Prd g s)→∃d w,Dv g l d w
 | [],_=>⟨_,_,.nil⟩
 | s::l,h=>by
  obtain⟨d2,w2,k2⟩:=form_dv (l:=l) fun x hx=>h x (List.mem_cons_of_mem _ hx)
  by_cases h0:0≤s
  ·obtain⟨d1,w1,k1⟩:=prd_dv (h s (List.mem_cons_self ..) h0)
   exact⟨_,_,k1.append k2⟩
  ·exact⟨_,_,.term (by omega) k2⟩
theorem usd_cx{v:Int}(h:Usd g v):∃F,Cx g v F∧∀s∈F,0≤s→Prd g s:=by
 induction h with
 | base h=>exact⟨[],.root,fun s hs=>by cases hs⟩
 | @step i h hu hp s hs h0 ih =>
  obtain⟨F,hF,hP⟩:=ih
  obtain⟨j,hj,e⟩:=List.getElem_of_mem hs
  have hj':j<(rgt g i).length:=by rw[rgt_eq h];exact hj
  have:=Cx.sub h hj' (by rw[lft_eq h];exact hF)
  have e1:(rgt g i)[j]=s:=by rw[←e];simp only[rgt_eq h]
  rw[e1]at this
  refine⟨_,this,fun x hx h0=>?_⟩
  rcases List.mem_append.1 hx with h1|h1
  ·exact hp x (by rw[←rgt_eq h];exact List.mem_of_mem_drop h1) h0
  ·exact hP x h1 h0
def LL'(g:Gram)(r:Nat)(z:List Int):Prop:=∃d w F e y,Dv g (rgt g r) d w∧Cx g (lft g r) F∧Dv g F e y∧z=w++y
def c0(r:Nat):Cfg:=⟨(r:Nat),(r:Nat),((0:Nat):Int),[]⟩
theorem ll_ac(hg:InG g){r:Nat}(hr:r<g.rules.length){z:List Int}(h:LL' g r z):Ac g (c0 r) z:=by
 obtain⟨d,w,F,e,y,h1,h2,h3,rfl⟩:=h
 exact ac_rule hg h1 r r 0 [] y hr (Nat.zero_le _) (by rw[List.drop_zero]) (.inl ⟨rfl,ac_end hg h2 _ _ h3 r r hr rfl⟩)
end Go.Proofs.YtjlgpanihjnaeaaGreatDoor

namespace Go.Proofs.YtjlgpanihjnaeaaGreatDoor
open Go.AM Go.AM.Fo
set_option maxRecDepth 100000
theorem start_ne{g:Gram}{v:Int}{dp pl:Nat}{C:List Cfg}(ok:RightOK g)(hu:AllUse g)(h0:0≤v)(hv:v<g.vars.length)(hC:ClS g dp pl ((startL g v).map (·.1)) C):∃c,c∈C:=by
 have hg:=ok.inG
 obtain⟨r,hr,hl⟩:∃r:Nat,∃h:r<g.rules.length,g.rules[r].left=v:=by
  have h:=ok.count v.toNat (by omega)
  unfold countR at h
  obtain⟨x,hx⟩:=List.exists_mem_of_length_pos (Nat.pos_of_ne_zero h)
  obtain⟨h1,h2⟩:=List.mem_filter.1 hx
  obtain⟨r,hr,e⟩:=List.getElem_of_mem h1
  refine⟨r,hr,?_⟩
  rw[e,of_decide_eq_true h2]
  omega
 obtain⟨hU,hP⟩:=hu _ (List.getElem_mem hr)
 obtain⟨F,hF,hFP⟩:=usd_cx hU
 obtain⟨d1,w1,k1⟩:=form_dv hP
 obtain⟨d2,w2,k2⟩:=form_dv hFP
 obtain⟨c',h1,_,h3⟩:=(ll_ac hg hr ⟨d1,w1,F,d2,w2,by rw[rgt_eq hr];exact k1,by rw[lft_eq hr];exact hF,k2,rfl⟩).run
 obtain⟨_,_,_,_,hm⟩:=hC
 refine⟨c',(hm c').2 ⟨h1 _ (.base ?_),?_⟩⟩
 ·rw[startL_map ok v]
  refine List.mem_map.2 ⟨r,?_,rfl⟩
  unfold ruleIx
  rw[List.mem_filter,List.mem_range,List.getElem?_eq_getElem hr]
  exact⟨hr,by simp[hl]⟩
 ·unfold idle
  rcases h3 with⟨_,h3⟩|⟨t,u',_,h4,h3,_⟩ <;> rw[h3] <;> simp <;> omega
theorem start_0{g:Gram}{v q:Int}{dp pl:Nat}{d:DS}(ok:RightOK g)(hu:AllUse g)(h0:0≤v)(hv:v<g.vars.length)(h:Tr g dp pl d ((startL g v).map (·.1)) q)(hq:q = -1∨q=0):q=0:=by
 obtain⟨C,hC,R,hR,h⟩:=h
 obtain⟨c,hc⟩:=start_ne ok hu h0 hv hC
 rcases h with⟨rfl,_⟩|h
 ·have:=(hR.2 c.alt).2 (List.mem_map.2 ⟨c,hc,rfl⟩)
  cases this
 ·rcases hq with rfl|h'
  ·rcases h with⟨_,_,_,_,h,_⟩|⟨_,_,h,_⟩ <;> omega
  ·exact h'
end Go.Proofs.YtjlgpanihjnaeaaGreatDoor
