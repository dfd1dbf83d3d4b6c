/- A part of a proof. Its conditions: none. -/
import Derived.Test.YtjlgpanihjnaeaaGreatDoorAmXAtClose
import Derived.Test.YtjlgpanihjnaeaaGreatDoorAmD
set_option linter.all false
namespace Go.Proofs.YtjlgpanihjnaeaaGreatDoor
open Go.AM
set_option maxRecDepth 100000
def rowT(r:GRule)(i j v:Nat):List (Int × Int):=(List.range j).filterMap fun k=>if r.right[k]? = some (v:Int) then some ((i:Int),((k+1:Nat):Int)) else none
def callsN(g:Gram)(n v:Nat):List (Int × Int):=(List.range n).flatMap fun i=>match g.rules[i]? with
 | none=>[]
 | some r=>rowT r i r.right.length v
def callsL(g:Gram):List (List (Int × Int)):=(List.range g.vars.length).map fun v=>callsN g g.rules.length v
theorem rowT_zero(r:GRule)(i v:Nat):rowT r i 0 v=[]:=rfl
theorem rowT_succ(r:GRule)(i j v:Nat):rowT r i (j+1) v=rowT r i j v++if r.right[j]? = some (v:Int) then [((i:Int),((j+1:Nat):Int))] else []:=by
 unfold rowT
 rw[List.range_succ,List.filterMap_append]
 congr 1
 by_cases h:r.right[j]? = some (v:Int) <;> simp[h]
theorem callsN_succ{g:Gram}{i v:Nat}(h:i<g.rules.length):callsN g (i+1) v=callsN g i v++rowT g.rules[i] i g.rules[i].right.length v:=by
 unfold callsN
 rw[List.range_succ,List.flatMap_append,List.flatMap_singleton,List.getElem?_eq_getElem h]
theorem rowT_len(r:GRule)(i j v:Nat):(rowT r i j v).length≤j:=by
 unfold rowT
 have h:=List.length_filterMap_le (fun k=>if r.right[k]? = some (v:Int) then some ((i:Int),((k+1:Nat):Int)) else none) (List.range j)
 rw[List.length_range]at h
 exact h
theorem callsN_len{g:Gram}(hl:∀r∈g.rules,r.right.length≤24)(v:Nat):∀i,i≤g.rules.length→(callsN g i v).length≤i*24
 | 0,_=>Nat.le_refl _
 | i+1,h=>by
  rw[callsN_succ h,List.length_append]
  have h1:=callsN_len hl v i (by omega)
  have h2:=rowT_len g.rules[i] i g.rules[i].right.length v
  have h3:=hl _ (List.getElem_mem h)
  omega
theorem calls_vs{g:Gram}{v:Nat}:∀s∈callsN g g.rules.length v,VS g s:=by
 intro s hs
 unfold callsN at hs
 obtain⟨i,hi,hs⟩:=List.mem_flatMap.1 hs
 rw[List.mem_range]at hi
 rw[List.getElem?_eq_getElem hi]at hs
 unfold rowT at hs
 obtain⟨k,hk,hs⟩:=List.mem_filterMap.1 hs
 rw[List.mem_range]at hk
 split at hs
 ·cases hs
  refine⟨by show(0:Int)≤i;omega,by show(i:Int)<_;omega,by show(0:Int)≤((k+1:Nat):Int);omega,fun r hr=>?_⟩
  simp only[Int.toNat_natCast]at hr
  rw[List.getElem?_eq_getElem hi]at hr
  cases hr
  show((k+1:Nat):Int)≤_
  omega
 ·cases hs
set_option maxHeartbeats 16000000 in
theorem new_gives {v : Value} {g : Gram} {n : Nat} {H : Heap} (hw : WF n H) (hg : RG H v g) (wg : WG g) (ok : RightOK g) :
    Gives Tryz.prog 16 [v] n H fun v _ H' => ∃ nn pt pv pr cc cl, v = .pointer (some ⟨nn, 0, none⟩) ∧ NE H' nn pt pv pr g cc cl ∧ cl.map (·.2) = callsL g := by
  obtain ⟨pt, pv, pr, rfl, ht, hv, hr⟩ := hg
  refine Gives.of orders ok16 (Nat.le_of_ble_eq_true rfl) ?_
  have hk := Kp.new n H (.cells (gcells pt pv pr g) 25 true)
  have hb := hset_at H n (.cells (gcells pt pv pr g) 25 true)
  have hi := ok.inG
  have hvl : (g.vars.length : Int) ≤ bigN := by have := ok.vars; unfold bigN; omega
  have hlen24 : ∀ r ∈ g.rules, r.right.length ≤ 24 := fun r hr => by
    obtain ⟨i, hi, rfl⟩ := List.getElem_of_mem hr
    exact (ok.rule i hi).len
  repeat refine qqn rfl ?_
  (refine qqr ?_; simp only [SS, qx28, simprocAttr, box_cells, box_one, ff_16])
  generalize hset H n (.cells (gcells pt pv pr g) 25 true) = H1 at *
  have hsp : ∀ a b c d, AM.splice [a, b, c, d] 0 (gcells pt pv pr g) = [.slice pt g.terms.length g.terms.length, .slice pv g.vars.length g.vars.length, .slice pr g.rules.length g.rules.length, d] := fun _ _ _ _ => rfl
  repeat refine qqn rfl ?_
  (refine qqr ?_; simp only [SS, qx28, simprocAttr, hb, gc_0, gc_1, gc_2, gc_len, gc_all, hvl, hsp, box_one, box_cells, List.length_cons, List.length_nil, List.set_cons_succ, List.set_cons_zero, abox, ff_16])
  have k1 := Kp.new (n + 1) H1 (.cells (rep g.vars.length [.slice none 0 0]) 73 true)
  have b1 := hset_at H1 (n + 1) (.cells (rep g.vars.length [.slice none 0 0]) 73 true)
  generalize hset H1 (n + 1) (.cells (rep g.vars.length [.slice none 0 0]) 73 true) = H2 at *
  have k2 := Kp.new (n + 1 + 1) H2 (.cells [.slice pt g.terms.length g.terms.length, .slice pv g.vars.length g.vars.length, .slice pr g.rules.length g.rules.length, .slice (some ⟨n + 1, 0, none⟩) g.vars.length g.vars.length] 72 true)
  have hN := hset_at H2 (n + 1 + 1) (.cells [.slice pt g.terms.length g.terms.length, .slice pv g.vars.length g.vars.length, .slice pr g.rules.length g.rules.length, .slice (some ⟨n + 1, 0, none⟩) g.vars.length g.vars.length] 72 true)
  generalize hset H2 (n + 1 + 1) (.cells [.slice pt g.terms.length g.terms.length, .slice pv g.vars.length g.vars.length, .slice pr g.rules.length g.rules.length, .slice (some ⟨n + 1, 0, none⟩) g.vars.length g.vars.length] 72 true) = H3 at *
  have k03 := (hk.trans k1).trans k2
  have hw3 := k03.wf hw
  replace b1 := (k2.keep (n + 1) (by omega)).trans b1
  replace hb := ((k1.trans k2).keep n (by omega)).trans hb
  have L0 := LL.new (m := n + 1 + 1 + 1) (ety := 75) (enc := spC) b1
  clear k1 k2 hk
  repeat (first | refine qqm rfl ?_ | ((first | refine qqr ?_ | refine qqt ?_); simp only [SS, qx28, simprocAttr, hb, gc_2, ff_16]))
  refine WK.loop (fun kk s => ∃ (i : Nat) (ls : List (List (Int × Int))) (ys : Nat → Nat), Kx (fun z => z = n + 1) (n + 1 + 1 + 1) H3 s.n s.H ∧ LL (n + 1 + 1 + 1) s.H (n + 1) 73 75 spC ls ys ∧ s.f 3 = .pointer (some ⟨n + 1 + 1, 0, none⟩) ∧
      s.f 16 = .slice pr g.rules.length g.rules.length ∧ s.f 17 = .int .i64 g.rules.length ∧ s.f 18 = .int .i64 (i : Nat) ∧ i ≤ g.rules.length ∧ ls.length = g.vars.length ∧ (∀ v (h : v < ls.length), ls[v] = callsN g i v) ∧ kk = g.rules.length - i) g.rules.length ?_ ?_
  · exact ⟨0, _, _, Kx.refl _ _ _, L0, rfl, rfl, rfl, rfl, Nat.zero_le _, by simp, fun v h => by rw [List.getElem_replicate]; rfl, rfl⟩
  rintro kk ⟨f, n4, H4⟩ ⟨i, ls, ys, kx, L, f3, f16, f17, f18, hir, hll, hmem, rfl⟩ ih
  simp only at f3 f16 f17 f18 ih kx L
  have kk4 : Kp n H n4 H4 := ⟨by have := k03.le; have := kx.le; omega, fun y hy => (kx.keep y (by omega) (by omega)).trans (k03.keep y hy), fun h => kx.wf (k03.wf h)⟩
  have hn4 := kx.le
  by_cases hjr : i < g.rules.length
  · have hw4 := kk4.wf hw
    have hiw : IntKind.i64.wrap ((i : Int) + 1) = ((i + 1 : Nat) : Int) := by have := ok.rules; rw [wrap_in (by omega) (by omega)]; rfl
    obtain ⟨z, k', cs, ty, own, p, e0, hz, c0, c1, c2, hp⟩ := hr.at hjr
    replace hz := (kk4.keep z (live_lt hw (live_of hz))).trans hz
    have c3 := take3 c0 c1 c2
    have c4 := len3 c2
    have hrl := (ok.rule i hjr).len
    subst e0
    repeat (first | refine qqm rfl ?_ | ((first | refine qqr ?_ | refine qqt ?_); simp only [SS, qx28, simprocAttr, f16, f17, f18, hjr, hz, c3, c4, ff_16]))
    have kr := Kp.new n4 H4 (.cells [.int .i64 g.rules[i].left, .slice p g.rules[i].right.length g.rules[i].right.length, .float .f64 g.rules[i].weight] 63 true)
    have L' := L.kp hw4 kr
    have kx' := kx.trans kr.kx
    have hcs := callsN_succ (v := 0) hjr
    refine WK.loop (fun kk s => ∃ (j : Nat) (ls : List (List (Int × Int))) (ys : Nat → Nat), Kx (fun z => z = n + 1) (n + 1 + 1 + 1) H3 s.n s.H ∧ LL (n + 1 + 1 + 1) s.H (n + 1) 73 75 spC ls ys ∧ s.f 3 = .pointer (some ⟨n + 1 + 1, 0, none⟩) ∧
        s.f 16 = .slice (some ⟨z, k', none⟩) g.rules.length g.rules.length ∧ s.f 17 = .int .i64 g.rules.length ∧ s.f 18 = .int .i64 (i : Nat) ∧ s.f 4 = .int .i64 (i : Nat) ∧ s.f 24 = .slice p g.rules[i].right.length g.rules[i].right.length ∧ s.f 25 = .int .i64 g.rules[i].right.length ∧
        s.f 26 = .int .i64 (j : Nat) ∧ j ≤ g.rules[i].right.length ∧ ls.length = g.vars.length ∧ (∀ v (h : v < ls.length), ls[v] = callsN g i v ++ rowT g.rules[i] i j v) ∧ kk = g.rules[i].right.length - j) g.rules[i].right.length ?_ ?_
    · exact ⟨0, ls, ys, kx', L', f3, f16, f17, f18, rfl, rfl, rfl, rfl, Nat.zero_le _, hll, fun v h => by rw [rowT_zero, List.append_nil]; exact hmem v h, rfl⟩
    clear L L' hmem hll f3 f16 f17 f18 kx kx' kr kk4 hw4 hz hn4
    rintro kk ⟨f, n5, H5⟩ ⟨j, ls, ys, kx, L, f3, f16, f17, f18, f4, f24, f25, f26, hj, hll, hmem, rfl⟩ ih2
    simp only at f3 f16 f17 f18 f4 f24 f25 f26 ih2 kx L
    have kk5 : Kp n H n5 H5 := ⟨by have := k03.le; have := kx.le; omega, fun y hy => (kx.keep y (by omega) (by omega)).trans (k03.keep y hy), fun h => kx.wf (k03.wf h)⟩
    have hn5 := kx.le
    have hp5 := hp.mono hw kk5
    have hw5 := kk5.wf hw
    have hN5 := (kx.keep (n + 1 + 1) (by omega) (by omega)).trans hN
    by_cases hjl : j < g.rules[i].right.length
    · have hjw : IntKind.i64.wrap ((j : Int) + 1) = ((j + 1 : Nat) : Int) := by rw [wrap_in (by omega) (by omega)]; rfl
      obtain ⟨z2, kz, ds, tz, oz, e0, hz2, e⟩ := hp5.at hjl
      subst e0
      have hat : g.rules[i].right[j]? = some g.rules[i].right[j] := List.getElem?_eq_getElem hjl
      have hsm := (ok.rule i hjr).sym _ (List.getElem_mem hjl)
      generalize g.rules[i].right[j] = s at *
      repeat (first | refine qqm rfl ?_ | ((first | refine qqr ?_ | refine qqt ?_); simp only [SS, qx28, simprocAttr, f24, f25, f26, hjl, hz2, e, ff_16]))
      refine AtCall.by (isVar_gives _ _ _) ?_
      rintro v n6 H6 hk6 ⟨rfl, rfl, hH⟩
      obtain rfl := hH.symm
      by_cases h0 : 0 ≤ s
      · obtain ⟨u, rfl⟩ : ∃ u : Nat, s = u := ⟨s.toNat, by omega⟩
        have hul : u < ls.length := by omega
        have hul1 : u < g.vars.length := by omega
        simp only [SS, qx28, simprocAttr, h0, decide_true, ff_16]
        repeat refine qqn rfl ?_
        refine qqm rfl ?_
        repeat refine qqn rfl ?_
        have hlu : ls[u].length ≤ 16384 := by
          rw [hmem u hul, List.length_append]
          have h1 := callsN_len hlen24 u i (by omega)
          have h2 := rowT_len g.rules[i] i j u
          have := ok.rules
          omega
        have hbg : ls[u].length + 1 ≤ bigN := by unfold bigN; omega
        have hc0 := L.at hul
        have hmem' : ∀ (y : Nat) v (h : v < (ls.set u (ls[u] ++ [((i : Int), ((j + 1 : Nat) : Int))])).length), (ls.set u (ls[u] ++ [((i : Int), ((j + 1 : Nat) : Int))]))[v] = callsN g i v ++ rowT g.rules[i] i (j + 1) v := by
          intro _ v h
          have hv : v < ls.length := by simpa using h
          rw [List.getElem_set, rowT_succ, hat]
          by_cases e : u = v
          · subst e
            rw [if_pos rfl, if_pos rfl, hmem u hul, List.append_assoc]
          · rw [if_neg e, if_neg (fun h => e (by cases h; rfl)), List.append_nil]
            exact hmem v hv
        have hx6 : ∀ o1 o2, hset (hset H5 n6 o1) (n6 + 1) o2 (n + 1) = .cells (llcells ys ls) 73 true := fun o1 o2 => (hset_ne _ _ _ (by omega)).trans ((hset_ne _ _ _ (by omega)).trans L.hx)
        have hlu1 : u + 1 ≤ ls.length := hul
        by_cases hnil : ls[u] = []
        · rw [hnil, List.length_nil, sl_zero] at hc0
          (refine WK.rgl [(3, 17)] (by kernel_rfl) ?_; simp only [wl, wl1_false, wl1_true, wl2_none, wl2_some, wl3_some, wl3_none, SS, forall_const, wx, tguard, acallee, top, tval, fput, tor, vsh, vbin, tload, tload2, tload3, tstore, tstore2, tstore3, Go.AM.splice, one, tidx, tidx2, tidx3, tfa, tfa2, tlen2, tlen3, tbox, talloc, still, still1, flat1, tmake, tbuild, afill, tbs, tbs2, tap, tap2, tap3, tap4, tsrc, tsrc2, simprocAttr, f3, f4, f26, hjw, hN5, L.hx, hul, hul1, hc0, hx6, hlu1, llcells_length, aop_nc, tnc, ff_16])
          refine ⟨light_cons rfl rfl lapart_rr light_nil, ?_⟩
          repeat (first | refine qqm rfl ?_ | ((first | refine qqr ?_ | refine qqt ?_); simp only [SS, qx28, simprocAttr, f26, hjw, ff_16]))
          refine ih2 (g.rules[i].right.length - (j + 1)) (by omega) _ ⟨j + 1, ls.set u (ls[u] ++ [((i : Int), ((j + 1 : Nat) : Int))]), upd ys u (n6 + 1), ((kx.trans (Kp.new n6 H5 _).kx).trans (Kp.new (n6 + 1) _ _).kx).set _ (.inl rfl) (by omega), ?_, f3, f16, f17, f18, f4, f24, f25, rfl, hjl, by rw [List.length_set]; exact hll, hmem' 0, rfl⟩
          refine L.put (fun _ => ?_) (fun _ => by omega) (by omega) ?_ (fun v hv hn hv' => ?_) (fun v hv hn hv' => ?_)
          · rw [hnil]
            exact (hset_ne _ _ _ (by omega)).trans (hset_at _ _ _)
          · rw [hnil]
            exact hset_at _ _ _
          · have := L.lty hw5 hv hv'; omega
          · have h1 := L.lty hw5 hv hv'
            have h2 := L.ne v hv hv'
            exact (hset_ne _ _ _ h2).trans ((hset_ne _ _ _ (by omega)).trans (hset_ne _ _ _ (by omega)))
        · rw [sl_pos (by simpa using hnil)] at hc0
          have hyl := L.hy u hul hnil
          have hyl1 := L.lty hw5 hul hnil
          have hyl2 := L.fy u hul hnil
          have hyl3 := L.ne u hul hnil
          have hy6 : ∀ o, hset H5 n6 o (ys u) = _ := fun o => (hset_ne _ _ _ (by omega)).trans hyl
          have hfl : (ls[u].flatMap spC).length = ls[u].length * 2 := fm_len spC_len _
          have hft : (ls[u].flatMap spC).take (ls[u].length * 2) = ls[u].flatMap spC := List.take_of_length_le (by omega)
          have hx7 : ∀ o1 o2 o3, hset (hset (hset H5 n6 o1) (ys u) o2) (n6 + 1) o3 (n + 1) = .cells (llcells ys ls) 73 true := fun o1 o2 o3 => (hset_ne _ _ _ (by omega)).trans ((hset_ne _ _ _ (Ne.symm hyl3)).trans ((hset_ne _ _ _ (by omega)).trans L.hx))
          have hct : [n6].contains (ys u) = false := by simp; omega
          (refine WK.rgl [(3, 17)] (by kernel_rfl) ?_; simp only [wl, wl1_false, wl1_true, wl2_none, wl2_some, wl3_some, wl3_none, SS, forall_const, wx, tguard, acallee, top, tval, fput, tor, vsh, vbin, tload, tload2, tload3, tstore, tstore2, tstore3, Go.AM.splice, one, tidx, tidx2, tidx3, tfa, tfa2, tlen2, tlen3, tbox, talloc, still, still1, flat1, tmake, tbuild, afill, tbs, tbs2, tap, tap2, tap3, tap4, tsrc, tsrc2, simprocAttr, f3, f4, f26, hjw, hN5, L.hx, hul, hul1, hc0, hx7, hy6, hfl, hft, hct, hbg, hlu1, List.drop_zero, llcells_length, aop_nc, tnc, ff_16])
          refine ⟨light_cons rfl rfl (lapart_rw ?_) light_nil, ?_⟩
          · simp; omega
          have hlen : ls[u].length + 1 = (ls[u] ++ [((i : Int), ((j + 1 : Nat) : Int))]).length := by simp
          repeat (first | refine qqm rfl ?_ | ((first | refine qqr ?_ | refine qqt ?_); simp only [SS, qx28, simprocAttr, f26, hjw, ff_16]))
          refine ih2 (g.rules[i].right.length - (j + 1)) (by omega) _ ⟨j + 1, ls.set u (ls[u] ++ [((i : Int), ((j + 1 : Nat) : Int))]), upd ys u (n6 + 1), (((kx.trans (Kp.new n6 H5 _).kx).set _ (.inr hyl2) (by omega)).trans (Kp.new (n6 + 1) _ _).kx).set _ (.inl rfl) (by omega), ?_, f3, f16, f17, f18, f4, f24, f25, rfl, hjl, by rw [List.length_set]; exact hll, hmem' 0, rfl⟩
          refine L.put (fun _ => ?_) (fun _ => by omega) (by omega) ?_ (fun v hv hn hv' => ?_) (fun v hv hn hv' => ?_)
          · refine (hset_ne _ _ _ (by omega)).trans ((hset_at _ _ _).trans ?_)
            rw [List.flatMap_append]
            rfl
          · rw [sl_pos (by simp)]
            refine (hset_at _ _ _).trans ?_
            rw [hlen]
          · have := L.lty hw5 hv hv'; omega
          · have h1 := L.lty hw5 hv hv'
            have h2 := L.ne v hv hv'
            have h3 : ys v ≠ ys u := fun e => hn (L.inj v u hv hul hv' hnil e)
            exact (hset_ne _ _ _ h2).trans ((hset_ne _ _ _ (by omega)).trans ((hset_ne _ _ _ h3).trans (hset_ne _ _ _ (by omega))))
      · have hmem' : ∀ v (h : v < ls.length), ls[v] = callsN g i v ++ rowT g.rules[i] i (j + 1) v := by
          intro v h
          rw [rowT_succ, hat, if_neg (fun e => by cases e; omega), List.append_nil]
          exact hmem v h
        simp only [SS, qx28, simprocAttr, h0, decide_false, ff_16]
        repeat (first | refine qqm rfl ?_ | ((first | refine qqr ?_ | refine qqt ?_); simp only [SS, qx28, simprocAttr, f26, hjw, ff_16]))
        exact ih2 (g.rules[i].right.length - (j + 1)) (by omega) _ ⟨j + 1, ls, ys, kx, L, f3, f16, f17, f18, f4, f24, f25, rfl, hjl, hll, hmem', rfl⟩
    · obtain rfl : j = g.rules[i].right.length := by omega
      repeat (first | refine qqm rfl ?_ | ((first | refine qqr ?_ | refine qqt ?_); simp only [SS, qx28, simprocAttr, f24, f25, f26, hjl, f18, hiw, ff_16]))
      exact ih (g.rules.length - (i + 1)) (by omega) _ ⟨i + 1, ls, ys, kx, L, f3, f16, f17, rfl, hjr, hll, fun v h => by rw [callsN_succ hjr]; exact hmem v h, rfl⟩
  · obtain rfl : i = g.rules.length := by omega
    repeat (first | refine qqm rfl ?_ | ((first | refine qqr ?_ | refine qqt ?_); simp only [SS, qx28, simprocAttr, f16, f17, f18, hjr, ff_16]))
    first | refine qqf ?_ ?_ | refine qqg ?_ ?_
    · exact kk4.keep
    · simp only [packed, qv, Nat.reduceEqDiff, ↓reduceIte, f3, ff_16]
      have hcl : ∀ x ∈ ls.mapIdx (fun v l => (slp (ys v) l.length, l)), ∃ (v : Nat) (h : v < ls.length), x = (slp (ys v) ls[v].length, ls[v]) := fun x hx => by
        obtain ⟨v, hv, e⟩ := List.getElem_of_mem hx
        rw [List.getElem_mapIdx] at e
        exact ⟨v, by simpa using hv, e.symm⟩
      refine ⟨n + 1 + 1, pt, pv, pr, n + 1, ls.mapIdx (fun v l => (slp (ys v) l.length, l)), rfl, ⟨?_, ht.mono hw kk4, hv.mono hw kk4, hr.mono hw kk4, ?_, fun x hx => ?_, ?_, fun x hx => ?_, fun x hx => ?_⟩, ?_⟩
      · rw [List.length_mapIdx, hll]
        exact (kx.keep (n + 1 + 1) (by omega) (by omega)).trans hN
      · rw [L.hx]
        congr 1
        apply List.ext_getElem
        · rw [llcells_length, List.length_map, List.length_mapIdx]
        · intro v h1 h2
          have h3 : v < ls.length := by rwa [llcells_length] at h1
          have h4 := L.at h3
          rw [List.getElem?_eq_getElem h1] at h4
          rw [Option.some.inj h4, List.getElem_map, List.getElem_mapIdx]
          exact sl_eq _ _
      · obtain ⟨v, h, rfl⟩ := hcl x hx
        by_cases hn : ls[v] = []
        · rw [hn]
          exact ⟨.inl ⟨rfl, rfl⟩, fun z k e => by cases e⟩
        · have hy := L.hy v h hn
          rw [slp_pos (by simpa using hn)]
          exact ⟨.inr ⟨_, 0, _, _, true, rfl, hy, by rw [fm_len spC_len]; simp, by rw [List.drop_zero]; exact List.take_of_length_le (by rw [fm_len spC_len]; simp)⟩, fun z k e => by cases e; exact ⟨_, _, hy⟩⟩
      · rw [List.length_mapIdx, hll]
      · obtain ⟨v, h, rfl⟩ := hcl x hx
        rw [hmem v h]
        exact calls_vs
      · obtain ⟨v, h, rfl⟩ := hcl x hx
        show ls[v].length ≤ _
        rw [hmem v h]
        have h1 := callsN_len hlen24 v g.rules.length (Nat.le_refl _)
        have := ok.rules
        omega
      · unfold callsL
        apply List.ext_getElem
        · simp [hll]
        · intro v h1 h2
          simp only [List.getElem_mapIdx, List.getElem_map, List.getElem_range]
          exact hmem v (by simpa using h1)
end Go.Proofs.YtjlgpanihjnaeaaGreatDoor

namespace Go.Proofs.YtjlgpanihjnaeaaGreatDoor
open Go.AM
set_option maxRecDepth 100000
def startL(g:Gram)(v:Int):List CA:=if 0≤v∧v<g.vars.length then(ruleIx g v).map fun r=>(⟨(r:Nat),(r:Nat),0,[]⟩,none) else []
set_option maxHeartbeats 16000000 in
theorem start_gives{nn n cc:Nat}{H:Heap}{v:Int}{pt pv pr:Option Addr}{g:Gram}{cl:List (Option Addr × List (Int × Int))}(hw:WF n H)(ne:NE H nn pt pv pr g cc cl)(ok:RightOK g) :
  Gives Tryz.prog 18 [.pointer (some ⟨nn,0,none⟩),.int .i64 v] n H fun w _ H'=>∃p,w=.slice p (startL g v).length (startL g v).length∧RN 4 ccell H' p (startL g v):=by
 refine Gives.of orders ok18 (Nat.le_of_ble_eq_true rfl) ?_
 have hnet:=ne.net
 by_cases hv:0≤v∧v<g.vars.length
 ·have hv0:(v<0)=False:=eq_false (by omega)
  have hv1:((g.vars.length:Int)≤v)=False:=eq_false (by omega)
  have hg3:RG H (.agg (gcells pt pv pr g).toArray) g:=⟨_,_,_,rfl,ne.tms,ne.vrs,ne.rls⟩
  have v13:∀a b c d:Value,([a,b,c,d].drop 0).take 3=[a,b,c]:=fun _ _ _ _=>rfl
  have hgc:Value.agg (gcells pt pv pr g).toArray=.agg #[.slice pt g.terms.length g.terms.length,.slice pv g.vars.length g.vars.length,.slice pr g.rules.length g.rules.length]:=rfl
  have hrg2:=rules_gives (v:=v) hw hg3 ok
  rw[hgc]at hrg2
  repeat (first|refine qqm rfl ?_|((first|refine qqr ?_|refine qqt ?_);simp only[SS,qx36,simprocAttr,hnet,hv0,hv1,v13,aop_nc,tnc,decide_false,ff_18]))
  refine AtCall.by hrg2 ?_
  rintro w n1 H1 k1 ⟨a,b,rfl,hab,hbl,hix⟩
  have hrules:=ok.rules
  have hsl:startL g v=(List.range' a (b - a)).map fun r=>(⟨(r:Nat),(r:Nat),0,[]⟩,none):=by unfold startL;rw[if_pos hv,ruleIx_eq hab hbl hix]
  rw[hsl]
  simp only[SS,qx36,simprocAttr,List.toList_toArray,ff_18]
  repeat (first|refine qqm rfl ?_|((first|refine qqr ?_|refine qqt ?_);simp only[SS,qx36,simprocAttr,ff_18]))
  refine WK.loop (fun kk s=>∃(i y:Nat),Kp n H s.n s.H∧s.f 6=.int .i64 (b:Nat)∧s.f 8=.int .i64 (i:Nat)∧a≤i∧i≤b∧s.f 7=sl y (i - a)∧(i≠a→n≤y∧y<s.n∧s.H y=.cells (((List.range' a (i - a)).map fun r:Nat=>((⟨(r:Nat),(r:Nat),0,[]⟩,none):CA)).flatMap ccell) 82 true)∧kk=b - i) (b - a) ?_ ?_
  ·exact⟨a,0,k1,rfl,rfl,Nat.le_refl _,hab,by rw[Nat.sub_self];rfl,fun h=>absurd rfl h,rfl⟩
  rintro kk ⟨f,n2,H2⟩ ⟨i,y,k2,f6,f8,hai,hib,f7,hy,rfl⟩ ih
  simp only at k2 f6 f8 f7 hy ih
  have hw2:=k2.wf hw
  have hle2:=k2.le
  by_cases hlt:i<b
  ·have hiw:IntKind.i64.wrap ((i:Int)+1)=((i+1:Nat):Int):=by rw[wrap_in (by omega) (by omega)];rfl
   have hran:List.range' a (i+1 - a)=List.range' a (i - a)++[i]:=by
    rw[show i+1 - a=(i - a)+1 by omega,List.range'_concat]
    simp;omega
   have hfl:((List.range' a (i+1 - a)).map fun r:Nat=>((⟨(r:Nat),(r:Nat),0,[]⟩,none):CA)).flatMap ccell=((List.range' a (i - a)).map fun r:Nat=>((⟨(r:Nat),(r:Nat),0,[]⟩,none):CA)).flatMap ccell++[.int .i64 (i:Nat),.int .i64 (i:Nat),.int .i64 (0:Int),.slice none 0 0]:=by
    rw[hran,List.map_append,List.flatMap_append];rfl
   have hsl1:∀y,sl y (i+1 - a)=.slice (some ⟨y,0,none⟩) ((i - a:Nat)+1) ((i - a:Nat)+1):=fun y=>by rw[sl_pos (by omega),show i+1 - a=(i - a)+1 by omega]
   by_cases hia:i=a
   ·subst hia
    rw[Nat.sub_self,sl_zero]at f7
    repeat (first|refine qqm rfl ?_|((first|refine qqr ?_|refine qqt ?_);simp only[SS,qx36,simprocAttr,f6,f7,f8,hlt,hiw,ff_18]))
    refine ih (b - (i+1)) (by omega) _ ⟨i+1,n2+1,(k2.trans (Kp.new n2 _ _)).trans (Kp.new (n2+1) _ _),f6,rfl,by omega,hlt,?_,fun _=>⟨by omega,Nat.lt_succ_self _,?_⟩,rfl⟩
    ·show Value.slice (some ⟨n2+1,0,none⟩) 1 1=_
     rw[hsl1,Nat.sub_self]
    ·rw[hfl,Nat.sub_self]
     exact hset_at _ _ _
   ·obtain⟨hy1,hy2,hy3⟩:=hy hia
    rw[sl_pos (by omega)]at f7
    generalize hE:(((List.range' a (i - a)).map fun r:Nat=>((⟨(r:Nat),(r:Nat),0,[]⟩,none):CA)).flatMap ccell)=E at *
    have hEl:E.length=(i - a)*4:=by rw[←hE,fm_len ccell_len];simp
    have hEt:E.take ((i - a)*4)=E:=List.take_of_length_le (by omega)
    have hct:[n2].contains y=false:=by simp;omega
    have bl:i - a+1≤bigN:=by unfold bigN;omega
    have hy6:∀o,hset H2 n2 o y=_:=fun o=>(hset_ne _ _ _ (by omega)).trans hy3
    have v4:∀a b c d:Value,([a,b,c,d].drop 0).take 4=[a,b,c,d]:=fun _ _ _ _=>rfl
    repeat (first|refine qqm rfl ?_|((first|refine qqr ?_|refine qqt ?_);simp only[SS,qx36,simprocAttr,f6,f7,f8,hlt,hiw,hy3,hy6,hEl,hEt,hct,bl,v4,Nat.le_refl,List.drop_zero,hset_at,ff_18]))
    refine ih (b - (i+1)) (by omega) _ ⟨i+1,n2+1,((k2.trans (Kp.new n2 _ _)).set (x:=y) .dead hy1 (by omega)).trans (Kp.new (n2+1) _ _),f6,rfl,by omega,hlt,?_,fun _=>⟨by omega,Nat.lt_succ_self _,?_⟩,rfl⟩
    ·exact(hsl1 (n2+1)).symm
    ·rw[hfl]
     exact hset_at _ _ _
  ·obtain rfl:i=b:=by omega
   rw[sl_eq]at f7
   repeat (first|refine qqm rfl ?_|((first|refine qqr ?_|refine qqt ?_);simp only[SS,qx36,simprocAttr,f6,f7,f8,hlt,Nat.lt_irrefl,Int.lt_irrefl,ff_18]))
   first|refine qqf ?_ ?_|refine qqg ?_ ?_
   ·exact k2.keep
   ·simp only[packed,qv,Nat.reduceEqDiff,↓reduceIte,ff_18]
    refine⟨slp y (i - a),by simp,?_⟩
    by_cases hia:i=a
    ·subst hia
     rw[Nat.sub_self]
     exact .inl ⟨rfl,rfl⟩
    ·obtain⟨_,_,hy3⟩:=hy hia
     rw[slp_pos (by omega)]
     exact .inr ⟨y,0,_,_,true,rfl,hy3,by rw[fm_len ccell_len];simp,by rw[List.drop_zero];exact List.take_of_length_le (by rw[fm_len ccell_len];simp)⟩
 ·have hsl:startL g v=[]:=by unfold startL;rw[if_neg hv]
  rw[hsl]
  by_cases hv0:v<0
  ·repeat (first|refine qqm rfl ?_|((first|refine qqr ?_|refine qqt ?_);simp only[SS,qx36,simprocAttr,hnet,hv0,aop_nc,tnc,decide_true,ff_18]))
   first|refine qqf ?_ ?_|refine qqg ?_ ?_
   ·exact fun _ _=>rfl
   ·simp only[packed,qv,Nat.reduceEqDiff,↓reduceIte,ff_18]
    exact⟨none,rfl,.inl ⟨rfl,rfl⟩⟩
  ·have hv1:(g.vars.length:Int)≤v:=by omega
   repeat (first|refine qqm rfl ?_|((first|refine qqr ?_|refine qqt ?_);simp only[SS,qx36,simprocAttr,hnet,hv0,hv1,aop_nc,tnc,decide_true,decide_false,ff_18]))
   first|refine qqf ?_ ?_|refine qqg ?_ ?_
   ·exact fun _ _=>rfl
   ·simp only[packed,qv,Nat.reduceEqDiff,↓reduceIte,ff_18]
    exact⟨none,rfl,.inl ⟨rfl,rfl⟩⟩
end Go.Proofs.YtjlgpanihjnaeaaGreatDoor
