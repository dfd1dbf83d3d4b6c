/- A part of a proof. Its conditions: none. -/
import Derived.Test.YtigijncdfkbaoaaGreatDoorAmYAtCl14
import Derived.Test.YtigijncdfkbaoaaGreatDoorAmYAtClose
set_option linter.all false
namespace Go.Proofs.YtigijncdfkbaoaaGreatDoor
open Go.AM
set_option maxRecDepth 100000
theorem startL_map{g:Gram}(ok:RightOK g)(v:Int):(startL g v).map (·.1)=(ruleIx g v).map fun r:Nat=>(⟨(r:Nat),(r:Nat),0,[]⟩:Cfg):=by
 unfold startL
 split
 ·rw[List.map_map];rfl
 ·rename_i h
  have:ruleIx g v=[]:=by
   unfold ruleIx
   refine List.filter_eq_nil_iff.2 fun i hi=>?_
   rw[List.mem_range]at hi
   rw[List.getElem?_eq_getElem hi]
   have h0:=ok.inG.left0 _ (List.getElem_mem hi)
   have h1:=ok.inG.left1 _ (List.getElem_mem hi)
   simp only[Option.map_some,Option.some.injEq,decide_eq_true_eq]
   rintro rfl
   exact h ⟨h0,h1⟩
  rw[this];rfl
set_option maxHeartbeats 16000000 in
theorem start14_gives {n : Nat} {H : Heap} {v : Int} {w : Value} {g : Gram} (hw : WF n H) (hg : RG H w g) (ok : RightOK g) :
    Gives Tryz.prog 19 [w, .int .i64 v] n H fun w _ H' => ∃ y L, w = lv y L ∧ H' y = .cells (L.flatMap ccell) 66 true ∧ L.map (·.1) = (startL g v).map (·.1) ∧ L.length ≤ g.rules.length ∧ ∀ z ∈ L, z.1.stack = [] ∧ z.2 = none := by
  obtain ⟨pt, pv, pr, rfl, ht, hvs, hr⟩ := hg
  have hru := ok.rules
  refine Gives.of orders ok19 (Nat.le_of_ble_eq_true rfl) ?_
  rw [startL_map ok]
  repeat refine qqn rfl ?_
  (refine qqr ?_; simp only [SS, qx46, simprocAttr, abox, box_cells, box_one, ff_19])
  have k1 := Kp.new n H (.cells (gcells pt pv pr g) 25 true)
  have hG := hset_at H n (.cells (gcells pt pv pr g) 25 true)
  generalize hset H n (.cells (gcells pt pv pr g) 25 true) = H1 at *
  have hw1 := k1.wf hw
  repeat refine qqn rfl ?_
  (refine qqr ?_; simp only [SS, qx46, simprocAttr, ff_19])
  have k2 := Kp.new (n + 1) H1 (.cells [] 66 true)
  have hO := hset_at H1 (n + 1) (.cells [] 66 true)
  generalize hset H1 (n + 1) (.cells [] 66 true) = H2 at *
  repeat (first | refine qqm rfl ?_ | ((first | refine qqr ?_ | refine qqt ?_); simp only [SS, qx46, simprocAttr, ff_19]))
  refine WK.loop (fun kk s => ∃ (i y : Nat) (L : List CA), Kp (n + 1) H1 s.n s.H ∧ n + 1 ≤ y ∧ y < s.n ∧ s.H y = .cells (L.flatMap ccell) 66 true ∧ (∀ z ∈ L, z.1.stack = [] ∧ z.2 = none) ∧ s.f 2 = .pointer (some ⟨n, 0, none⟩) ∧ s.f 1 = .int .i64 v ∧ s.f 5 = lv y L ∧ s.f 6 = .int .i64 (i : Nat) ∧ i ≤ g.rules.length ∧ L.length ≤ i ∧
      L.map (·.1) = ((List.range i).filter (fun i => decide ((g.rules[i]?).map (·.left) = some v))).map (fun r : Nat => (⟨(r : Nat), (r : Nat), 0, []⟩ : Cfg)) ∧ kk = g.rules.length - i) g.rules.length ?_ ?_
  · exact ⟨0, n + 1, [], k2, Nat.le_refl _, Nat.lt_succ_self _, hO, fun z hz => (by cases hz), rfl, rfl, rfl, rfl, Nat.zero_le _, Nat.zero_le _, rfl, rfl⟩
  rintro kk ⟨f, n5, H5⟩ ⟨i, y, L, k5, hy0, hyn, hy, hLx, f2, f1, f5, f6, hil, hLl, hLm, rfl⟩ ih
  simp only at k5 hyn hy f2 f1 f5 f6 ih
  have hle5 := k5.le
  have hG5 := (k5.keep n (by omega)).trans hG
  have kk5 := k1.trans k5
  by_cases hlt : i < g.rules.length
  · have hiw : IntKind.i64.wrap ((i : Int) + 1) = ((i + 1 : Nat) : Int) := by rw [wrap_in (by omega) (by omega)]; rfl
    obtain ⟨u, ku, cu, tu, ou, pu, hpu, hu, c0, c1, c2, hru'⟩ := (hr.mono hw kk5).at hlt
    subst hpu
    have hix := ruleIx_take g v i hlt
    by_cases hls : g.rules[i].left = v
    · rw [if_pos hls] at hix
      have hy7 : ∀ o, hset H5 n5 o y = _ := fun o => (hset_ne _ _ _ (by omega)).trans hy
      have bl : L.length + 1 ≤ bigN := by unfold bigN; omega
      have hct : [n5].contains y = false := by simp; omega
      have hfl : (L.flatMap ccell).length = L.length * 4 := fm_len ccell_len _
      have htk : (L.flatMap ccell).take (L.length * 4) = L.flatMap ccell := List.take_of_length_le (by omega)
      have hls' : (g.rules[i].left = v) = True := eq_true hls
      repeat (first | refine qqm rfl ?_ | ((first | refine qqr ?_ | refine qqt ?_); simp only [SS, qx46, simprocAttr, f1, f2, f5, f6, hlt, hG5, gc_2, hu, c0, hls', decide_true, hiw, hy7, bl, hct, hfl, htk, hset_at, Nat.le_refl, List.drop_zero, ff_19]))
      have k57 : ∀ A C, Kp (n + 1) H1 (n5 + 1 + 1) (hset (hset (hset H5 n5 A) y .dead) (n5 + 1) C) := fun A C => ((k5.trans (Kp.new n5 H5 A)).set (x := y) .dead hy0 (by omega)).trans (Kp.new (n5 + 1) _ C)
      refine ih (g.rules.length - (i + 1)) (by omega) _ ?_
      refine ⟨i + 1, n5 + 1, L ++ [(⟨(i : Nat), (i : Nat), 0, []⟩, none)], k57 _ _, by omega, Nat.lt_succ_self _, ?_, fun z hz => ?_, f2, f1, ?_, rfl, hlt, by simp; omega, ?_, rfl⟩
      · rw [List.flatMap_append, List.flatMap_singleton]; exact hset_at _ _ _
      · rcases List.mem_append.1 hz with hz | hz
        · exact hLx z hz
        · rw [List.mem_singleton] at hz; rw [hz]; exact ⟨rfl, rfl⟩
      · simp only [lv, List.length_append, List.length_singleton]; rfl
      · rw [List.map_append, hLm, hix, List.map_append]; rfl
    · rw [if_neg hls, List.append_nil] at hix
      have hls' : (g.rules[i].left = v) = False := eq_false hls
      repeat (first | refine qqm rfl ?_ | ((first | refine qqr ?_ | refine qqt ?_); simp only [SS, qx46, simprocAttr, f1, f2, f6, hlt, hG5, gc_2, hu, c0, hls', decide_false, hiw, ff_19]))
      refine ih (g.rules.length - (i + 1)) (by omega) _ ?_
      exact ⟨i + 1, y, L, k5, hy0, hyn, hy, hLx, f2, f1, f5, rfl, hlt, by omega, by rw [hix]; exact hLm, rfl⟩
  · obtain rfl : i = g.rules.length := by omega
    repeat (first | refine qqm rfl ?_ | ((first | refine qqr ?_ | refine qqt ?_); simp only [SS, qx46, simprocAttr, f2, f5, f6, hG5, gc_2, hlt, ff_19]))
    first | refine qqf ?_ ?_ | refine qqg ?_ ?_
    · exact kk5.keep
    · simp only [packed, qv, Nat.reduceEqDiff, ↓reduceIte, ff_19]
      exact ⟨y, L, rfl, hy, hLm, hLl, hLx⟩
def mvC(c:Cfg):Cfg:=⟨c.alt,c.rule,c.dot+1,c.stack⟩
def moveL(g:Gram)(t:Int)(l:List Cfg):List Cfg:=(l.filter fun c=>decide (0≤t∧nextL g c=t)).map mvC
theorem moveL_take{g:Gram}{t:Int}{L:List CA}{i:Nat}(h:i<L.length):moveL g t ((L.take (i+1)).map (·.1))=moveL g t ((L.take i).map (·.1))++if 0≤t∧nextL g L[i].1=t then [mvC L[i].1] else []:=by
 unfold moveL
 rw[List.take_add_one,List.getElem?_eq_getElem h,List.map_append,List.filter_append,List.map_append]
 congr 1
 by_cases hc:0≤t∧nextL g L[i].1=t <;> simp[hc]
theorem moveL_len{g:Gram}{t:Int}{l:List Cfg}:(moveL g t l).length≤l.length:=by
 unfold moveL
 rw[List.length_map]
 exact List.length_filter_le _ _
theorem moveL_at{g:Gram}{t:Int}{l:List Cfg}{c:Cfg}(h:c∈moveL g t l):∃d∈l,c=mvC d∧0≤t∧nextL g d=t:=by
 unfold moveL at h
 obtain⟨d,hd,rfl⟩:=List.mem_map.1 h
 obtain⟨h1,h2⟩:=List.mem_filter.1 hd
 simp only[decide_eq_true_eq]at h2
 exact⟨d,h1,rfl,h2⟩
theorem next_dot{g:Gram}{c:Cfg}{t:Int}(gc:GC g c)(h0:0≤t)(h:nextL g c=t):∃r:GRule,0≤c.rule∧g.rules[c.rule.toNat]? = some r∧0≤c.dot∧c.dot<r.right.length:=by
 unfold nextL at h
 split at h
 ·omega
 rename_i hn
 split at h
 ·omega
 rename_i r hr
 obtain⟨d0,d1⟩:=gc.1.2 r (by omega) hr
 split at h
 ·omega
 exact⟨r,by omega,hr,d0,by omega⟩
theorem mvC_gc{g:Gram}{c:Cfg}{t:Int}(gc:GC g c)(h0:0≤t)(h:nextL g c=t):GC g (mvC c):=by
 obtain⟨r,_,hr,d0,d1⟩:=next_dot gc h0 h
 refine⟨⟨gc.1.1,fun r' h0' hr'=>?_⟩,gc.2⟩
 have hr'':g.rules[c.rule.toNat]? = some r':=hr'
 rw[hr]at hr''
 cases hr''
 exact⟨by show 0≤c.dot+1;omega,by show c.dot+1≤_;omega⟩
set_option maxHeartbeats 16000000 in
theorem move14_gives {n : Nat} {H : Heap} {t : Int} {w : Value} {p : Option Addr} {L : List CA} {g : Gram} (hw : WF n H) (hg : RG H w g) (ok : RightOK g) (hL : RN 4 ccell H p L) (hx : ∀ z ∈ L, XD H z) (hv : ∀ x ∈ L, GC g x.1) (hl : L.length ≤ 65536) :
    Gives Tryz.prog 23 [w, .slice p L.length L.length, .int .i64 t] n H fun w _ H' => ∃ y M, w = lv y M ∧ H' y = .cells (M.flatMap ccell) 66 true ∧ M.map (·.1) = moveL g t (L.map (·.1)) ∧ ∀ z ∈ M, XD H' z := by
  obtain ⟨pt, pv, pr, rfl, ht, hvs, hr⟩ := hg
  have hi := ok.inG
  have hru := ok.rules
  have hgl : g.terms.length ≤ 64 ∧ g.vars.length ≤ 64 := ⟨ok.terms, ok.vars⟩
  have hlen : ∀ r ∈ g.rules, r.right.length ≤ 24 := fun r hr => by
    obtain ⟨i, hi, rfl⟩ := List.getElem_of_mem hr
    exact (ok.rule i hi).len
  refine Gives.of orders ok23 (Nat.le_of_ble_eq_true rfl) ?_
  have v1 : ∀ s, vcells (.agg (ccell s).toArray) = ccell s := fun _ => rfl
  have v2 : ∀ s, (ccell s).all one = true := fun _ => rfl
  have v5 : ∀ s, (ccell s).length = 4 := fun _ => rfl
  have v6 : ∀ s, ((ccell s).drop 0).take 4 = ccell s := fun _ => rfl
  have v7 : ∀ s, (ccell s).take 4 = ccell s := fun _ => rfl
  have v8 : ∀ s, (ccell s)[2]? = some (.int .i64 s.1.dot) := fun _ => rfl
  have hs4 : ∀ (a b c d : Value) (x : CA), AM.splice [a, b, c, d] 0 (ccell x) = ccell x := fun _ _ _ _ _ => rfl
  have hs5 : ∀ (x : CA), AM.splice (ccell x) 2 [.int .i64 (x.1.dot + 1)] = ccell (mvC x.1, x.2) := fun _ => rfl
  have g2 : ((gcells pt pv pr g).drop 0).take 3 = gcells pt pv pr g := rfl
  have g3 : (gcells pt pv pr g).length = 3 := rfl
  repeat refine qqn rfl ?_
  (refine qqr ?_; simp only [SS, qx36, simprocAttr, abox, box_cells, box_one, ff_23])
  have k1 := Kp.new n H (.cells (gcells pt pv pr g) 25 true)
  have hG := hset_at H n (.cells (gcells pt pv pr g) 25 true)
  generalize hset H n (.cells (gcells pt pv pr g) 25 true) = H1 at *
  have hw1 := k1.wf hw
  repeat refine qqn rfl ?_
  (refine qqr ?_; simp only [SS, qx36, simprocAttr, ff_23])
  have k2 := Kp.new (n + 1) H1 (.cells [] 66 true)
  have hO := hset_at H1 (n + 1) (.cells [] 66 true)
  generalize hset H1 (n + 1) (.cells [] 66 true) = H2 at *
  have hgat : ∀ {m : Nat} {J : Heap}, Kp (n + 1) H1 m J → RG J (.agg (gcells pt pv pr g).toArray) g := fun k => ⟨pt, pv, pr, rfl, ht.mono hw (k1.trans k), hvs.mono hw (k1.trans k), hr.mono hw (k1.trans k)⟩
  repeat (first | refine qqm rfl ?_ | ((first | refine qqr ?_ | refine qqt ?_); simp only [SS, qx36, simprocAttr, ff_23]))
  refine WK.loop (fun kk s => ∃ (i y : Nat) (M : List CA), Kp (n + 1) H1 s.n s.H ∧ n + 1 ≤ y ∧ y < s.n ∧ s.H y = .cells (M.flatMap ccell) 66 true ∧ (∀ z ∈ M, XD s.H z) ∧ s.f 3 = .pointer (some ⟨n, 0, none⟩) ∧ s.f 1 = .slice p L.length L.length ∧ s.f 2 = .int .i64 t ∧ s.f 7 = lv y M ∧ s.f 8 = .int .i64 (i : Nat) ∧ i ≤ L.length ∧ M.length ≤ i ∧
      M.map (·.1) = moveL g t ((L.take i).map (·.1)) ∧ kk = L.length - i) L.length ?_ ?_
  · exact ⟨0, n + 1, [], k2, Nat.le_refl _, Nat.lt_succ_self _, hO, fun z hz => (by cases hz), rfl, rfl, rfl, rfl, rfl, Nat.zero_le _, Nat.zero_le _, rfl, rfl⟩
  rintro kk ⟨f, n5, H5⟩ ⟨i, y, M, k5, hy0, hyn, hy, hMx, f3, f1, f2, f7, f8, hil, hMl, hMm, rfl⟩ ih
  simp only at k5 hyn hy hMx f3 f1 f2 f7 f8 ih
  have hle5 := k5.le
  have hG5 := (k5.keep n (by omega)).trans hG
  have kk5 := k1.trans k5
  have hw5 := kk5.wf hw
  by_cases hlt : i < L.length
  · have hiw : IntKind.i64.wrap ((i : Int) + 1) = ((i + 1 : Nat) : Int) := by rw [wrap_in (by omega) (by omega)]; rfl
    have hmt := moveL_take (g := g) (t := t) hlt
    have hmem := List.getElem_mem hlt
    by_cases ht0 : 0 ≤ t
    · obtain ⟨u, k0, cs, ty, own, q1, q2, q3, q4⟩ := (hL.mono hw kk5).at ccell_len hlt
      subst q1
      have hun := live_lt hw5 (live_of q2)
      repeat (first | refine qqm rfl ?_ | ((first | refine qqr ?_ | refine qqt ?_); simp only [SS, qx36, simprocAttr, f1, f2, f3, f8, hlt, hG5, g2, g3, q2, q3, q4, ht0, decide_true, ff_23]))
      refine AtCall.by (next14_gives hw5 (hgat k5) hi hgl hlen (hv _ hmem).1) ?_
      rintro _ n6 H6 k6 rfl
      have hw6 := k6.wf hw5
      have hle6 := k6.le
      have k56 := k5.trans k6
      have q26 := (k6.keep u hun).trans q2
      have hy6 := (k6.keep y hyn).trans hy
      by_cases hnx : nextL g L[i].1 = t
      · rw [if_pos ⟨ht0, hnx⟩] at hmt
        obtain ⟨ru, r0, hr1, d0, d1⟩ := next_dot (hv _ hmem) ht0 hnx
        have hd24 := hlen ru (List.mem_of_getElem? hr1)
        have hdw : IntKind.i64.wrap (L[i].1.dot + 1) = L[i].1.dot + 1 := wrap_in (by omega) (by omega)
        have hxm : XD H6 (mvC L[i].1, L[i].2) := (hx _ hmem).kp hw (kk5.trans k6)
        generalize hz : L[i] = z at *
        have hy7 : ∀ o o' o'', hset (hset (hset H6 n6 o) n6 o') (n6 + 1) o'' y = _ := fun o o' o'' => (hset_ne _ _ _ (by omega)).trans ((hset_ne _ _ _ (by omega)).trans ((hset_ne _ _ _ (by omega)).trans hy6))
        have hy8 : ∀ o o'', hset (hset H6 n6 o) (n6 + 1) o'' y = _ := fun o o'' => (hset_ne _ _ _ (by omega)).trans ((hset_ne _ _ _ (by omega)).trans hy6)
        have bl : M.length + 1 ≤ bigN := by unfold bigN; omega
        have hct : [n6 + 1].contains y = false := by simp; omega
        have hfl : (M.flatMap ccell).length = M.length * 4 := fm_len ccell_len _
        have htk : (M.flatMap ccell).take (M.length * 4) = M.flatMap ccell := List.take_of_length_le (by omega)
        simp only [SS, qx36, simprocAttr, hnx, f2, decide_true, ff_23]
        repeat (first | refine qqm rfl ?_ | ((first | refine qqr ?_ | refine qqt ?_); simp only [SS, qx36, simprocAttr, f1, f7, f8, hlt, q26, q3, q4, v1, v2, v5, v6, v7, v8, hs4, hs5, hdw, hiw, hy7, hy8, bl, hct, hfl, htk, hset_at, hset_hset, Nat.le_refl, List.drop_zero, ff_23]))
        have k69 : ∀ A B C, Kx (fun z => z = y) n6 H6 (n6 + 1 + 1 + 1) (hset (hset (hset (hset H6 n6 A) (n6 + 1) B) y .dead) (n6 + 1 + 1) C) := fun A B C => ((((Kp.new n6 H6 A).trans (Kp.new (n6 + 1) _ B)).kx (X := fun z => z = y)).set (x := y) .dead (.inl rfl) (by omega)).trans (Kp.new (n6 + 1 + 1) _ C).kx
        have k59 := k69 (.cells (ccell (mvC z.1, z.2)) 66 true) (.cells (ccell (mvC z.1, z.2)) 66 true) (.cells (M.flatMap ccell ++ ccell (mvC z.1, z.2)) 66 true)
        refine ih (L.length - (i + 1)) (by omega) _ ?_
        refine ⟨i + 1, n6 + 1 + 1, M ++ [(mvC z.1, z.2)], ⟨by show n + 1 ≤ n6 + 1 + 1 + 1; omega, fun q hq => (k59.keep q (by omega) (by omega)).trans (k56.keep q hq), fun h => k59.wf (k56.wf h)⟩, by omega, Nat.lt_succ_self _, ?_, fun q hq => ?_, f3, f1, f2, ?_, rfl, hlt, by simp; omega, ?_, rfl⟩
        · rw [List.flatMap_append, List.flatMap_singleton]; exact hset_at _ _ _
        · rcases List.mem_append.1 hq with hq | hq
          · exact ((hMx q hq).kp hw5 k6).kx hw6 hy6 k59
          · rw [List.mem_singleton] at hq
            rw [hq]; exact hxm.kx hw6 hy6 k59
        · simp only [lv, List.length_append, List.length_singleton]; rfl
        · rw [List.map_append, hMm, hmt]; rfl
      · rw [if_neg (fun h => hnx h.2), List.append_nil] at hmt
        simp only [SS, qx36, simprocAttr, hnx, f2, decide_false, ff_23]
        repeat (first | refine qqm rfl ?_ | ((first | refine qqr ?_ | refine qqt ?_); simp only [SS, qx36, simprocAttr, f8, hiw, ff_23]))
        refine ih (L.length - (i + 1)) (by omega) _ ?_
        exact ⟨i + 1, y, M, k56, hy0, by show _ < n6; omega, hy6, fun z hz => (hMx z hz).kp hw5 k6, f3, f1, f2, f7, rfl, hlt, by omega, by rw [hmt]; exact hMm, rfl⟩
    · rw [if_neg (fun h => ht0 h.1), List.append_nil] at hmt
      repeat (first | refine qqm rfl ?_ | ((first | refine qqr ?_ | refine qqt ?_); simp only [SS, qx36, simprocAttr, f1, f2, f8, hlt, ht0, decide_false, hiw, ff_23]))
      refine ih (L.length - (i + 1)) (by omega) _ ?_
      exact ⟨i + 1, y, M, k5, hy0, hyn, hy, hMx, f3, f1, f2, f7, rfl, hlt, by omega, by rw [hmt]; exact hMm, rfl⟩
  · obtain rfl : i = L.length := by omega
    rw [List.take_length] at hMm
    repeat (first | refine qqm rfl ?_ | ((first | refine qqr ?_ | refine qqt ?_); simp only [SS, qx36, simprocAttr, f1, f7, f8, hlt, ff_23]))
    first | refine qqf ?_ ?_ | refine qqg ?_ ?_
    · exact kk5.keep
    · simp only [packed, qv, Nat.reduceEqDiff, ↓reduceIte, ff_23]
      exact ⟨y, M, rfl, hy, hMm, hMx⟩
end Go.Proofs.YtigijncdfkbaoaaGreatDoor

namespace Go.Proofs.YtigijncdfkbaoaaGreatDoor
open Go.AM
set_option maxRecDepth 100000
theorem spk_kx{n n' y:Nat}{H H':Heap}{cs:List Value}(hw:WF n H)(hy:H y=.cells cs 99 true)(k:Kx (fun z=>z=y) n H n' H'):SpK H H':=fun z _ _ hz=>(k.keep z (live_lt hw (live_of hz)) (by rintro rfl;rw[hy]at hz;simp at hz)).trans hz
set_option maxHeartbeats 16000000 in
theorem move_givesE {nn n cc : Nat} {H : Heap} {t : Int} {p : Option Addr} {L : List CA} {pt pv pr : Option Addr} {g : Gram} {cl : List (Option Addr × List (Int × Int))} (hw : WF n H) (ne : NE H nn pt pv pr g cc cl) (ok : RightOK g) (hL : L ≠ [] → RN 4 ccell H p L) (hx : ∀ z ∈ L, XC H z) (hv : ∀ x ∈ L, GC g x.1) (hl : L.length ≤ 65536) (hls : ∀ z ∈ L, z.1.stack.length ≤ 65536) :
    Gives Tryz.prog 42 [.pointer (some ⟨nn, 0, none⟩), .slice p L.length L.length, .int .i64 t] n H fun w _ H' => ∃ p' M, w = .slice p' M.length M.length ∧ RN 4 ccell H' p' M ∧ M.map (·.1) = moveL g t (L.map (·.1)) ∧ ∀ z ∈ M, XC H' z := by
  have hi := ok.inG
  have hgl : g.terms.length ≤ 64 ∧ g.vars.length ≤ 64 := ⟨ok.terms, ok.vars⟩
  have hlen : ∀ r ∈ g.rules, r.right.length ≤ 24 := fun r hr => by
    obtain ⟨i, hi, rfl⟩ := List.getElem_of_mem hr
    exact (ok.rule i hi).len
  refine Gives.of orders ok42 (Nat.le_of_ble_eq_true rfl) ?_
  have v1 : ∀ s, vcells (.agg (ccell s).toArray) = ccell s := fun _ => rfl
  have v2 : ∀ s, (ccell s).all one = true := fun _ => rfl
  have v0 : ∀ s, (ccell s)[0]? = some (.int .i64 s.1.alt) := fun _ => rfl
  have v3 : ∀ s, (ccell s)[1]? = some (.int .i64 s.1.rule) := fun _ => rfl
  have v8 : ∀ s, (ccell s)[2]? = some (.int .i64 s.1.dot) := fun _ => rfl
  have v4 : ∀ s, (ccell s)[3]? = some (.slice s.2 s.1.stack.length s.1.stack.length) := fun _ => rfl
  have v5 : ∀ s, (ccell s).length = 4 := fun _ => rfl
  have v6 : ∀ s, ((ccell s).drop 0).take 4 = ccell s := fun _ => rfl
  have hs4 : ∀ (a b c d : Value) (x : CA), AM.splice [a, b, c, d] 0 (ccell x) = ccell x := fun _ _ _ _ _ => rfl
  repeat (first | refine qqm rfl ?_ | ((first | refine qqr ?_ | refine qqt ?_); simp only [SS, qx31, simprocAttr, ff_42]))
  refine WK.loop (fun kk s => ∃ (i y : Nat) (M : List CA), Kp n H s.n s.H ∧ s.f 0 = .pointer (some ⟨nn, 0, none⟩) ∧ s.f 2 = .int .i64 t ∧ s.f 10 = .slice p L.length L.length ∧ s.f 11 = .int .i64 (L.length : Nat) ∧ s.f 12 = .int .i64 (i : Nat) ∧ s.f 7 = sl y M.length ∧ (M ≠ [] → n ≤ y ∧ y < s.n ∧ s.H y = .cells (M.flatMap ccell) 99 true) ∧ (∀ z ∈ M, XC s.H z) ∧ i ≤ L.length ∧ M.length ≤ i ∧
      M.map (·.1) = moveL g t ((L.take i).map (·.1)) ∧ kk = L.length - i) L.length ?_ ?_
  · exact ⟨0, 0, [], Kp.refl _ _, rfl, rfl, rfl, rfl, rfl, rfl, fun h => absurd rfl h, fun z hz => (by cases hz), Nat.zero_le _, Nat.zero_le _, rfl, rfl⟩
  rintro kk ⟨f, n5, H5⟩ ⟨i, y, M, k5, f0, f2, f10, f11, f12, f7, hy, hMx, hil, hMl, hMm, rfl⟩ ih
  simp only at k5 f0 f2 f10 f11 f12 f7 hy hMx ih
  have hle5 := k5.le
  have hw5 := k5.wf hw
  by_cases hlt : i < L.length
  · have hiw : IntKind.i64.wrap ((i : Int) + 1) = ((i + 1 : Nat) : Int) := by rw [wrap_in (by omega) (by omega)]; rfl
    have hmt := moveL_take (g := g) (t := t) hlt
    have hmem := List.getElem_mem hlt
    obtain ⟨u, k0, cs, ty, own, q1, q2, q3, q4⟩ := ((hL (by intro e; rw [e] at hlt; exact Nat.not_lt_zero _ hlt)).mono hw k5).at ccell_len hlt
    subst q1
    have hun := live_lt hw5 (live_of q2)
    have kn := Kp.new n5 H5 (.cells (ccell L[i]) 99 true)
    have k5n := k5.trans kn
    by_cases ht0 : 0 ≤ t
    · repeat (first | refine qqm rfl ?_ | ((first | refine qqr ?_ | refine qqt ?_); simp only [SS, qx31, simprocAttr, f0, f2, f10, f11, f12, hlt, q2, q3, q4, v1, v2, v5, v6, hs4, ht0, decide_true, hset_at, ff_42]))
      have hnn := hset_at H5 n5 (.cells (ccell L[i]) 99 true)
      generalize hset H5 n5 (.cells (ccell L[i]) 99 true) = H6 at *
      have hw6 := kn.wf hw5
      refine AtCall.by (next_gives hw k5n ne hi hgl hlen (hv _ hmem).1.1 (fun r h0 hr => (hv _ hmem).1.2 r h0 hr)) ?_
      rintro _ n7 H7 k7 rfl
      have hw7 := k7.wf hw6
      have hle7 := k7.le
      have k57 := k5n.trans k7
      have kn7 := kn.trans k7
      have hnn7 := (k7.keep n5 (by omega)).trans hnn
      by_cases hnx : nextL g L[i].1 = t
      · rw [if_pos ⟨ht0, hnx⟩] at hmt
        obtain ⟨ru, r0, hr1, d0, d1⟩ := next_dot (hv _ hmem) ht0 hnx
        have hd24 := hlen ru (List.mem_of_getElem? hr1)
        have hdw : IntKind.i64.wrap (L[i].1.dot + 1) = L[i].1.dot + 1 := wrap_in (by omega) (by omega)
        have hxc : XC H7 L[i] := (hx _ hmem).keep (Kp.spk hw k57)
        have hzl := hls _ hmem
        simp only [SS, qx31, simprocAttr, hnx, f2, decide_true, ff_42]
        repeat (first | refine qqm rfl ?_ | ((first | refine qqr ?_ | refine qqt ?_); simp only [SS, qx31, simprocAttr, f7, hnn7, v0, v3, v4, v5, v8, hdw, ff_42]))
        refine AtCall.by (clone_gives hw7 hxc (by omega)) ?_
        rintro _ n8 H8 k8 ⟨pc, rfl, hpc⟩
        have hw8 := k8.wf hw7
        have hle8 := k8.le
        have hnew := hpc.xc L[i].1.alt L[i].1.rule (L[i].1.dot + 1)
        have kn8 := kn7.trans k8
        have k58 := k57.trans k8
        generalize hz : L[i] = z at *
        by_cases hM0 : M = []
        · subst hM0
          have f7' : f 7 = .slice none 0 0 := f7
          simp only [SS, qx31, simprocAttr, f7', ff_42]
          repeat (first | refine qqm rfl ?_ | ((first | refine qqr ?_ | refine qqt ?_); simp only [SS, qx31, simprocAttr, f12, hiw, ff_42]))
          have k8p : ∀ A C, Kp n8 H8 (n8 + 1 + 1) (hset (hset H8 n8 A) (n8 + 1) C) := fun A C => (Kp.new n8 H8 A).trans (Kp.new (n8 + 1) _ C)
          refine ih (L.length - (i + 1)) (by omega) _ ?_
          refine ⟨i + 1, n8 + 1, [(mvC z.1, pc)], k58.trans (k8p _ _), f0, f2, f10, f11, rfl, rfl, fun _ => ⟨by omega, Nat.lt_succ_self _, hset_at _ _ _⟩, fun q hq => ?_, hlt, by simp, ?_, rfl⟩
          · rw [List.mem_singleton] at hq
            rw [hq]
            exact hnew.keep (Kp.spk hw8 (k8p _ _))
          · rw [hmt, ← hMm]; rfl
        · obtain ⟨hy0, hyn, hyc⟩ := hy hM0
          have hM1 : 0 < M.length := List.length_pos_iff.2 hM0
          have hsl0 : sl y M.length = .slice (some ⟨y, 0, none⟩) M.length M.length := sl_pos (by omega)
          have hyc8 := (kn8.keep y (by omega)).trans hyc
          have hy7 : ∀ o, hset H8 n8 o y = _ := fun o => (hset_ne _ _ _ (by omega)).trans hyc8
          have bl : M.length + 1 ≤ bigN := by unfold bigN; omega
          have hct : [n8].contains y = false := by simp; omega
          have hfl : (M.flatMap ccell).length = M.length * 4 := fm_len ccell_len _
          have htk : (M.flatMap ccell).take (M.length * 4) = M.flatMap ccell := List.take_of_length_le (by omega)
          simp only [SS, qx31, simprocAttr, f7, hsl0, hy7, bl, hct, hfl, htk, hset_at, Nat.le_refl, List.drop_zero, ff_42]
          repeat (first | refine qqm rfl ?_ | ((first | refine qqr ?_ | refine qqt ?_); simp only [SS, qx31, simprocAttr, f12, hiw, hy7, bl, hct, hfl, htk, hset_at, Nat.le_refl, List.drop_zero, ff_42]))
          have k8x : ∀ A C, Kx (fun z => z = y) n8 H8 (n8 + 1 + 1) (hset (hset (hset H8 n8 A) y .dead) (n8 + 1) C) := fun A C => (((Kp.new n8 H8 A).kx (X := fun z => z = y)).set (x := y) .dead (.inl rfl) (by omega)).trans (Kp.new (n8 + 1) _ C).kx
          refine ih (L.length - (i + 1)) (by omega) _ ?_
          have k8y := k8x (.cells (ccell (mvC z.1, pc)) 99 true) (.cells (M.flatMap ccell ++ ccell (mvC z.1, pc)) 99 true)
          refine ⟨i + 1, n8 + 1, M ++ [(mvC z.1, pc)], ⟨by show n ≤ n8 + 1 + 1; omega, fun q hq => (k8y.keep q (by omega) (by omega)).trans (k58.keep q hq), fun h => k8y.wf (k58.wf h)⟩, f0, f2, f10, f11, rfl, ?_, fun _ => ⟨by omega, Nat.lt_succ_self _, ?_⟩, fun q hq => ?_, hlt, by simp; omega, ?_, rfl⟩
          · rw [List.length_append, List.length_singleton, sl_pos (by omega)]; rfl
          · rw [List.flatMap_append, List.flatMap_singleton]; exact hset_at _ _ _
          · rcases List.mem_append.1 hq with hq | hq
            · exact ((hMx q hq).keep (Kp.spk hw5 kn8)).keep (spk_kx hw8 hyc8 k8y)
            · rw [List.mem_singleton] at hq
              rw [hq]
              exact hnew.keep (spk_kx hw8 hyc8 k8y)
          · rw [List.map_append, hMm, hmt]; rfl
      · rw [if_neg (fun h => hnx h.2), List.append_nil] at hmt
        simp only [SS, qx31, simprocAttr, hnx, f2, decide_false, ff_42]
        repeat (first | refine qqm rfl ?_ | ((first | refine qqr ?_ | refine qqt ?_); simp only [SS, qx31, simprocAttr, f12, hiw, ff_42]))
        refine ih (L.length - (i + 1)) (by omega) _ ?_
        exact ⟨i + 1, y, M, k57, f0, f2, f10, f11, rfl, f7, fun h => ⟨(hy h).1, by have := (hy h).2.1; show _ < n7; omega, (kn7.keep y (hy h).2.1).trans (hy h).2.2⟩, fun z hz => (hMx z hz).keep (Kp.spk hw5 kn7), hlt, by omega, by rw [hmt]; exact hMm, rfl⟩
    · rw [if_neg (fun h => ht0 h.1), List.append_nil] at hmt
      repeat (first | refine qqm rfl ?_ | ((first | refine qqr ?_ | refine qqt ?_); simp only [SS, qx31, simprocAttr, f0, f2, f10, f11, f12, hlt, q2, q3, q4, v1, v2, v5, v6, hs4, ht0, decide_false, hset_at, hiw, ff_42]))
      refine ih (L.length - (i + 1)) (by omega) _ ?_
      exact ⟨i + 1, y, M, k5n, f0, f2, f10, f11, rfl, f7, fun h => ⟨(hy h).1, by have := (hy h).2.1; show _ < n5 + 1; omega, (kn.keep y (hy h).2.1).trans (hy h).2.2⟩, fun z hz => (hMx z hz).keep (Kp.spk hw5 kn), hlt, by omega, by rw [hmt]; exact hMm, rfl⟩
  · obtain rfl : i = L.length := by omega
    rw [List.take_length] at hMm
    rw [sl_eq] at f7
    repeat (first | refine qqm rfl ?_ | ((first | refine qqr ?_ | refine qqt ?_); simp only [SS, qx31, simprocAttr, f7, f11, f12, hlt, ff_42]))
    first | refine qqf ?_ ?_ | refine qqg ?_ ?_
    · exact k5.keep
    · simp only [packed, qv, Nat.reduceEqDiff, ↓reduceIte, ff_42]
      refine ⟨slp y M.length, M, rfl, ?_, hMm, hMx⟩
      by_cases hM0 : M = []
      · subst hM0; exact .inl ⟨rfl, rfl⟩
      · obtain ⟨_, _, hyc⟩ := hy hM0
        have hM1 : 0 < M.length := List.length_pos_iff.2 hM0
        rw [slp_pos (by omega)]
        exact .inr ⟨y, 0, _, _, true, rfl, hyc, by rw [fm_len ccell_len]; omega, by rw [List.drop_zero]; exact List.take_of_length_le (by rw [fm_len ccell_len]; omega)⟩
theorem move_gives{nn n cc:Nat}{H:Heap}{t:Int}{p:Option Addr}{L:List CA}{pt pv pr:Option Addr}{g:Gram}{cl:List (Option Addr × List (Int × Int))}(hw:WF n H)(ne:NE H nn pt pv pr g cc cl)(ok:RightOK g)(hL:RN 4 ccell H p L)(hx:∀z∈L,XC H z)(hv:∀x∈L,GC g x.1)(hl:L.length≤65536)(hls:∀z∈L,z.1.stack.length≤65536) :
  Gives Tryz.prog 42 [.pointer (some ⟨nn,0,none⟩),.slice p L.length L.length,.int .i64 t] n H fun w _ H'=>∃p' M,w=.slice p' M.length M.length∧RN 4 ccell H' p' M∧M.map (·.1)=moveL g t (L.map (·.1))∧∀z∈M,XC H' z :=
 move_givesE hw ne ok (fun _=>hL) hx hv hl hls
end Go.Proofs.YtigijncdfkbaoaaGreatDoor
