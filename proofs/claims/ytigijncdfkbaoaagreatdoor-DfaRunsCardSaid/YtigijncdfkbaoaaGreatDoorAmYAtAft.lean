/- A part of a proof. Its conditions: none. -/
import Derived.Test.YtigijncdfkbaoaaGreatDoorAmYAtNx14
set_option linter.all false
namespace Go.Proofs.YtigijncdfkbaoaaGreatDoor
open Go.AM
set_option maxRecDepth 100000
def XD(H:Heap)(x:CA):Prop:=StOK H x∧∀z k,x.2=some ⟨z,k,none⟩→∃cs own,H z=.cells cs 63 own
theorem XD.kx{n n' y:Nat}{H H':Heap}{x:CA}{cs:List Value}(h:XD H x)(hw:WF n H)(hy:H y=.cells cs 66 true)(k:Kx (fun z=>z=y) n H n' H'):XD H' x:=by
 have key:∀z cs own,H z=.cells cs 63 own→H' z=H z:=fun z cs own hz=>k.keep z (live_lt hw (live_of hz)) (by rintro rfl;rw[hy]at hz;simp at hz)
 refine⟨?_,fun z kz e=>?_⟩
 ·rcases h.1 with h1|⟨z,kz,cs,ty,own,e1,e2,e3,e4⟩
  ·exact .inl h1
  ·obtain⟨cs',own',e5⟩:=h.2 z kz e1
   exact .inr ⟨z,kz,cs,ty,own,e1,(key z _ _ e5).trans e2,e3,e4⟩
 ·obtain⟨cs,own,e5⟩:=h.2 z kz e
  exact⟨cs,own,(key z _ _ e5).trans e5⟩
theorem XD.kp{n n':Nat}{H H':Heap}{x:CA}(h:XD H x)(hw:WF n H)(k:Kp n H n' H'):XD H' x :=
 ⟨h.1.mono hw k,fun z kz e=>by obtain⟨cs,own,e5⟩:=h.2 z kz e;exact⟨cs,own,(k.keep z (live_lt hw (live_of e5))).trans e5⟩⟩
theorem XD.none{H:Heap}{c:Cfg}(h:c.stack=[]):XD H (c,Option.none):=⟨.inl ⟨rfl,h⟩,fun z k e=>by cases e⟩
theorem XD.own{H:Heap}{c:Cfg}{w:Nat}(h:H w=.cells (c.stack.flatMap spC) 63 true):XD H (c,some ⟨w,0,Option.none⟩) :=
 ⟨.inr ⟨w,0,_,_,true,rfl,h,by rw[fm_len spC_len];show 0+c.stack.length*2≤_;omega,by rw[List.drop_zero];exact List.take_of_length_le (by rw[fm_len spC_len];exact Nat.le_refl _)⟩,fun z k e=>by cases e;exact⟨_,_,h⟩⟩
theorem ruleIx_take(g:Gram)(s:Int)(i:Nat)(h:i<g.rules.length):(List.range (i+1)).filter (fun i=>decide ((g.rules[i]?).map (·.left)=some s))=(List.range i).filter (fun i=>decide ((g.rules[i]?).map (·.left)=some s))++if g.rules[i].left=s then [i] else []:=by
 rw[List.range_succ,List.filter_append]
 congr 1
 by_cases hs:g.rules[i].left=s <;> simp[hs,List.getElem?_eq_getElem h]
set_option maxHeartbeats 32000000 in
theorem after14_gives {n : Nat} {H : Heap} {x : CA} {v : Value} {g : Gram} (hw : WF n H) (hg : RG H v g) (ok : RightOK g) (gc : GC g x.1) (hx0 : XD H x) (hxl : x.1.stack.length ≤ 65536) :
    Gives Tryz.prog 45 [v, .agg (ccell x).toArray] n H fun v _ H' => ∃ y L, v = lv y L ∧ n ≤ y ∧ H' y = .cells (L.flatMap ccell) 66 true ∧ L.map (·.1) = stepL g (callsL g) x.1 ∧ ∀ z ∈ L, XD H' z := by
  have hg0 := hg
  have hx := hx0.1
  obtain ⟨pt, pv, pr, rfl, ht, hv, hr⟩ := hg
  have hi := ok.inG
  have hru := ok.rules
  have hlen : ∀ r ∈ g.rules, r.right.length ≤ 24 := fun r hr => by
    obtain ⟨i, hi, rfl⟩ := List.getElem_of_mem hr
    exact (ok.rule i hi).len
  refine Gives.of orders ok45 (Nat.le_of_ble_eq_true rfl) ?_
  have v1 : ∀ s, vcells (.agg (ccell s).toArray) = ccell s := fun _ => rfl
  have v2 : ∀ s, (ccell s).all one = true := fun _ => rfl
  have v0 : ∀ s, (ccell s)[0]? = some (.int .i64 s.1.alt) := fun _ => rfl
  have v3 : ∀ s, (ccell s)[1]? = some (.int .i64 s.1.rule) := fun _ => rfl
  have v8 : ∀ s, (ccell s)[2]? = some (.int .i64 s.1.dot) := fun _ => rfl
  have v4 : ∀ s, (ccell s)[3]? = some (.slice s.2 s.1.stack.length s.1.stack.length) := fun _ => rfl
  have v5 : ∀ s, (ccell s).length = 4 := fun _ => rfl
  repeat refine qqn rfl ?_
  (refine qqr ?_; simp only [SS, qx4, simprocAttr, abox, box_cells, box_one, v1, v2, ff_45])
  have k1 := Kp.new n H (.cells (gcells pt pv pr g) 25 true)
  have hG := hset_at H n (.cells (gcells pt pv pr g) 25 true)
  generalize hset H n (.cells (gcells pt pv pr g) 25 true) = H1 at *
  have k2 := Kp.new (n + 1) H1 (.cells (ccell x) 66 true)
  have hb := hset_at H1 (n + 1) (.cells (ccell x) 66 true)
  generalize hset H1 (n + 1) (.cells (ccell x) 66 true) = H2 at *
  have hG2 := (k2.keep n (by omega)).trans hG
  repeat refine qqn rfl ?_
  (refine qqr ?_; simp only [SS, qx4, simprocAttr, ff_45])
  have k3 := Kp.new (n + 1 + 1) H2 (.cells [] 66 true)
  have hO := hset_at H2 (n + 1 + 1) (.cells [] 66 true)
  generalize hset H2 (n + 1 + 1) (.cells [] 66 true) = H3 at *
  have hG3 := (k3.keep n (by omega)).trans hG2
  have hb3 := (k3.keep (n + 1) (by omega)).trans hb
  have k13 := k1.trans (k2.trans k3)
  by_cases hneg : x.1.rule < 0
  · repeat (first | refine qqm rfl ?_ | ((first | refine qqr ?_ | refine qqt ?_); simp only [SS, qx4, simprocAttr, hb3, v3, v5, hneg, ff_45]))
    first | refine qqf ?_ ?_ | refine qqg ?_ ?_
    · exact k13.keep
    · simp only [packed, qv, Nat.reduceEqDiff, ↓reduceIte, ff_45]
      refine ⟨n + 1 + 1, [], rfl, by omega, hO, ?_, fun z hz => by cases hz⟩
      unfold stepL
      rw [if_pos hneg]; rfl
  obtain ⟨r, hrr⟩ : ∃ r : Nat, x.1.rule = r := ⟨x.1.rule.toNat, by omega⟩
  have hneg' : (((r : Nat) : Int) < 0) = False := eq_false (by omega)
  have hrl : r < g.rules.length := by have := gc.1.1; omega
  have hrg : g.rules[x.1.rule.toNat]? = some g.rules[r] := by rw [hrr, Int.toNat_natCast, List.getElem?_eq_getElem hrl]
  obtain ⟨hd0, hd1⟩ := gc.1.2 _ (by omega) hrg
  have hw3 := k13.wf hw
  have hr3 := hr.mono hw k13
  obtain ⟨z, kz, ds, tz, oz, pp, hpr, hz, d0, d1, d2, hpp⟩ := hr3.at hrl
  have hzn := live_lt hw3 (live_of hz)
  have d3 := take3 d0 d1 d2
  have d4 := len3 d2
  have hmem := List.getElem_mem hrl
  have hri := hi.right _ hmem
  have hrl24 := hlen _ hmem
  have hleft := hi.left1 _ hmem
  have hleft0 := hi.left0 _ hmem
  have hst : stepL g (callsL g) x.1 = if x.1.dot = (g.rules[r].right.length : Int) then backL g (callsL g) x.1 else match g.rules[r].right[x.1.dot.toNat]? with
    | none => []
    | some s => if 0 ≤ s then (ruleIx g s).map fun i => ⟨x.1.alt, (i : Nat), 0, stkL g.rules[r] x.1⟩ else [] := by
    unfold stepL
    rw [if_neg hneg, hrg]
    rfl
  have hbk : x.1.stack = [] → backL g (callsL g) x.1 = (if g.rules[r].left = 0 then [⟨x.1.alt, -1, 0, []⟩] else []) ++ ((callsL g).getD g.rules[r].left.toNat []).map fun s => ⟨x.1.alt, s.1, s.2, []⟩ := fun h => by
    unfold backL
    rw [h, hrg]; rfl
  rw [hst]
  generalize g.rules[r] = ru at *
  obtain ⟨dt, hdt⟩ : ∃ dt : Nat, x.1.dot = dt := ⟨x.1.dot.toNat, by omega⟩
  have hd4 : (ccell x)[2]? = some (.int .i64 (dt : Nat)) := by rw [v8, hdt]
  subst hpr
  have sp3 : ∀ a b c : Value, AM.splice [.int .i64 (Int.ofNat 0), .slice none 0 0, .float .f64 0] 0 [a, b, c] = [a, b, c] := fun _ _ _ => rfl
  repeat refine qqn rfl ?_
  (refine qqr ?_; simp only [SS, qx4, simprocAttr, hb3, v3, v5, hneg, hneg', hrr, ff_45])
  repeat refine qqn rfl ?_
  refine qqm rfl ?_
  apply WK.skipSeq; apply WK.seq
  (refine qqr ?_; simp only [SS, qx4, simprocAttr, hb3, hG3, gc_2, v3, v5, hd4, hneg', hrr, hrl, hz, d3, d4, sp3, ff_45])
  have k4 := Kp.new (n + 1 + 1 + 1) H3 (.cells [.int .i64 ru.left, .slice pp ru.right.length ru.right.length, .float .f64 ru.weight] 70 true)
  have hR := hset_at H3 (n + 1 + 1 + 1) (.cells [.int .i64 ru.left, .slice pp ru.right.length ru.right.length, .float .f64 ru.weight] 70 true)
  generalize hset H3 (n + 1 + 1 + 1) (.cells [.int .i64 ru.left, .slice pp ru.right.length ru.right.length, .float .f64 ru.weight] 70 true) = H4 at *
  have k14 := k13.trans k4
  have hw4 := k14.wf hw
  have hG4 := (k4.keep n (by omega)).trans hG3
  have hb4 := (k4.keep (n + 1) (by omega)).trans hb3
  have hO4 := (k4.keep (n + 1 + 1) (by omega)).trans hO
  have hr4 := hr.mono hw k14
  have hx4 := hx.mono hw k14
  have hpp4 := hpp.mono hw3 k4
  have hcl : ∀ c : Int, (dt : Int) < (ru.right.length : Int) → True := fun _ _ => trivial
  by_cases hend : dt < ru.right.length
  · have hend' : ¬ x.1.dot = (ru.right.length : Int) := by omega
    have hendc : ((dt : Int) < (ru.right.length : Int)) = True := eq_true (by omega)
    obtain ⟨z4, kz4, c4, t4, o4, hp4, hz4, e4⟩ := hpp4.at hend
    rw [if_neg hend', hdt, Int.toNat_natCast, List.getElem?_eq_getElem hend]
    simp only
    subst hp4
    generalize ru.right[dt] = s at *
    generalize hW : (if 0 ≤ s then (ruleIx g s).map fun i : Nat => (⟨x.1.alt, (i : Nat), 0, stkL ru x.1⟩ : Cfg) else []) = W
    repeat (first | refine qqm rfl ?_ | ((first | refine qqr ?_ | refine qqt ?_); simp only [SS, qx4, simprocAttr, hb4, hR, v3, v5, hd4, hend, hendc, hz4, e4, ff_45]))
    refine WK.loop (fun kk s' => ∃ (i y : Nat) (L : List CA), Kx (fun z => z = n + 1 + 1 ∨ n + 1 + 1 + 1 + 1 ≤ z) (n + 1 + 1 + 1 + 1) H4 s'.n s'.H ∧ s'.f 2 = .pointer (some ⟨n, 0, none⟩) ∧ s'.f 3 = .pointer (some ⟨n + 1, 0, none⟩) ∧ s'.f 5 = lv y L ∧ s'.f 6 = .pointer (some ⟨n + 1 + 1 + 1, 0, none⟩) ∧ s'.f 7 = .int .i64 s ∧ s'.f 8 = .int .i64 (i : Nat) ∧
        i ≤ g.rules.length ∧ n + 1 + 1 ≤ y ∧ y ≠ n + 1 + 1 + 1 ∧ y < s'.n ∧ s'.H y = .cells (L.flatMap ccell) 66 true ∧ (∀ z ∈ L, XD s'.H z) ∧ L.length ≤ i ∧ L.map (·.1) = (if 0 ≤ s then ((List.range i).filter (fun i => decide ((g.rules[i]?).map (·.left) = some s))).map fun i : Nat => ⟨x.1.alt, (i : Nat), 0, stkL ru x.1⟩ else []) ∧ kk = g.rules.length - i) g.rules.length ?_ ?_
    · exact ⟨0, n + 1 + 1, [], Kx.refl _ _ _, rfl, rfl, rfl, rfl, rfl, rfl, Nat.zero_le _, Nat.le_refl _, by omega, by show _ < n + 1 + 1 + 1 + 1; omega, hO4, fun z hz => (by cases hz), Nat.zero_le _, by split <;> rfl, rfl⟩
    rintro kk ⟨f, n5, H5⟩ ⟨i, y, L, k5, f2, f3, f5, f6, f7, f8, hil, hy0, hy1, hyn, hy, hLx, hLl, hLm, rfl⟩ ih
    simp only at k5 f2 f3 f5 f6 f7 f8 hyn hy hLx ih
    have hle5 := k5.le
    have kk5 : Kp n H n5 H5 := ⟨by omega, fun z hz => (k5.keep z (by omega) (by omega)).trans (k14.keep z hz), fun h => k5.wf (k14.wf h)⟩
    have hw5 := kk5.wf hw
    have hG5 := (k5.keep n (by omega) (by omega)).trans hG4
    have hb5 := (k5.keep (n + 1) (by omega) (by omega)).trans hb4
    have hR5 := (k5.keep (n + 1 + 1 + 1) (by omega) (by omega)).trans hR
    by_cases hlt : i < g.rules.length
    · have hiw : IntKind.i64.wrap ((i : Int) + 1) = ((i + 1 : Nat) : Int) := by rw [wrap_in (by omega) (by omega)]; rfl
      obtain ⟨u, ku, cu, tu, ou, pu, hpu, hu, c0, c1, c2, hru'⟩ := (hr.mono hw kk5).at hlt
      simp at hpu
      obtain ⟨rfl, rfl, _⟩ := hpu
      by_cases hyes : 0 ≤ s ∧ g.rules[i].left = s
      · obtain ⟨hs0, hls⟩ := hyes
        repeat refine qqn rfl ?_
        (refine qqr ?_; simp only [SS, qx4, simprocAttr, f2, f8, hG5, gc_2, hlt, ff_45])
        repeat refine qqn rfl ?_
        refine qqm rfl ?_
        repeat refine qqn rfl ?_
        (refine qqr ?_; simp only [SS, qx4, simprocAttr, f2, f7, f8, hG5, gc_2, hlt, hs0, hu, c0, hls, decide_true, ff_45])
        repeat refine qqn rfl ?_
        refine qqm rfl ?_
        apply WK.seq
        have hx5 := hx.mono hw kk5
        refine WK.cut (fun s' => ∃ w, Kp n5 H5 s'.n s'.H ∧ s'.f 2 = .pointer (some ⟨n, 0, none⟩) ∧ s'.f 3 = .pointer (some ⟨n + 1, 0, none⟩) ∧ s'.f 5 = lv y L ∧ s'.f 6 = .pointer (some ⟨n + 1 + 1 + 1, 0, none⟩) ∧ s'.f 7 = .int .i64 s ∧ s'.f 8 = .int .i64 (i : Nat) ∧
            s'.f 9 = .slice (some ⟨w, 0, none⟩) x.1.stack.length x.1.stack.length ∧ s'.H w = .cells (x.1.stack.flatMap spC) 63 true ∧ n5 ≤ w ∧ w < s'.n) ?_ ?_
        · have q1 : ∀ o, hset H5 n5 o (n + 1) = _ := fun o => (hset_ne _ _ _ (by omega)).trans hb5
          have kq : ∀ A C, Kp n5 H5 (n5 + 1 + 1) (hset (hset (hset H5 n5 A) n5 .dead) (n5 + 1) C) := fun A C => ((Kp.new n5 H5 A).set (x := n5) .dead (by omega) (by omega)).trans (Kp.new (n5 + 1) _ _)
          rcases hx5 with ⟨h1, h2⟩ | ⟨x', k', cs, ty, own, h1, h2, h3, h4⟩
          · have hl0 : x.1.stack.length = 0 := by rw [h2]; rfl
            rw [h2]
            (refine qqr ?_; simp only [SS, qx4, simprocAttr, f3, hb5, q1, v4, v5, h1, hl0, hset_at, ff_45])
            exact WK.skipNil ⟨rfl, n5 + 1, kq _ _, f2, f3, f5, f6, f7, f8, rfl, hset_at _ _ _, by omega, Nat.lt_succ_self _⟩
          · have hxn := live_lt hw5 (live_of h2)
            have hcx : [x'].contains n5 = false := by simp; omega
            have q2 : ∀ o, hset H5 n5 o x' = _ := fun o => (hset_ne _ _ _ (by omega)).trans h2
            have bl : x.1.stack.length ≤ bigN := by unfold bigN; omega
            (refine qqr ?_; simp only [SS, qx4, simprocAttr, f3, hb5, q1, q2, v4, v5, h1, h3, h4, hset_at, bl, hcx, ff_45])
            exact WK.skipNil ⟨rfl, n5 + 1, (Kp.new n5 H5 .dead).trans (Kp.new (n5 + 1) _ _), f2, f3, f5, f6, f7, f8, rfl, hset_at _ _ _, by omega, Nat.lt_succ_self _⟩
        clear f2 f3 f5 f6 f7 f8
        rintro ⟨f, n6, H6⟩ ⟨w, k6, f2, f3, f5, f6, f7, f8, f9, hwr, hw0', hwn⟩
        simp only at k6 f2 f3 f5 f6 f7 f8 f9 hwr hwn
        have hle6 := k6.le
        have hw6 := k6.wf hw5
        have hb6 := (k6.keep (n + 1) (by omega)).trans hb5
        have hR6 := (k6.keep (n + 1 + 1 + 1) (by omega)).trans hR5
        apply WK.skipSeq; apply WK.seq
        refine WK.cut (fun s' => ∃ w, Kp n5 H5 s'.n s'.H ∧ s'.f 2 = .pointer (some ⟨n, 0, none⟩) ∧ s'.f 3 = .pointer (some ⟨n + 1, 0, none⟩) ∧ s'.f 5 = lv y L ∧ s'.f 6 = .pointer (some ⟨n + 1 + 1 + 1, 0, none⟩) ∧ s'.f 7 = .int .i64 s ∧ s'.f 8 = .int .i64 (i : Nat) ∧
            s'.f 9 = .slice (some ⟨w, 0, none⟩) (stkL ru x.1).length (stkL ru x.1).length ∧ s'.H w = .cells ((stkL ru x.1).flatMap spC) 63 true ∧ n5 ≤ w ∧ w < s'.n) ?_ ?_
        · have hdw : IntKind.i64.wrap ((dt : Int) + 1) = ((dt + 1 : Nat) : Int) := by rw [wrap_in (by omega) (by omega)]; rfl
          by_cases hput : x.1.stack = [] ∨ dt + 1 < ru.right.length
          · have hstk : stkL ru x.1 = x.1.stack ++ [((r : Int), ((dt + 1 : Nat) : Int))] := by
              unfold stkL
              rw [if_pos (by rcases hput with h | h; exact .inl h; exact .inr (by omega)), hrr, hdt]; rfl
            rw [hstk]
            have fl : (x.1.stack ++ [((r : Int), ((dt + 1 : Nat) : Int))]).flatMap spC = x.1.stack.flatMap spC ++ [.int .i64 (r : Int), .int .i64 ((dt + 1 : Nat) : Int)] := by rw [List.flatMap_append]; rfl
            have ll : (x.1.stack ++ [((r : Int), ((dt + 1 : Nat) : Int))]).length = x.1.stack.length + 1 := by simp
            rw [fl, ll]
            have hw2' : ∀ o, hset H6 n6 o w = _ := fun o => (hset_ne _ _ _ (by omega)).trans hwr
            have bl : x.1.stack.length + 1 ≤ bigN := by unfold bigN; omega
            have hct : [n6].contains w = false := by simp; omega
            have hfl : (x.1.stack.flatMap spC).length = x.1.stack.length * 2 := fm_len spC_len _
            have htk : (x.1.stack.flatMap spC).take (x.1.stack.length * 2) = x.1.stack.flatMap spC := List.take_of_length_le (by omega)
            have kq : ∀ A C, Kp n5 H5 (n6 + 1 + 1) (hset (hset (hset H6 n6 A) w .dead) (n6 + 1) C) := fun A C => ((k6.trans (Kp.new n6 H6 A)).set (x := w) .dead (by omega) (by omega)).trans (Kp.new (n6 + 1) _ _)
            by_cases hz0 : x.1.stack.length = 0
            · have hz0' : ((x.1.stack.length : Int) = 0) = True := eq_true (by omega)
              repeat (first | refine qqm rfl ?_ | ((first | refine qqr ?_ | refine qqt ?_); simp only [SS, qx4, simprocAttr, f3, f6, f9, hb6, hR6, v3, v5, hd4, hrr, hz0', decide_true, hdw, hw2', bl, hct, hfl, htk, hset_at, Nat.le_refl, List.drop_zero, ff_45]))
              exact WK.skipNil ⟨rfl, n6 + 1, kq _ _, f2, f3, f5, f6, f7, f8, rfl, hset_at _ _ _, by omega, Nat.lt_succ_self _⟩
            · have hz0' : ((x.1.stack.length : Int) = 0) = False := eq_false (by omega)
              have hdl : dt + 1 < ru.right.length := by rcases hput with h | h; exact absurd (by rw [h]; rfl) hz0; exact h
              have hdl' : (((dt + 1 : Nat) : Int) < (ru.right.length : Int)) = True := eq_true (by omega)
              repeat (first | refine qqm rfl ?_ | ((first | refine qqr ?_ | refine qqt ?_); simp only [SS, qx4, simprocAttr, f3, f6, f9, hb6, hR6, v3, v5, hd4, hrr, hz0', hdl', decide_true, decide_false, hdw, hw2', bl, hct, hfl, htk, hset_at, Nat.le_refl, List.drop_zero, ff_45]))
              exact WK.skipNil ⟨rfl, n6 + 1, kq _ _, f2, f3, f5, f6, f7, f8, rfl, hset_at _ _ _, by omega, Nat.lt_succ_self _⟩
          · have hstk : stkL ru x.1 = x.1.stack := by
              unfold stkL
              rw [if_neg (by rintro (h | h); exact hput (.inl h); exact hput (.inr (by omega)))]
            rw [hstk]
            have hz0 : ((x.1.stack.length : Int) = 0) = False := eq_false (fun h => hput (.inl (List.eq_nil_of_length_eq_zero (by omega))))
            have hdl' : (((dt + 1 : Nat) : Int) < (ru.right.length : Int)) = False := eq_false (fun h => hput (.inr (by omega)))
            repeat (first | refine qqm rfl ?_ | ((first | refine qqr ?_ | refine qqt ?_); simp only [SS, qx4, simprocAttr, f3, f6, f9, hb6, hR6, v3, v5, hd4, hrr, hz0, hdl', decide_false, hdw, ff_45]))
            exact WK.skipNil ⟨rfl, w, k6, f2, f3, f5, f6, f7, f8, f9, hwr, hw0', hwn⟩
        clear k6 f2 f3 f5 f6 f7 f8 f9 hwr hw0' hwn hle6 hw6 hb6 hR6 w
        rintro ⟨f, n7, H7⟩ ⟨w, k7, f2, f3, f5, f6, f7, f8, f9, hwr, hw0', hwn⟩
        simp only at k7 f2 f3 f5 f6 f7 f8 f9 hwr hwn
        have hle7 := k7.le
        have hb7 := (k7.keep (n + 1) (by omega)).trans hb5
        have hy7 : ∀ o, hset H7 n7 o y = _ := fun o => (hset_ne _ _ _ (by omega)).trans ((k7.keep y hyn).trans hy)
        have bl : L.length + 1 ≤ bigN := by unfold bigN; omega
        have hct : [n7].contains y = false := by simp; omega
        have hfl : (L.flatMap ccell).length = L.length * 4 := fm_len ccell_len _
        have htk : (L.flatMap ccell).take (L.length * 4) = L.flatMap ccell := List.take_of_length_le (by omega)
        generalize hS : stkL ru x.1 = stk at *
        repeat (first | refine qqm rfl ?_ | ((first | refine qqr ?_ | refine qqt ?_); simp only [SS, qx4, simprocAttr, f3, f5, f8, f9, hb7, v0, v5, hy7, bl, hct, hfl, htk, hset_at, hiw, Nat.le_refl, List.drop_zero, ff_45]))
        have k57 : ∀ A C, Kx (fun z => z = y) n5 H5 (n7 + 1 + 1) (hset (hset (hset H7 n7 A) y .dead) (n7 + 1) C) := fun A C => (((k7.trans (Kp.new n7 H7 A)).kx (X := fun z => z = y)).set (x := y) .dead (.inl rfl) (by omega)).trans (Kp.new (n7 + 1) _ C).kx
        refine ih (g.rules.length - (i + 1)) (by omega) _ ?_
        refine ⟨i + 1, n7 + 1, L ++ [(⟨x.1.alt, (i : Nat), 0, stk⟩, some ⟨w, 0, none⟩)], ?_, f2, f3, ?_, f6, f7, rfl, hlt, by omega, by omega, Nat.lt_succ_self _, ?_, fun q hq => ?_, by simp; omega, ?_, rfl⟩
        · refine k5.trans ((k57 _ _).mono fun q hq hqy => ?_)
          have hqy' : q = y := hqy
          show q = n + 1 + 1 ∨ n + 1 + 1 + 1 + 1 ≤ q
          omega
        · simp only [lv, List.length_append, List.length_singleton]; rfl
        · rw [List.flatMap_append, List.flatMap_singleton]; exact hset_at _ _ _
        · rcases List.mem_append.1 hq with hq | hq
          · exact (hLx q hq).kx hw5 hy (k57 _ _)
          · rw [List.mem_singleton] at hq
            rw [hq]
            exact XD.own ((hset_ne _ _ _ (by omega)).trans ((hset_ne _ _ _ (by omega)).trans ((hset_ne _ _ _ (by omega)).trans hwr)))
        · rw [List.map_append, hLm, if_pos hs0, if_pos hs0, ruleIx_take g s i hlt, if_pos hls, List.map_append]; rfl
      · have hLm' : L.map (·.1) = (if 0 ≤ s then ((List.range (i + 1)).filter (fun i => decide ((g.rules[i]?).map (·.left) = some s))).map fun i : Nat => ⟨x.1.alt, (i : Nat), 0, stkL ru x.1⟩ else []) := by
          rw [hLm]
          by_cases hs0 : 0 ≤ s
          · rw [if_pos hs0, if_pos hs0, ruleIx_take g s i hlt, if_neg (fun h => hyes ⟨hs0, h⟩), List.append_nil]
          · rw [if_neg hs0, if_neg hs0]
        by_cases hs0 : 0 ≤ s
        · have hls : ¬ g.rules[i].left = s := fun h => hyes ⟨hs0, h⟩
          repeat (first | refine qqm rfl ?_ | ((first | refine qqr ?_ | refine qqt ?_); simp only [SS, qx4, simprocAttr, f2, f7, f8, hG5, gc_2, hlt, hs0, hu, c0, hls, decide_true, decide_false, hiw, ff_45]))
          refine ih (g.rules.length - (i + 1)) (by omega) _ ?_
          exact ⟨i + 1, y, L, k5, f2, f3, f5, f6, f7, rfl, hlt, hy0, hy1, hyn, hy, hLx, by omega, hLm', rfl⟩
        · repeat (first | refine qqm rfl ?_ | ((first | refine qqr ?_ | refine qqt ?_); simp only [SS, qx4, simprocAttr, f2, f7, f8, hG5, gc_2, hlt, hs0, decide_false, hiw, ff_45]))
          refine ih (g.rules.length - (i + 1)) (by omega) _ ?_
          exact ⟨i + 1, y, L, k5, f2, f3, f5, f6, f7, rfl, hlt, hy0, hy1, hyn, hy, hLx, by omega, hLm', rfl⟩
    · obtain rfl : i = g.rules.length := by omega
      repeat (first | refine qqm rfl ?_ | ((first | refine qqr ?_ | refine qqt ?_); simp only [SS, qx4, simprocAttr, f2, f5, f8, hG5, gc_2, hlt, ff_45]))
      first | refine qqf ?_ ?_ | refine qqg ?_ ?_
      · exact kk5.keep
      · simp only [packed, qv, Nat.reduceEqDiff, ↓reduceIte, ff_45]
        exact ⟨y, L, rfl, by omega, hy, hLm.trans hW, hLx⟩
  · have hend' : x.1.dot = (ru.right.length : Int) := by omega
    have hendc : ((dt : Int) < (ru.right.length : Int)) = False := eq_false (by omega)
    rw [if_pos hend']
    repeat refine qqn rfl ?_
    (refine qqr ?_; simp only [SS, qx4, simprocAttr, hb4, hR, v3, v5, hd4, hend, hendc, ff_45])
    repeat refine qqn rfl ?_
    refine qqm rfl ?_
    repeat refine qqn rfl ?_
    (refine qqr ?_; simp only [SS, qx4, simprocAttr, hb4, hR, v4, v5, ff_45])
    repeat refine qqn rfl ?_
    rcases List.eq_nil_or_concat x.1.stack with hnil | ⟨p, q, hpq⟩
    · have hl0 : x.1.stack.length = 0 := by rw [hnil]; rfl
      rw [hbk hnil]
      have hl0' : ((0 : Int) < (x.1.stack.length : Int)) = False := eq_false (by omega)
      have hcd : (callsL g).getD ru.left.toNat [] = callsN g g.rules.length ru.left.toNat := by
        unfold callsL
        rw [List.getD_eq_getElem?_getD, List.getElem?_map, List.getElem?_range (by omega)]; rfl
      rw [hcd]
      obtain ⟨E, hE⟩ : ∃ E, E = (if ru.left = 0 then [(⟨x.1.alt, -1, 0, []⟩ : Cfg)] else []) := ⟨_, rfl⟩
      rw [← hE]
      (refine qqr ?_; simp only [SS, qx4, simprocAttr, hl0', ff_45])
      repeat refine qqn rfl ?_
      refine qqm rfl ?_
      apply WK.skipSeq; apply WK.seq
      refine WK.cut (fun s' => ∃ (y : Nat) (L : List CA), Kx (fun z => z = n + 1 + 1 ∨ n + 1 + 1 + 1 + 1 ≤ z) (n + 1 + 1 + 1 + 1) H4 s'.n s'.H ∧ s'.f 2 = .pointer (some ⟨n, 0, none⟩) ∧ s'.f 3 = .pointer (some ⟨n + 1, 0, none⟩) ∧ s'.f 5 = lv y L ∧ s'.f 6 = .pointer (some ⟨n + 1 + 1 + 1, 0, none⟩) ∧
          n + 1 + 1 ≤ y ∧ y ≠ n + 1 + 1 + 1 ∧ y < s'.n ∧ s'.H y = .cells (L.flatMap ccell) 66 true ∧ (∀ z ∈ L, z.1.stack = [] ∧ z.2 = none) ∧ L.length ≤ 1 ∧ L.map (·.1) = E) ?_ ?_
      · by_cases hle0 : ru.left = 0
        · have q1 : ∀ o, hset H4 (n + 1 + 1 + 1 + 1) o (n + 1 + 1) = _ := fun o => (hset_ne _ _ _ (by omega)).trans hO4
          have bl : 0 + 1 ≤ bigN := by unfold bigN; omega
          have hct : [n + 1 + 1 + 1 + 1].contains (n + 1 + 1) = false := by simp
          rw [hE, if_pos hle0]
          repeat (first | refine qqm rfl ?_ | ((first | refine qqr ?_ | refine qqt ?_); simp only [SS, qx4, simprocAttr, hR, hb4, v0, v5, hle0, decide_true, q1, bl, hct, hset_at, ff_45]))
          have k46 : ∀ A C, Kx (fun z => z = n + 1 + 1 ∨ n + 1 + 1 + 1 + 1 ≤ z) (n + 1 + 1 + 1 + 1) H4 (n + 1 + 1 + 1 + 1 + 1 + 1) (hset (hset (hset H4 (n + 1 + 1 + 1 + 1) A) (n + 1 + 1) .dead) (n + 1 + 1 + 1 + 1 + 1) C) := fun A C => (((Kp.new (n + 1 + 1 + 1 + 1) H4 A).kx (X := fun z => z = n + 1 + 1 ∨ n + 1 + 1 + 1 + 1 ≤ z)).set (x := n + 1 + 1) .dead (.inl (.inl rfl)) (by omega)).trans (Kp.new (n + 1 + 1 + 1 + 1 + 1) _ C).kx
          exact WK.skipNil ⟨rfl, n + 1 + 1 + 1 + 1 + 1, [(⟨x.1.alt, -1, 0, []⟩, none)], k46 _ _, rfl, rfl, rfl, rfl, by omega, by omega, Nat.lt_succ_self _, hset_at _ _ _, fun z hz => by rw [List.mem_singleton] at hz; rw [hz]; exact ⟨rfl, rfl⟩, Nat.le_refl _, rfl⟩
        · rw [hE, if_neg hle0]
          repeat (first | refine qqm rfl ?_ | ((first | refine qqr ?_ | refine qqt ?_); simp only [SS, qx4, simprocAttr, hR, hle0, decide_false, ff_45]))
          exact WK.skipNil ⟨rfl, n + 1 + 1, [], Kx.refl _ _ _, rfl, rfl, rfl, rfl, by omega, by omega, by show _ < n + 1 + 1 + 1 + 1; omega, hO4, fun z hz => (by cases hz), Nat.zero_le _, rfl⟩
      rintro ⟨f, n5, H5⟩ ⟨y, L, k5, f2, f3, f5, f6, hy0, hy1, hyn, hy, hLx, hLl, hLm⟩
      simp only at k5 f2 f3 f5 f6 hyn hy
      obtain ⟨lf, hlf⟩ : ∃ lf : Nat, ru.left = lf := ⟨ru.left.toNat, by omega⟩
      rw [hlf, Int.toNat_natCast]
      rw [hlf] at hR
      have hEl : E.length ≤ 1 := by rw [← hLm, List.length_map]; exact hLl
      repeat (first | refine qqm rfl ?_ | ((first | refine qqr ?_ | refine qqt ?_); simp only [SS, qx4, simprocAttr, ff_45]))
      refine WK.loop (fun kk s' => ∃ (k y : Nat) (L : List CA), Kx (fun z => z = n + 1 + 1 ∨ n + 1 + 1 + 1 + 1 ≤ z) (n + 1 + 1 + 1 + 1) H4 s'.n s'.H ∧ s'.f 2 = .pointer (some ⟨n, 0, none⟩) ∧ s'.f 3 = .pointer (some ⟨n + 1, 0, none⟩) ∧ s'.f 5 = lv y L ∧ s'.f 6 = .pointer (some ⟨n + 1 + 1 + 1, 0, none⟩) ∧ s'.f 11 = .int .i64 (k : Nat) ∧
          n + 1 + 1 ≤ y ∧ y ≠ n + 1 + 1 + 1 ∧ y < s'.n ∧ s'.H y = .cells (L.flatMap ccell) 66 true ∧ (∀ z ∈ L, z.1.stack = [] ∧ z.2 = none) ∧ k ≤ g.rules.length ∧ L.map (·.1) = E ++ (callsN g k lf).map (fun s => (⟨x.1.alt, s.1, s.2, []⟩ : Cfg)) ∧ kk = g.rules.length - k) g.rules.length ?_ ?_
      · exact ⟨0, y, L, k5, f2, f3, f5, f6, rfl, hy0, hy1, hyn, hy, hLx, Nat.zero_le _, by rw [hLm]; exact (List.append_nil _).symm, rfl⟩
      clear k5 f2 f3 f5 f6 hy0 hy1 hyn hy hLx hLl hLm y L
      rintro kk ⟨f, n5, H5⟩ ⟨k, y, L, k5, f2, f3, f5, f6, f11, hy0, hy1, hyn, hy, hLx, hkl, hLm, rfl⟩ ih
      simp only at k5 f2 f3 f5 f6 f11 hyn hy ih
      have hG5 := (k5.keep n (by omega) (by omega)).trans hG4
      by_cases hlt : k < g.rules.length
      · have hiw : IntKind.i64.wrap ((k : Int) + 1) = ((k + 1 : Nat) : Int) := by rw [wrap_in (by omega) (by omega)]; rfl
        have hk24 := hlen _ (List.getElem_mem hlt)
        have hcl := callsN_len hlen lf k hkl
        repeat (first | refine qqm rfl ?_ | ((first | refine qqr ?_ | refine qqt ?_); simp only [SS, qx4, simprocAttr, f2, f11, hG5, gc_2, hlt, ff_45]))
        refine WK.loop (fun kk s' => ∃ (j y : Nat) (L : List CA), Kx (fun z => z = n + 1 + 1 ∨ n + 1 + 1 + 1 + 1 ≤ z) (n + 1 + 1 + 1 + 1) H4 s'.n s'.H ∧ s'.f 2 = .pointer (some ⟨n, 0, none⟩) ∧ s'.f 3 = .pointer (some ⟨n + 1, 0, none⟩) ∧ s'.f 5 = lv y L ∧ s'.f 6 = .pointer (some ⟨n + 1 + 1 + 1, 0, none⟩) ∧ s'.f 11 = .int .i64 (k : Nat) ∧ s'.f 12 = .int .i64 (j : Nat) ∧
            n + 1 + 1 ≤ y ∧ y ≠ n + 1 + 1 + 1 ∧ y < s'.n ∧ s'.H y = .cells (L.flatMap ccell) 66 true ∧ (∀ z ∈ L, z.1.stack = [] ∧ z.2 = none) ∧ j ≤ g.rules[k].right.length ∧ L.map (·.1) = E ++ (callsN g k lf ++ rowT g.rules[k] k j lf).map (fun s => (⟨x.1.alt, s.1, s.2, []⟩ : Cfg)) ∧ kk = g.rules[k].right.length - j) g.rules[k].right.length ?_ ?_
        · exact ⟨0, y, L, k5, f2, f3, f5, f6, f11, rfl, hy0, hy1, hyn, hy, hLx, Nat.zero_le _, by rw [hLm, rowT_zero, List.append_nil], rfl⟩
        clear k5 f2 f3 f5 f6 f11 hy0 hy1 hyn hy hLx hLm hG5 y L
        rintro kk ⟨f, n6, H6⟩ ⟨j, y, L, k6, f2, f3, f5, f6, f11, f12, hy0, hy1, hyn, hy, hLx, hjl, hLm, rfl⟩ ih2
        simp only at k6 f2 f3 f5 f6 f11 f12 hyn hy ih2
        have hle6 := k6.le
        have kk6 : Kp n H n6 H6 := ⟨by omega, fun z hz => (k6.keep z (by omega) (by omega)).trans (k14.keep z hz), fun h => k6.wf (k14.wf h)⟩
        have hw6 := kk6.wf hw
        have hG6 := (k6.keep n (by omega) (by omega)).trans hG4
        have hb6 := (k6.keep (n + 1) (by omega) (by omega)).trans hb4
        have hR6 := (k6.keep (n + 1 + 1 + 1) (by omega) (by omega)).trans hR
        obtain ⟨u, ku, cu, tu, ou, pu, hpu, hu, c0, c1, c2, hru'⟩ := (hr.mono hw kk6).at hlt
        simp at hpu
        obtain ⟨rfl, rfl, _⟩ := hpu
        have hLl : L.length ≤ 1 + (k * 24 + j) := by
          have h1 : L.length = (L.map (·.1)).length := (List.length_map _).symm
          have h2 := rowT_len g.rules[k] k j lf
          rw [h1, hLm, List.length_append, List.length_map, List.length_append]
          omega
        by_cases hjlt : j < g.rules[k].right.length
        · have hjw : IntKind.i64.wrap ((j : Int) + 1) = ((j + 1 : Nat) : Int) := by rw [wrap_in (by omega) (by omega)]; rfl
          obtain ⟨z4, kz4, c4, t4, o4, hp4, hz4, e4⟩ := hru'.at hjlt
          subst hp4
          by_cases hsy : g.rules[k].right[j] = (lf : Int)
          · have hrow : rowT g.rules[k] k (j + 1) lf = rowT g.rules[k] k j lf ++ [((k : Int), ((j + 1 : Nat) : Int))] := by
              rw [rowT_succ, List.getElem?_eq_getElem hjlt, if_pos (by rw [hsy])]
            have hy7 : ∀ o, hset H6 n6 o y = _ := fun o => (hset_ne _ _ _ (by omega)).trans hy
            have bl : L.length + 1 ≤ bigN := by unfold bigN; omega
            have hct : [n6].contains y = false := by simp; omega
            have hfl : (L.flatMap ccell).length = L.length * 4 := fm_len ccell_len _
            have htk : (L.flatMap ccell).take (L.length * 4) = L.flatMap ccell := List.take_of_length_le (by omega)
            repeat (first | refine qqm rfl ?_ | ((first | refine qqr ?_ | refine qqt ?_); simp only [SS, qx4, simprocAttr, f2, f3, f5, f6, f11, f12, hG6, hb6, hR6, gc_2, hlt, hu, c0, c1, hjlt, hz4, e4, hsy, decide_true, hjw, v0, v5, hy7, bl, hct, hfl, htk, hset_at, Nat.le_refl, List.drop_zero, ff_45]))
            have k67 : ∀ A C, Kx (fun z => z = n + 1 + 1 ∨ n + 1 + 1 + 1 + 1 ≤ z) (n + 1 + 1 + 1 + 1) H4 (n6 + 1 + 1) (hset (hset (hset H6 n6 A) y .dead) (n6 + 1) C) := fun A C => ((k6.trans (Kp.new n6 H6 A).kx).set (x := y) .dead (by omega) (by omega)).trans (Kp.new (n6 + 1) _ C).kx
            refine ih2 (g.rules[k].right.length - (j + 1)) (by omega) _ ?_
            refine ⟨j + 1, n6 + 1, L ++ [(⟨x.1.alt, (k : Nat), ((j + 1 : Nat) : Int), []⟩, none)], k67 _ _, f2, f3, ?_, f6, f11, rfl, by omega, by omega, Nat.lt_succ_self _, ?_, fun q hq => ?_, hjlt, ?_, rfl⟩
            · simp only [lv, List.length_append, List.length_singleton]; rfl
            · rw [List.flatMap_append, List.flatMap_singleton]; exact hset_at _ _ _
            · rcases List.mem_append.1 hq with hq | hq
              · exact hLx q hq
              · rw [List.mem_singleton] at hq
                rw [hq]; exact ⟨rfl, rfl⟩
            · rw [List.map_append, hLm, hrow, ← List.append_assoc, List.map_append (l₂ := [_]), List.append_assoc]; rfl
          · have hrow : rowT g.rules[k] k (j + 1) lf = rowT g.rules[k] k j lf := by
              rw [rowT_succ, List.getElem?_eq_getElem hjlt, if_neg (by simpa using hsy), List.append_nil]
            repeat (first | refine qqm rfl ?_ | ((first | refine qqr ?_ | refine qqt ?_); simp only [SS, qx4, simprocAttr, f2, f3, f5, f6, f11, f12, hG6, hb6, hR6, gc_2, hlt, hu, c0, c1, hjlt, hz4, e4, hsy, decide_false, hjw, ff_45]))
            refine ih2 (g.rules[k].right.length - (j + 1)) (by omega) _ ?_
            exact ⟨j + 1, y, L, k6, f2, f3, f5, f6, f11, rfl, hy0, hy1, hyn, hy, hLx, hjlt, by rw [hrow]; exact hLm, rfl⟩
        · obtain rfl : j = g.rules[k].right.length := by omega
          repeat (first | refine qqm rfl ?_ | ((first | refine qqr ?_ | refine qqt ?_); simp only [SS, qx4, simprocAttr, f2, f11, f12, hG6, gc_2, hlt, hu, c0, c1, hjlt, hiw, ff_45]))
          refine ih (g.rules.length - (k + 1)) (by omega) _ ?_
          exact ⟨k + 1, y, L, k6, f2, f3, f5, f6, rfl, hy0, hy1, hyn, hy, hLx, hlt, by rw [callsN_succ hlt]; exact hLm, rfl⟩
      · obtain rfl : k = g.rules.length := by omega
        have hle5 := k5.le
        repeat (first | refine qqm rfl ?_ | ((first | refine qqr ?_ | refine qqt ?_); simp only [SS, qx4, simprocAttr, f2, f5, f11, hG5, gc_2, hlt, ff_45]))
        first | refine qqf ?_ ?_ | refine qqg ?_ ?_
        · exact fun z hz => (k5.keep z (by omega) (by omega)).trans (k14.keep z hz)
        · simp only [packed, qv, Nat.reduceEqDiff, ↓reduceIte, ff_45]
          exact ⟨y, L, rfl, by omega, hy, hLm, fun q hq => by obtain ⟨c, a⟩ := q; obtain ⟨h1, h2⟩ := hLx _ hq; simp only at h1 h2; subst h2; exact XD.none h1⟩
    · have hsl : x.1.stack.length = p.length + 1 := by rw [hpq]; simp
      have hl0' : ((0 : Int) < (x.1.stack.length : Int)) = True := eq_true (by omega)
      have hbk2 : backL g (callsL g) x.1 = [⟨x.1.alt, q.1, q.2, p⟩] := by
        unfold backL
        rw [hpq, List.concat_eq_append, List.getLast?_concat, List.dropLast_concat]
      rw [hbk2]
      have hx4' := hx4
      rcases hx4 with ⟨h1, h2⟩ | ⟨x', k', cs, ty, own, h1, h2, h3, h4⟩
      · have h2' : x.1.stack = [] := h2
        rw [h2'] at hsl; simp at hsl
      obtain ⟨x2, k2', cs2, ty2, own2, q1, q2, q3, q4⟩ := RN.at hx4' spC_len (i := p.length) (by show _ < x.1.stack.length; omega)
      have he : x2 = x' ∧ k2' = k' := by
        have h1' : x.2 = some ⟨x', k', none⟩ := h1
        rw [h1'] at q1
        simp at q1
        exact ⟨q1.1.symm, q1.2.symm⟩
      obtain ⟨rfl, rfl⟩ := he
      rw [h2] at q2
      cases q2
      have hgq : x.1.stack[p.length]'(by omega) = q := by simp [hpq, List.concat_eq_append]
      rw [hgq] at q3
      obtain ⟨cs', own', hty⟩ := (hx0.kp hw k14).2 _ _ h1
      rw [h2] at hty
      cases hty
      have q1 : ∀ o, hset H4 (n + 1 + 1 + 1 + 1) o (n + 1) = _ := fun o => (hset_ne _ _ _ (by omega)).trans hb4
      have hxn := live_lt hw4 (live_of h2)
      have q2 : ∀ o, hset H4 (n + 1 + 1 + 1 + 1) o x2 = _ := fun o => (hset_ne _ _ _ (by omega)).trans h2
      have hm1 : IntKind.i64.wrap (((p.length + 1 : Nat) : Int) - 1) = (p.length : Int) := by rw [wrap_in (by omega) (by omega)]; omega
      have hcx : [x2].contains (n + 1 + 1 + 1 + 1) = false := by simp; omega
      have bl : p.length ≤ bigN := by unfold bigN; omega
      have hx1 : x.2 = some ⟨x2, k2', none⟩ := h1
      have s3 : spC q = [.int .i64 q.1, .int .i64 q.2] := rfl
      have hpre : (cs.drop k2').take (p.length * 2) = p.flatMap spC := by
        have h4' : (cs.drop k2').take (x.1.stack.length * 2) = x.1.stack.flatMap spC := h4
        have e : ((cs.drop k2').take (x.1.stack.length * 2)).take (p.length * 2) = (x.1.stack.flatMap spC).take (p.length * 2) := by rw [h4']
        rw [List.take_take, Nat.min_eq_left (by omega)] at e
        rw [e, hpq, List.concat_eq_append, List.flatMap_append, List.take_append_of_le_length (by rw [fm_len spC_len]; exact Nat.le_refl _)]
        exact List.take_of_length_le (by rw [fm_len spC_len]; exact Nat.le_refl _)
      have h3' : k2' + x.1.stack.length * 2 ≤ cs.length := h3
      have hpl : k2' + p.length * 2 ≤ cs.length := by omega
      rw [s3] at q3
      have hple : p.length ≤ p.length + 1 := Nat.le_succ _
      (refine qqr ?_; simp only [SS, qx4, simprocAttr, hl0', ff_45])
      repeat refine qqn rfl ?_
      refine qqm rfl ?_
      apply WK.seq
      have hiz : isz Tryz.prog 63 = some 2 := by kernel_rfl
      (refine WK.rgl [(1, 14), (3, 14), (7, 14)] (by kernel_rfl) ?_; simp only [wl, wl1_false, wl1_true, wl2_none, wl2_some, wl3_some, wl3_none, SS, forall_const, wx, tguard, acallee, top, tval, fput, tor, vsh, vbin, tload, tload2, tload3, tstore, tstore2, tstore3, Go.AM.splice, one, tidx, tidx2, tidx3, tfa, tfa2, tlen2, tlen3, tpick, tbox, talloc, still, still1, flat1, tbuild, afill, tbs, tbs2, tsl, tsl2, tsl3, tsl4, tsl5, Go.AM.bound, tap, tap2, tap3, tap4, tsrc, tsrc2, simprocAttr, hiz, hb4, q1, v0, v4, v5, hx1, hsl, hm1, h2, q2, q3, q4, hcx, bl, hpre, hpl, hple, csz_63, hset_at, Nat.lt_succ_self, implies_true, Nat.zero_mul, Nat.add_zero, Nat.sub_zero, Nat.zero_le, ff_45])
      refine ⟨light_cons rfl rfl ?_ (light_cons rfl rfl ?_ (light_cons rfl rfl ?_ light_nil)), ?_⟩
      · exact lapart_rw (by simp; omega)
      · exact lapart_rw (by simp; omega)
      · exact lapart_rw (by simp; omega)
      repeat refine qqn rfl ?_
      have k47 : ∀ A C, Kp (n + 1 + 1 + 1 + 1) H4 (n + 1 + 1 + 1 + 1 + 1 + 1 + 1) (hset (hset (hset H4 (n + 1 + 1 + 1 + 1) .dead) (n + 1 + 1 + 1 + 1 + 1) A) (n + 1 + 1 + 1 + 1 + 1 + 1) C) := fun A C => (Kp.new (n + 1 + 1 + 1 + 1) H4 .dead).trans ((Kp.new (n + 1 + 1 + 1 + 1 + 1) _ A).trans (Kp.new (n + 1 + 1 + 1 + 1 + 1 + 1) _ C))
      first | refine qqf ?_ ?_ | refine qqg ?_ ?_
      · exact (k14.trans (k47 _ _)).keep
      · simp only [packed, qv, Nat.reduceEqDiff, ↓reduceIte, ff_45]
        refine ⟨n + 1 + 1 + 1 + 1 + 1 + 1, [(⟨x.1.alt, q.1, q.2, p⟩, some ⟨n + 1 + 1 + 1 + 1 + 1, 0, none⟩)], rfl, by omega, hset_at _ _ _, rfl, fun z hz => ?_⟩
        rw [List.mem_singleton] at hz
        rw [hz]
        exact XD.own ((hset_ne _ _ _ (by omega)).trans (hset_at _ _ _))
end Go.Proofs.YtigijncdfkbaoaaGreatDoor
