/- A part of a proof. Its conditions: none. -/
import Derived.Test.YtigijncdfkbaoaaGreatDoorAmYLfRight
import Derived.Test.YtigijncdfkbaoaaGreatDoorAmC
import Derived.Test.YtigijncdfkbaoaaGreatDoorAmYAtStep
import Derived.Test.YtigijncdfkbaoaaGreatDoorAmD
import Derived.Test.YtigijncdfkbaoaaGreatDoorAmYKpD
set_option linter.all false
namespace Go.Proofs.YtigijncdfkbaoaaGreatDoor
open Go.AM
set_option maxRecDepth 100000
def allB(none:Bool)(right:List Int)(hs:List Bool):Bool:=if none then nulB right hs else prdB right hs
theorem allB_eq(nn:Bool)(right:List Int)(hs:List Bool):allB nn right hs=right.all fun s=>if 0≤s then hs.getD s.toNat false else !nn:=by
 unfold allB nulB prdB
 cases nn
 ·simp only[Bool.false_eq_true,if_false,Bool.not_false]
  congr 1;funext s
  split
  ·rename_i h;simp;omega
  ·rename_i h;simp;omega
 ·simp only[if_true,Bool.not_true]
  congr 1;funext s
  split
  ·rename_i h;simp[h]
  ·rename_i h;simp[h]
theorem all_gives{l:Int}{right:List Int}{wt:Nat}{p:Option Addr}{x n:Nat}{H:Heap}{hs:List Bool}{nn:Bool}(hw:WF n H)(hp:RA (Value.int .i64) H p right)
  (hx:H x=.cells (hs.map .bool) 4 true) (hl:right.length≤maxL) (hr:∀s∈right,s<hs.length) :
  Gives Tryz.prog 35 [.agg #[.int .i64 l,.slice p right.length right.length,.float .f64 wt],.slice (some ⟨x,0,none⟩) hs.length hs.length,.bool nn] n H fun v _ _=>v=.bool (allB nn right hs):=by
 refine Gives.of orders ok35 (Nat.le_of_ble_eq_true rfl) ?_
 have hk:=Kp.new n H (.cells [.int .i64 l,.slice p right.length right.length,.float .f64 wt] 70 true)
 have hb:=hset_at H n (.cells [.int .i64 l,.slice p right.length right.length,.float .f64 wt] 70 true)
 replace hp:=hp.mono hw hk
 replace hx:=(hk.keep x (live_lt hw (live_of hx))).trans hx
 repeat refine qqn rfl ?_
 (refine qqr ?_;simp only[SS,qx0,vun,simprocAttr,ff_35])
 repeat refine qqn rfl ?_
 generalize hset H n (.cells [.int .i64 l,.slice p right.length right.length,.float .f64 wt] 70 true)=H1 at *
 repeat (first|refine qqm rfl ?_|((first|refine qqr ?_|refine qqt ?_);simp only[SS,qx0,vun,simprocAttr,hb,ff_35]))
 unfold maxL at hl
 refine WK.loop (fun k s=>∃j,s.n=n+1∧s.H=H1∧s.f 1=.slice (some ⟨x,0,none⟩) hs.length hs.length∧s.f 2=.bool nn∧s.f 3=.pointer (some ⟨n,0,none⟩)∧s.f 7=.int .i64 (j:Nat)∧j≤right.length∧k=right.length - j∧allB nn (right.take j) hs=true) right.length ?_ ?_
 ·exact⟨0,rfl,rfl,rfl,rfl,rfl,rfl,Nat.zero_le _,rfl,by rw[allB_eq];simp⟩
 rintro kk ⟨f,n',H'⟩ ⟨j,rfl,rfl,f1,f2,f3,f7,hj,rfl,hn⟩ ih
 simp only at f1 f2 f3 f7 ih hb hp hx hk
 by_cases hjr:j<right.length
 ·obtain⟨z,kz,ds,tz,oz,rfl,hz,e⟩:=hp.at hjr
  have htj:right.take (j+1)=right.take j++[right[j]]:=List.take_succ_eq_append_getElem hjr
  have hlt:=hr _ (List.getElem_mem hjr)
  have hjw:IntKind.i64.wrap ((j:Int)+1)=((j+1:Nat):Int):=by rw[wrap_in (by omega) (by omega)];rfl
  have stop:(if 0≤right[j] then hs.getD right[j].toNat false else !nn)=false→allB nn right hs=false:=fun h=>by
   rw[allB_eq,List.all_eq_false]
   exact⟨right[j],List.getElem_mem hjr,by rw[h];simp⟩
  have on:(if 0≤right[j] then hs.getD right[j].toNat false else !nn)=true→allB nn (right.take (j+1)) hs=true:=fun h=>by
   rw[allB_eq]at hn ⊢
   rw[htj,List.all_append,hn,Bool.true_and,List.all_cons,List.all_nil,Bool.and_true]
   exact h
  by_cases h0:0≤right[j]
  ·obtain⟨s,hs'⟩:∃s:Nat,right[j]=s:=⟨right[j].toNat,by omega⟩
   have hsl:s<hs.length:=by omega
   have hg:(hs.map Value.bool)[s]? = some (.bool hs[s]):=by rw[List.getElem?_map,List.getElem?_eq_getElem hsl];rfl
   have hneg:((s:Int)<0)=False:=by simp
   have hge:(0≤(s:Int))=True:=by simp
   rw[hs']at stop on
   have hcond:(if(0:Int)≤(s:Int) then hs.getD (s:Int).toNat false else !nn)=hs[s]:=by simp[hsl]
   rw[hcond]at stop on
   cases hb2:hs[s]
   ·rw[hb2]at hg
    repeat (first|refine qqm rfl ?_|((first|refine qqr ?_|refine qqt ?_);simp only[SS,qx0,vun,simprocAttr,f1,f2,f3,f7,hb,hjr,hz,e,hs',hge,hx,hsl,hg,ff_35]))
    first|refine qqf ?_ ?_|refine qqg ?_ ?_
    ·exact hk.keep
    ·simp only[packed,qv,Nat.reduceEqDiff,↓reduceIte,ff_35]
     rw[stop hb2]
   ·rw[hb2]at hg
    cases nn
    ·repeat (first|refine qqm rfl ?_|((first|refine qqr ?_|refine qqt ?_);simp only[SS,qx0,vun,simprocAttr,f1,f2,f3,f7,hb,hjr,hz,e,hs',hge,hneg,hx,hsl,hg,ff_35]))
     refine ih (right.length - (j+1)) (by omega) _ ⟨j+1,rfl,rfl,f1,f2,f3,?_,hjr,rfl,on hb2⟩
     simp only[packed,qv,Nat.reduceEqDiff,↓reduceIte,f7,hjw,ff_35]
    ·repeat (first|refine qqm rfl ?_|((first|refine qqr ?_|refine qqt ?_);simp only[SS,qx0,vun,simprocAttr,f1,f2,f3,f7,hb,hjr,hz,e,hs',hge,hneg,hx,hsl,hg,ff_35]))
     refine ih (right.length - (j+1)) (by omega) _ ⟨j+1,rfl,rfl,f1,f2,f3,?_,hjr,rfl,on hb2⟩
     simp only[packed,qv,Nat.reduceEqDiff,↓reduceIte,f7,hjw,ff_35]
  ·have hneg:right[j]<0:=by omega
   rw[if_neg h0]at stop on
   cases nn
   ·repeat (first|refine qqm rfl ?_|((first|refine qqr ?_|refine qqt ?_);simp only[SS,qx0,vun,simprocAttr,f1,f2,f3,f7,hb,hjr,hz,e,h0,hneg,ff_35]))
    refine ih (right.length - (j+1)) (by omega) _ ⟨j+1,rfl,rfl,f1,f2,f3,?_,hjr,rfl,on rfl⟩
    simp only[packed,qv,Nat.reduceEqDiff,↓reduceIte,f7,hjw,ff_35]
   ·repeat (first|refine qqm rfl ?_|((first|refine qqr ?_|refine qqt ?_);simp only[SS,qx0,vun,simprocAttr,f1,f2,f3,f7,hb,hjr,hz,e,h0,hneg,ff_35]))
    first|refine qqf ?_ ?_|refine qqg ?_ ?_
    ·exact hk.keep
    ·simp only[packed,qv,Nat.reduceEqDiff,↓reduceIte,ff_35]
     rw[stop rfl]
 ·repeat (first|refine qqm rfl ?_|((first|refine qqr ?_|refine qqt ?_);simp only[SS,qx0,vun,simprocAttr,f1,f2,f3,f7,hb,hjr,ff_35]))
  first|refine qqf ?_ ?_|refine qqg ?_ ?_
  ·exact hk.keep
  ·simp only[packed,qv,Nat.reduceEqDiff,↓reduceIte,ff_35]
   rw[List.take_of_length_le (by omega)]at hn
   rw[hn]
set_option maxHeartbeats 4000000 in
theorem rounds_gives {v : Value} {g : Gram} {n : Nat} {H : Heap} {nn : Bool} (hw : WF n H) (hg : RG H v g) (wg : WG g) (ok : RightOK g) :
    Gives Tryz.prog 54 [v, .bool nn] n H fun v _ H' => ∃ (hs : List Bool) (x : Nat), n ≤ x ∧ v = .slice (some ⟨x, 0, none⟩) g.vars.length g.vars.length ∧ hs.length = g.vars.length ∧ H' x = .cells (hs.map .bool) 4 true ∧ ∀ v, hold hs v ↔ (if nn then Nul g v else Prd g v) := by
  have hg0 := hg
  obtain ⟨pt, pv, pr, rfl, ht, hv, hr⟩ := hg
  refine Gives.of orders ok54 (Nat.le_of_ble_eq_true rfl) ?_
  have hk := Kp.new n H (.cells (gcells pt pv pr g) 25 true)
  have hb := hset_at H n (.cells (gcells pt pv pr g) 25 true)
  have hi := ok.inG
  have hv64 := ok.vars
  have hv1 := ok.vars1
  have hvl : (g.vars.length : Int) ≤ bigN := by unfold bigN; omega
  have hvl' : g.vars.length ≤ bigN := by unfold bigN; omega
  have hrl := ok.rules
  repeat refine qqn rfl ?_
  (refine qqr ?_; simp only [SS, qx35, simprocAttr, box_cells, box_one, ff_54])
  generalize hset H n (.cells (gcells pt pv pr g) 25 true) = H1 at *
  repeat refine qqn rfl ?_
  (refine qqr ?_; simp only [SS, qx35, simprocAttr, hb, gc_0, gc_1, gc_2, hvl, ff_54])
  rw [rep_map]
  have k1 := Kp.new (n + 1) H1 (.cells ((List.replicate g.vars.length false).map .bool) 4 true)
  have b1 := hset_at H1 (n + 1) (.cells ((List.replicate g.vars.length false).map .bool) 4 true)
  have b0 := (k1.keep n (by omega)).trans hb
  generalize hset H1 (n + 1) (.cells ((List.replicate g.vars.length false).map .bool) 4 true) = H2 at *
  have kk := hk.trans k1
  repeat (first | refine qqm rfl ?_ | ((first | refine qqr ?_ | refine qqt ?_); simp only [SS, qx35, simprocAttr, b0, gc_1, ff_54]))
  refine WK.loop (fun k s => ∃ (i x : Nat) (hs : List Bool), Kp n H s.n s.H ∧ s.f 1 = .bool nn ∧ s.f 2 = .pointer (some ⟨n, 0, none⟩) ∧ s.H n = .cells (gcells pt pv pr g) 25 true ∧ s.f 5 = .slice (some ⟨x, 0, none⟩) g.vars.length g.vars.length ∧ s.H x = .cells (hs.map .bool) 4 true ∧ n + 1 ≤ x ∧ hs.length = g.vars.length ∧
      s.f 6 = .int .i64 (i : Nat) ∧ i ≤ g.vars.length ∧ (∀ v, hold hs v → (if nn then Nul g v else Prd g v)) ∧ (ClosedR (fun r => allB nn r.right) g.rules hs ∨ i ≤ hs.count true) ∧ k = g.vars.length - i) g.vars.length ?_ ?_
  · refine ⟨0, n + 1, _, kk, rfl, rfl, b0, rfl, b1, Nat.le_refl _, by simp, rfl, Nat.zero_le _, fun v h => ?_, .inr (Nat.zero_le _), rfl⟩
    exfalso
    have := h.2
    rw [List.getD_eq_getElem?_getD, List.getElem?_replicate] at this
    split at this <;> simp at this
  rintro kk' ⟨f, n4, H4⟩ ⟨i, x, hs, kp, f1, f2, hb4, f5, hx, hxn, hhl, f6, hiv, hsound, hprog, rfl⟩ ih
  simp only at f1 f2 hb4 f5 f6 ih kp hx
  have hw4 := kp.wf hw
  have hxl := live_lt hw4 (live_of hx)
  have hn4 := kp.le
  by_cases hjr : i < g.vars.length
  · have a1 : ∀ o, hset H4 n4 o x = _ := fun o => (hset_ne _ _ _ (by omega)).trans hx
    have a2 : [x].contains n4 = false := by simp; omega
    have a3 : (hs.map Value.bool).take g.vars.length = hs.map Value.bool := List.take_of_length_le (by rw [List.length_map]; omega)
    have a4 : g.vars.length ≤ (hs.map Value.bool).length := by rw [List.length_map]; omega
    repeat (first | refine qqm rfl ?_ | ((first | refine qqr ?_ | refine qqt ?_); simp only [SS, qx35, simprocAttr, f2, f5, f6, hb4, gc_1, hjr, ebs_85_0, a1, a2, a3, a4, hvl', List.drop_zero, List.take_zero, ff_54]))
    have kp1 := ((kp.trans (Kp.new n4 H4 .dead)).trans (Kp.new (n4 + 1) _ (.cells (hs.map .bool) 4 true)))
    have c0 := (hset_ne (hset H4 n4 .dead) (n4 + 1) (.cells (hs.map .bool) 4 true) (x := n) (by omega)).trans ((hset_ne H4 n4 .dead (by omega)).trans hb4)
    have c1 := (hset_ne (hset H4 n4 .dead) (n4 + 1) (.cells (hs.map .bool) 4 true) (x := x) (by omega)).trans ((hset_ne H4 n4 .dead (by omega)).trans hx)
    have c2 := hset_at (hset H4 n4 .dead) (n4 + 1) (.cells (hs.map .bool) 4 true)
    generalize hset (hset H4 n4 .dead) (n4 + 1) (.cells (hs.map .bool) 4 true) = H5 at *
    refine WK.loop (fun k s => ∃ (j : Nat) (nx : List Bool), Kp n H s.n s.H ∧ n4 + 1 < s.n ∧ s.f 1 = .bool nn ∧ s.f 2 = .pointer (some ⟨n, 0, none⟩) ∧ s.H n = .cells (gcells pt pv pr g) 25 true ∧ s.f 5 = .slice (some ⟨x, 0, none⟩) g.vars.length g.vars.length ∧ s.H x = .cells (hs.map .bool) 4 true ∧
        s.f 7 = .slice (some ⟨n4 + 1, 0, none⟩) g.vars.length g.vars.length ∧ s.H (n4 + 1) = .cells (nx.map .bool) 4 true ∧ s.f 6 = .int .i64 (i : Nat) ∧ s.f 8 = .int .i64 (j : Nat) ∧ j ≤ g.rules.length ∧ RoundTo (fun r => allB nn r.right) g.rules j hs nx ∧ k = g.rules.length - j) g.rules.length ?_ ?_
    · exact ⟨0, hs, kp1, Nat.lt_succ_self _, f1, f2, c0, f5, c1, rfl, c2, f6, rfl, Nat.zero_le _, .start _ _ _, rfl⟩
    clear c0 c1 c2 kp1 f1 f2 f5 f6 hb4 hx a1 a2 a3 a4 kp
    rintro kk' ⟨f, n6, H6⟩ ⟨j, nx, kp, hn6, f1, f2, hb6, f5, hx, f7, hnx, f6, f8, hj, hrt, rfl⟩ ih2
    simp only at f1 f2 hb6 f5 f6 f7 f8 ih2 kp hx hnx hn6
    have hw6 := kp.wf hw
    have hxl6 := live_lt hw6 (live_of hx)
    by_cases hjl : j < g.rules.length
    · have hjw : IntKind.i64.wrap ((j : Int) + 1) = ((j + 1 : Nat) : Int) := by rw [wrap_in (by omega) (by omega)]; rfl
      have hr6 := hr.mono hw kp
      obtain ⟨z, kz, cs, ty, own, p, e0, hz, d0, d1, d2, hp⟩ := hr6.at hjl
      have d3 := take3 d0 d1 d2
      have d4 := len3 d2
      subst e0
      obtain ⟨l, hl'⟩ : ∃ l : Nat, g.rules[j].left = l := ⟨g.rules[j].left.toNat, by have := (ok.rule j hjl).left0; omega⟩
      have hlv : l < g.vars.length := by have := (ok.rule j hjl).left1; omega
      have hm := List.getElem_mem hjl
      repeat (first | refine qqm rfl ?_ | ((first | refine qqr ?_ | refine qqt ?_); simp only [SS, qx35, simprocAttr, f1, f2, f5, f8, hb6, gc_2, hjl, hz, d3, d4, ff_54]))
      have hall := all_gives (l := g.rules[j].left) (wt := g.rules[j].weight) (nn := nn) hw6 hp hx (wg.right _ hm).1 (fun s hs => by rw [hhl]; exact hi.right _ hm s hs)
      rw [hhl] at hall
      refine AtCall.by hall ?_
      rintro v n7 H7 k7 rfl
      have kp7 := kp.trans k7
      have e1 := (k7.keep n (by omega)).trans hb6
      have e2 := (k7.keep x hxl6).trans hx
      have e3 := (k7.keep (n4 + 1) (by omega)).trans hnx
      have e4 := (k7.keep z (live_lt hw6 (live_of hz))).trans hz
      have hn7 := k7.le
      cases hb7 : allB nn g.rules[j].right hs
      · simp only [SS, qx35, simprocAttr, ff_54]
        repeat (first | refine qqm rfl ?_ | ((first | refine qqr ?_ | refine qqt ?_); simp only [SS, qx35, simprocAttr, f8, ff_54]))
        refine ih2 (g.rules.length - (j + 1)) (by omega) _ ⟨j + 1, nx, kp7, by show n4 + 1 < n7; omega, f1, f2, e1, f5, e2, f7, e3, f6, ?_, hjl, hrt.skip hjl hb7, rfl⟩
        simp only [packed, qv, Nat.reduceEqDiff, ↓reduceIte, f8, hjw, ff_54]
      · simp only [SS, qx35, simprocAttr, ff_54]
        have hnl : nx.length = g.vars.length := by rw [hrt.len]; exact hhl
        have hlv' : l + 1 ≤ nx.length := by omega
        have hset' : (nx.map Value.bool).set l (.bool true) = (nx.set l true).map .bool := by rw [List.map_set]
        repeat (first | refine qqm rfl ?_ | ((first | refine qqr ?_ | refine qqt ?_); simp only [SS, qx35, simprocAttr, f2, f7, f8, e1, e3, e4, gc_2, hjl, d0, hl', hlv, hlv', hset', List.length_map, ff_54]))
        have hne : n4 + 1 ≠ x := by omega
        refine ih2 (g.rules.length - (j + 1)) (by omega) _ ⟨j + 1, nx.set l true, kp7.set _ (by omega) (by omega), by show n4 + 1 < n7; omega, f1, f2, (hset_ne _ _ _ (by omega)).trans e1, f5, (hset_ne _ _ _ (Ne.symm hne)).trans e2, f7, hset_at _ _ _, f6, ?_, hjl, hrt.take hjl hl' (by omega) hb7, rfl⟩
        simp only [packed, qv, Nat.reduceEqDiff, ↓reduceIte, f8, hjw, ff_54]
    · have hje : j = g.rules.length := by omega
      subst hje
      repeat (first | refine qqm rfl ?_ | ((first | refine qqr ?_ | refine qqt ?_); simp only [SS, qx35, simprocAttr, f2, f6, f7, f8, hb6, gc_2, hjl, ff_54]))
      have hle := fun r (hr : r ∈ g.rules) => (⟨hi.left0 r hr, by rw [hhl]; exact hi.left1 r hr⟩ : 0 ≤ r.left ∧ r.left < hs.length)
      refine ih (g.vars.length - (i + 1)) (by omega) _ ⟨i + 1, n4 + 1, nx, kp, f1, f2, hb6, rfl, hnx, by omega, by rw [hrt.len]; exact hhl, ?_, hjr, fun v h => ?_, hrt.next hle hprog, rfl⟩
      · simp only [packed, qv, Nat.reduceEqDiff, ↓reduceIte, ff_54]
        rw [wrap_in (by omega) (by omega)]; rfl
      · obtain ⟨h0, h⟩ := h
        obtain ⟨q, rfl⟩ : ∃ q : Nat, v = q := ⟨v.toNat, by omega⟩
        have hq : q < hs.length := by
          apply Classical.byContradiction
          intro hc
          have e : nx[q]? = none := List.getElem?_eq_none (by rw [hrt.len]; omega)
          rw [List.getD_eq_getElem?_getD] at h
          simp [e] at h
        rcases (hrt.mem q hq).1 (by simpa using h) with h | ⟨r, hr, _, e1, e2⟩
        · exact hsound q ⟨h0, by simpa using h⟩
        · rw [← e1]
          cases nn
          · exact .mk r hr fun s hs' h0 => hsound s (prdB_hold.1 e2 s hs' h0)
          · exact .mk r hr (fun s hs' => (nulB_hold.1 e2 s hs').1) fun s hs' => hsound s (nulB_hold.1 e2 s hs')
  · repeat (first | refine qqm rfl ?_ | ((first | refine qqr ?_ | refine qqt ?_); simp only [SS, qx35, simprocAttr, f2, f5, f6, hb4, gc_1, hjr, ff_54]))
    first | refine qqf ?_ ?_ | refine qqg ?_ ?_
    · exact kp.keep
    · simp only [packed, qv, Nat.reduceEqDiff, ↓reduceIte, f5, ff_54]
      have hcl := closed_full (hs := hs) (fun r hr => ⟨hi.left0 r hr, by rw [hhl]; exact hi.left1 r hr⟩) (hprog.imp id fun h => by omega)
      refine ⟨hs, x, by omega, rfl, hhl, hx, fun v => ⟨hsound v, ?_⟩⟩
      cases nn
      · exact closed_prd hi hcl v
      · exact closed_nul hi hcl v
end Go.Proofs.YtigijncdfkbaoaaGreatDoor

namespace Go.Proofs.YtigijncdfkbaoaaGreatDoor
open Go.AM
set_option maxRecDepth 100000
theorem productiveR_gives{v:Value}{g:Gram}{n:Nat}{H:Heap}(hw:WF n H)(hg:RG H v g)(wg:WG g)(ok:RightOK g) :
  Gives Tryz.prog 36 [v] n H fun v n' H'=>∃(hs:List Bool) (x:Nat),n≤x∧v=.slice (some ⟨x,0,none⟩) g.vars.length g.vars.length∧hs.length=g.vars.length∧H' x=.cells (hs.map .bool) 4 true∧∀v,hold hs v↔Prd g v:=by
 have hg0:=hg
 obtain⟨pt,pv,pr,rfl,ht,hv,hr⟩:=hg
 refine Gives.of orders ok36 (Nat.le_of_ble_eq_true rfl) ?_
 have hk:=Kp.new n H (.cells (gcells pt pv pr g) 25 true)
 have hb:=hset_at H n (.cells (gcells pt pv pr g) 25 true)
 repeat refine qqn rfl ?_
 (refine qqr ?_;simp only[SS,qx51,simprocAttr,box_cells,box_one,ff_36])
 generalize hset H n (.cells (gcells pt pv pr g) 25 true)=H1 at *
 repeat refine qqn rfl ?_
 (refine qqr ?_;simp only[SS,qx51,simprocAttr,hb,gc_len,gc_all,ff_36])
 refine AtCall.by (rounds_gives (nn:=false) (hk.wf hw) (hg0.mono hw hk) wg ok) ?_
 rintro v n2 H2 k2 ⟨hs,x,hx0,rfl,hl,hx,hn⟩
 simp only[SS,qx51,simprocAttr,ff_36]
 repeat (first|refine qqm rfl ?_|((first|refine qqr ?_|refine qqt ?_);simp only[SS,qx51,simprocAttr,ff_36]))
 first|refine qqf ?_ ?_|refine qqg ?_ ?_
 ·exact(hk.trans k2).keep
 ·simp only[packed,qv,Nat.reduceEqDiff,↓reduceIte,ff_36]
  exact⟨hs,x,by omega,rfl,hl,hx,hn⟩
theorem holdO{o:List Bool}{l:Nat}(hl:l<o.length):hold o (l:Int)↔o[l]=true:=by
 rw[hold_nat,List.getElem?_eq_getElem hl];simp
set_option maxHeartbeats 8000000 in
theorem usefulR_gives {v : Value} {g : Gram} {n : Nat} {H : Heap} (hw : WF n H) (hg : RG H v g) (wg : WG g) (ok : RightOK g) :
    Gives Tryz.prog 34 [v] n H fun v _ H' => ∃ (hs : List Bool) (x : Nat), n ≤ x ∧ v = .slice (some ⟨x, 0, none⟩) g.vars.length g.vars.length ∧ hs.length = g.vars.length ∧ H' x = .cells (hs.map .bool) 4 true ∧ ∀ v, hold hs v ↔ Usd g v := by
  have hg0 := hg
  obtain ⟨pt, pv, pr, rfl, ht, hv, hr⟩ := hg
  refine Gives.of orders ok34 (Nat.le_of_ble_eq_true rfl) ?_
  have hk := Kp.new n H (.cells (gcells pt pv pr g) 25 true)
  have hb := hset_at H n (.cells (gcells pt pv pr g) 25 true)
  have hi := ok.inG
  have hv64 := ok.vars
  have hv1 := ok.vars1
  have hrl := ok.rules
  have hvl : (g.vars.length : Int) ≤ bigN := by unfold bigN; omega
  repeat refine qqn rfl ?_
  (refine qqr ?_; simp only [SS, qx17, simprocAttr, box_cells, box_one, ff_34])
  generalize hset H n (.cells (gcells pt pv pr g) 25 true) = H1 at *
  repeat refine qqn rfl ?_
  (refine qqr ?_; simp only [SS, qx17, simprocAttr, hb, gc_len, gc_all, ff_34])
  refine AtCall.by (productiveR_gives (hk.wf hw) (hg0.mono hw hk) wg ok) ?_
  rintro v nb Hb kb ⟨ws, xw, hxw0, rfl, hwl, hxw, hws⟩
  simp only [SS, qx17, simprocAttr, ff_34]
  have kk := hk.trans kb
  have wb := kk.wf hw
  have hnb := kk.le
  have hxw1 := live_lt wb (live_of hxw)
  have hbb := (kb.keep n (by omega)).trans hb
  have hw0l : 0 < ws.length := by omega
  have hget0 : (ws.map Value.bool)[0]? = some (.bool ws[0]) := by rw [List.getElem?_map, List.getElem?_eq_getElem hw0l]; rfl
  have hlt0' : (0 : Int) < (g.vars.length : Int) := by omega
  repeat refine qqn rfl ?_
  (refine qqr ?_; simp only [SS, qx17, simprocAttr, hbb, gc_1, hvl, ff_34])
  rw [rep_map]
  have k3 := kk.trans (Kp.new nb Hb (.cells ((List.replicate g.vars.length false).map .bool) 4 true))
  have b3 := hset_at Hb nb (.cells ((List.replicate g.vars.length false).map .bool) 4 true)
  have bb3 := (hset_ne Hb nb (.cells ((List.replicate g.vars.length false).map .bool) 4 true) (x := n) (by omega)).trans hbb
  have bw3 := (hset_ne Hb nb (.cells ((List.replicate g.vars.length false).map .bool) 4 true) (x := xw) (by omega)).trans hxw
  generalize hset Hb nb (.cells ((List.replicate g.vars.length false).map .bool) 4 true) = H3 at *
  have hset0 : (((List.replicate g.vars.length false).map Value.bool).set 0 (.bool ws[0])) = ((List.replicate g.vars.length false).set 0 ws[0]).map .bool := by rw [List.map_set]
  have hlr : 0 + 1 ≤ (List.replicate g.vars.length false).length := by simp; omega
  repeat (first | refine qqm rfl ?_ | ((first | refine qqr ?_ | refine qqt ?_); simp only [SS, qx17, simprocAttr, bw3, b3, hget0, hlt0', hset0, hlr, List.length_map, ff_34]))
  have k4 := k3.set (x := nb) (.cells (((List.replicate g.vars.length false).set 0 ws[0]).map .bool) 4 true) (by omega) (by omega)
  have e0 := (hset_ne H3 nb (.cells (((List.replicate g.vars.length false).set 0 ws[0]).map .bool) 4 true) (x := n) (by omega)).trans bb3
  have e1 := (hset_ne H3 nb (.cells (((List.replicate g.vars.length false).set 0 ws[0]).map .bool) 4 true) (x := xw) (by omega)).trans bw3
  have e2 := hset_at H3 nb (.cells (((List.replicate g.vars.length false).set 0 ws[0]).map .bool) 4 true)
  have hp0 : hold ws 0 ↔ ws[0] = true := holdO hw0l
  have hst : ∀ v, hold ((List.replicate g.vars.length false).set 0 ws[0]) v ↔ v = 0 ∧ ws[0] = true := by
    intro v
    unfold hold
    rw [List.getD_eq_getElem?_getD, List.getElem?_set]
    by_cases e : 0 = v.toNat
    · rw [if_pos e]
      simp only [List.length_replicate, show 0 < g.vars.length by omega, if_true, Option.getD_some]
      constructor
      · rintro ⟨h1, h2⟩; exact ⟨by omega, h2⟩
      · rintro ⟨h1, h2⟩; exact ⟨by omega, h2⟩
    · rw [if_neg e]
      constructor
      · rintro ⟨_, h2⟩
        rw [List.getElem?_replicate] at h2
        split at h2 <;> simp at h2
      · rintro ⟨h1, _⟩; omega
  refine WK.loop (fun k s => ∃ (i : Nat) (o : List Bool), Kp n H s.n s.H ∧ nb < s.n ∧ s.f 1 = .pointer (some ⟨n, 0, none⟩) ∧ s.f 3 = .slice (some ⟨xw, 0, none⟩) g.vars.length g.vars.length ∧ s.f 4 = .slice (some ⟨nb, 0, none⟩) g.vars.length g.vars.length ∧ s.f 5 = .int .i64 (i : Nat) ∧
      s.H n = .cells (gcells pt pv pr g) 25 true ∧ s.H xw = .cells (ws.map .bool) 4 true ∧ s.H nb = .cells (o.map .bool) 4 true ∧ i ≤ g.vars.length ∧ o.length = g.vars.length ∧ (∀ v, hold o v → Usd g v) ∧ (Prd g 0 → hold o 0) ∧ (UClosed g ws o ∨ i ≤ o.count true) ∧ k = g.vars.length - i) g.vars.length ?_ ?_
  · refine ⟨0, _, k4, Nat.lt_succ_self _, rfl, rfl, rfl, rfl, e0, e1, e2, Nat.zero_le _, by simp, fun v h => ?_, fun h => (hst 0).2 ⟨rfl, hp0.1 ((hws 0).2 h)⟩, .inr (Nat.zero_le _), rfl⟩
    obtain ⟨h1, h2⟩ := (hst v).1 h
    rw [h1]
    exact .base ((hws 0).1 (hp0.2 h2))
  clear e0 e1 e2 hst hset0 hlr k4 b3 bb3 bw3
  rintro kk' ⟨f, n5, H5⟩ ⟨i, o0, kp, hn5, f1, f3, f4, f5, b0, bw, bo, hiv, hol0, hsound0, hbase0, hprog, rfl⟩ ih
  simp only at f1 f3 f4 f5 ih kp hn5 b0 bw bo
  by_cases hil : i < g.vars.length
  · have hiw : IntKind.i64.wrap ((i : Int) + 1) = ((i + 1 : Nat) : Int) := by rw [wrap_in (by omega) (by omega)]; rfl
    repeat (first | refine qqm rfl ?_ | ((first | refine qqr ?_ | refine qqt ?_); simp only [SS, qx17, simprocAttr, f1, f5, b0, gc_1, hil, ff_34]))
    refine WK.loop (fun k s => ∃ (q : Nat) (o : List Bool), Kp n H s.n s.H ∧ nb < s.n ∧ s.f 1 = .pointer (some ⟨n, 0, none⟩) ∧ s.f 3 = .slice (some ⟨xw, 0, none⟩) g.vars.length g.vars.length ∧ s.f 4 = .slice (some ⟨nb, 0, none⟩) g.vars.length g.vars.length ∧ s.f 5 = .int .i64 (i : Nat) ∧ s.f 6 = .int .i64 (q : Nat) ∧
        s.H n = .cells (gcells pt pv pr g) 25 true ∧ s.H xw = .cells (ws.map .bool) 4 true ∧ s.H nb = .cells (o.map .bool) 4 true ∧ q ≤ g.rules.length ∧ RU g ws o0 o q 0 ∧ k = g.rules.length - q) g.rules.length ?_ ?_
    · exact ⟨0, o0, kp, hn5, f1, f3, f4, f5, rfl, b0, bw, bo, Nat.zero_le _, .start hsound0, rfl⟩
    clear f1 f3 f4 f5 b0 bw bo kp hn5
    rintro kk' ⟨f, n6, H6⟩ ⟨q, o1, kp, hn6, f1, f3, f4, f5, f6, b0, bw, bo, hq, hRU, rfl⟩ ih2
    simp only at f1 f3 f4 f5 f6 ih2 kp hn6 b0 bw bo
    have hw6 := kp.wf hw
    by_cases hql : q < g.rules.length
    · have hqw : IntKind.i64.wrap ((q : Int) + 1) = ((q + 1 : Nat) : Int) := by rw [wrap_in (by omega) (by omega)]; rfl
      obtain ⟨z, kz, cs, ty, own, p, e0, hzH, d0, d1, d2, hpH⟩ := hr.at hql
      subst e0
      have hz := (kp.keep z (live_lt hw (live_of hzH))).trans hzH
      have d3 := take3 d0 d1 d2
      have d4 := len3 d2
      have hm := List.getElem_mem hql
      have hlen24 := (ok.rule q hql).len
      have hl0 := (ok.rule q hql).left0
      have hl1 := (ok.rule q hql).left1
      have kn := Kp.new n6 H6 (.cells [.int .i64 g.rules[q].left, .slice p g.rules[q].right.length g.rules[q].right.length, .float .f64 g.rules[q].weight] 70 true)
      have c0 := (kn.keep n (live_lt hw6 (live_of b0))).trans b0
      have cw := (kn.keep xw (live_lt hw6 (live_of bw))).trans bw
      have co := (kn.keep nb (live_lt hw6 (live_of bo))).trans bo
      have cr := hset_at H6 n6 (.cells [.int .i64 g.rules[q].left, .slice p g.rules[q].right.length g.rules[q].right.length, .float .f64 g.rules[q].weight] 70 true)
      repeat (first | refine qqm rfl ?_ | ((first | refine qqr ?_ | refine qqt ?_); simp only [SS, qx17, simprocAttr, f1, f6, b0, gc_2, hql, hz, d3, d4, hset_hset, List.nil_append, List.cons_append, ff_34]))
      have kp7 := kp.trans kn
      generalize hset H6 n6 (.cells [.int .i64 g.rules[q].left, .slice p g.rules[q].right.length g.rules[q].right.length, .float .f64 g.rules[q].weight] 70 true) = H7 at *
      refine WK.loop (fun k s => ∃ (j : Nat) (o : List Bool), Kp n H s.n s.H ∧ n6 < s.n ∧ s.f 1 = .pointer (some ⟨n, 0, none⟩) ∧ s.f 3 = .slice (some ⟨xw, 0, none⟩) g.vars.length g.vars.length ∧ s.f 4 = .slice (some ⟨nb, 0, none⟩) g.vars.length g.vars.length ∧ s.f 5 = .int .i64 (i : Nat) ∧ s.f 6 = .int .i64 (q : Nat) ∧ s.f 7 = .pointer (some ⟨n6, 0, none⟩) ∧ s.f 8 = .int .i64 (j : Nat) ∧
          s.H n = .cells (gcells pt pv (some ⟨z, kz, none⟩) g) 25 true ∧ s.H xw = .cells (ws.map .bool) 4 true ∧ s.H nb = .cells (o.map .bool) 4 true ∧ s.H n6 = .cells [.int .i64 g.rules[q].left, .slice p g.rules[q].right.length g.rules[q].right.length, .float .f64 g.rules[q].weight] 70 true ∧
          j ≤ g.rules[q].right.length ∧ RU g ws o0 o q j ∧ k = g.rules[q].right.length - j) g.rules[q].right.length ?_ ?_
      · exact ⟨0, o1, kp7, Nat.lt_succ_self _, f1, f3, f4, f5, f6, rfl, rfl, c0, cw, co, cr, Nat.zero_le _, hRU, rfl⟩
      clear f1 f3 f4 f5 f6 c0 cw co cr kp7 kn hRU b0 bw bo
      rintro kk' ⟨f, n8, H8⟩ ⟨j, o, kp8, hn8, f1, f3, f4, f5, f6, f7, f8, b0, bw, bo, br, hj, hRU, rfl⟩ ih3
      simp only at f1 f3 f4 f5 f6 f7 f8 ih3 kp8 hn8 b0 bw bo br
      have hw8 := kp8.wf hw
      have hol : o.length = g.vars.length := by rw [hRU.len]; exact hol0
      by_cases hjl : j < g.rules[q].right.length
      · have hjw : IntKind.i64.wrap ((j : Int) + 1) = ((j + 1 : Nat) : Int) := by rw [wrap_in (by omega) (by omega)]; rfl
        obtain ⟨x3, k3', ds, tz3, oz3, e3, hx3, e⟩ := (hpH.mono hw kp8).at hjl
        subst e3
        have hlt := hi.right _ hm _ (List.getElem_mem hjl)
        have hs : g.rules[q].right[j]? = some g.rules[q].right[j] := List.getElem?_eq_getElem hjl
        have skip : ¬ (0 ≤ g.rules[q].right[j] ∧ hold o g.rules[q].left ∧ prdB g.rules[q].right ws = true) → RU g ws o0 o q (j + 1) := fun hn => hRU.skip hql hs hn
        by_cases h0 : 0 ≤ g.rules[q].right[j]
        · obtain ⟨s, hs'⟩ : ∃ s : Nat, g.rules[q].right[j] = s := ⟨g.rules[q].right[j].toNat, by omega⟩
          obtain ⟨l, hl⟩ : ∃ l : Nat, g.rules[q].left = l := ⟨g.rules[q].left.toNat, by omega⟩
          have hll : l < o.length := by omega
          have hlv : l < g.vars.length := by omega
          have hgl : (o.map Value.bool)[l]? = some (.bool o[l]) := by rw [List.getElem?_map, List.getElem?_eq_getElem hll]; rfl
          have h00 : (0 ≤ (s : Int)) = True := by simp
          cases hol2 : o[l]
          · rw [hol2] at hgl
            repeat (first | refine qqm rfl ?_ | ((first | refine qqr ?_ | refine qqt ?_); simp only [SS, qx17, simprocAttr, f4, f7, f8, br, hl, hjl, hx3, e, hs', h00, bo, hlv, hgl, ff_34]))
            refine ih3 (g.rules[q].right.length - (j + 1)) (by omega) _ ⟨j + 1, o, kp8, hn8, f1, f3, f4, f5, f6, f7, ?_, b0, bw, bo, br, hjl, skip fun ⟨_, h2, _⟩ => ?_, rfl⟩
            · simp only [packed, qv, Nat.reduceEqDiff, ↓reduceIte, f8, hjw, ff_34]
            · rw [hl, holdO hll, hol2] at h2; cases h2
          · rw [hol2] at hgl
            repeat (first | refine qqm rfl ?_ | ((first | refine qqr ?_ | refine qqt ?_); simp only [SS, qx17, simprocAttr, f3, f4, f7, f8, br, hl, hjl, hx3, e, hs', h00, bo, hlv, hgl, ff_34]))
            have hall := all_gives (l := g.rules[q].left) (wt := g.rules[q].weight) (nn := false) hw8 (hpH.mono hw kp8) bw (wg.right _ hm).1 (fun s hs => by rw [hwl]; exact hi.right _ hm s hs)
            rw [hwl, hl] at hall
            refine AtCall.by hall ?_
            rintro v n9 H9 k9 rfl
            have kp9 := kp8.trans k9
            have hn9 := k9.le
            have g0 := (k9.keep n (live_lt hw8 (live_of b0))).trans b0
            have gw := (k9.keep xw (live_lt hw8 (live_of bw))).trans bw
            have go := (k9.keep nb (live_lt hw8 (live_of bo))).trans bo
            have gr := (k9.keep n6 hn8).trans br
            have gx := (k9.keep x3 (live_lt hw8 (live_of hx3))).trans hx3
            have hallB : allB false g.rules[q].right ws = prdB g.rules[q].right ws := rfl
            cases hb9 : prdB g.rules[q].right ws
            · rw [hb9] at hallB
              simp only [SS, qx17, simprocAttr, hallB, ff_34]
              repeat (first | refine qqm rfl ?_ | ((first | refine qqr ?_ | refine qqt ?_); simp only [SS, qx17, simprocAttr, f8, hjw, ff_34]))
              refine ih3 (g.rules[q].right.length - (j + 1)) (by omega) _ ⟨j + 1, o, kp9, by show n6 < n9; omega, f1, f3, f4, f5, f6, f7, ?_, g0, gw, go, gr, hjl, skip fun ⟨_, _, h3⟩ => ?_, rfl⟩
              · simp only [packed, qv, Nat.reduceEqDiff, ↓reduceIte, f8, hjw, ff_34]
              · rw [hb9] at h3; cases h3
            · rw [hb9] at hallB
              have hsl : s < o.length := by omega
              have hsv : s < g.vars.length := by omega
              have hsl1 : s + 1 ≤ o.length := hsl
              have hset' : (o.map Value.bool).set s (.bool true) = (o.set s true).map .bool := by rw [List.map_set]
              simp only [SS, qx17, simprocAttr, hallB, ff_34]
              repeat (first | refine qqm rfl ?_ | ((first | refine qqr ?_ | refine qqt ?_); simp only [SS, qx17, simprocAttr, f4, f7, f8, gr, gx, go, e, hs', hjl, hjw, hsv, hsl1, hset', List.length_map, ff_34]))
              refine ih3 (g.rules[q].right.length - (j + 1)) (by omega) _ ⟨j + 1, o.set s true, kp9.set _ (by omega) (by omega), by show n6 < n9; omega, f1, f3, f4, f5, f6, f7, ?_, (hset_ne _ _ _ (by omega)).trans g0, (hset_ne _ _ _ (by omega)).trans gw, hset_at _ _ _, (hset_ne _ _ _ (by omega)).trans gr, hjl, hRU.take hql hws (by rw [hs, hs']) hsl (by rw [hl, holdO hll, hol2]) hb9, rfl⟩
              simp only [packed, qv, Nat.reduceEqDiff, ↓reduceIte, f8, hjw, ff_34]
        · repeat (first | refine qqm rfl ?_ | ((first | refine qqr ?_ | refine qqt ?_); simp only [SS, qx17, simprocAttr, f7, f8, br, hjl, hx3, e, h0, ff_34]))
          refine ih3 (g.rules[q].right.length - (j + 1)) (by omega) _ ⟨j + 1, o, kp8, hn8, f1, f3, f4, f5, f6, f7, ?_, b0, bw, bo, br, hjl, skip fun ⟨h1, _, _⟩ => h0 h1, rfl⟩
          simp only [packed, qv, Nat.reduceEqDiff, ↓reduceIte, f8, hjw, ff_34]
      · repeat (first | refine qqm rfl ?_ | ((first | refine qqr ?_ | refine qqt ?_); simp only [SS, qx17, simprocAttr, f6, f7, f8, br, hjl, hqw, ff_34]))
        refine ih2 (g.rules.length - (q + 1)) (by omega) _ ⟨q + 1, o, kp8, by show nb < n8; omega, f1, f3, f4, f5, ?_, b0, bw, bo, hql, hRU.rule hql (by omega), rfl⟩
        simp only [packed, qv, Nat.reduceEqDiff, ↓reduceIte, f6, hqw, ff_34]
    · have hqe : q = g.rules.length := by omega
      subst hqe
      repeat (first | refine qqm rfl ?_ | ((first | refine qqr ?_ | refine qqt ?_); simp only [SS, qx17, simprocAttr, f1, f5, f6, b0, gc_2, hql, hiw, ff_34]))
      refine ih (g.vars.length - (i + 1)) (by omega) _ ⟨i + 1, o1, kp, hn6, f1, f3, f4, ?_, b0, bw, bo, hil, by rw [hRU.len]; exact hol0, hRU.sound, fun h => hRU.mono _ (hbase0 h), hRU.next hprog, rfl⟩
      simp only [packed, qv, Nat.reduceEqDiff, ↓reduceIte, f5, hiw, ff_34]
  · repeat (first | refine qqm rfl ?_ | ((first | refine qqr ?_ | refine qqt ?_); simp only [SS, qx17, simprocAttr, f1, f4, f5, b0, gc_1, hil, ff_34]))
    first | refine qqf ?_ ?_ | refine qqg ?_ ?_
    · exact kp.keep
    · simp only [packed, qv, Nat.reduceEqDiff, ↓reduceIte, f4, ff_34]
      exact ⟨o0, nb, by omega, rfl, hol0, bo, usd_of hws hsound0 hbase0 (uclosed_full hi hol0 (hprog.imp id fun h => by omega))⟩
end Go.Proofs.YtigijncdfkbaoaaGreatDoor

namespace Go.Proofs.YtigijncdfkbaoaaGreatDoor
open Go.AM
set_option maxRecDepth 100000
set_option maxHeartbeats 8000000 in
theorem kept_gives{v:Value}{g:Gram}{k n:Nat}{H:Heap}(hw:WF n H)(hg:RG H v g)(wg:WG g)(ok:RightOK g)(hk:k<g.rules.length){us ws:List Bool}(hul:us.length=g.vars.length)(hwl:ws.length=g.vars.length)
  (hus:∀v,hold us v↔Usd g v) (hws:∀v,hold ws v↔Prd g v) :
  Gives Tryz.prog 14 [v,.int .i64 (k:Nat)] n H fun v _ _=>v=.bool (kpB us ws g.rules[k]):=by
 have hg0:=hg
 obtain⟨pt,pv,pr,rfl,ht,hv,hr⟩:=hg
 refine Gives.of orders ok14 (Nat.le_of_ble_eq_true rfl) ?_
 have hi:=ok.inG
 have hrl:=ok.rules
 have k1:=Kp.new n H (.cells (gcells pt pv pr g) 25 true)
 have hb:=hset_at H n (.cells (gcells pt pv pr g) 25 true)
 have hw1:=k1.wf hw
 repeat refine qqn rfl ?_
 (refine qqr ?_;simp only[SS,qx40,simprocAttr,box_cells,box_one,ff_14])
 generalize hset H n (.cells (gcells pt pv pr g) 25 true)=H1 at *
 repeat (first|refine qqm rfl ?_|((first|refine qqr ?_|refine qqt ?_);simp only[SS,qx40,simprocAttr,hb,gc_all,gc_len,ff_14]))
 refine AtCall.by (usefulR_gives hw1 (hg0.mono hw k1) wg ok) ?_
 rintro v n2 H2 k2 ⟨hs,x,hx0,rfl,hsl,hx,hsu⟩
 have hw2:=k2.wf hw1
 have hb2:=(k2.keep n (by omega)).trans hb
 have kk2:=k1.trans k2
 have hr2:=hr.mono hw kk2
 obtain⟨z,kz,ds,tz,oz,p,rfl,hz,d0,d1,d2,hp⟩:=hr2.at hk
 have d3:=take3 d0 d1 d2
 have d4:=len3 d2
 have hmem:=List.getElem_mem hk
 have hl0:=hi.left0 _ hmem
 have hl1:=hi.left1 _ hmem
 have hri:=hi.right _ hmem
 have hrw:=(wg.right _ hmem).1
 generalize g.rules[k]=r at *
 obtain⟨l,hl⟩:∃l:Nat,r.left=l:=⟨r.left.toNat,by omega⟩
 have hlv:l<g.vars.length:=by omega
 have hgu:(hs.map Value.bool)[l]? = some (.bool (us.getD l false)):=by
  have h1:=(hsu l).trans (hus l).symm
  rw[hold_nat,hold_nat,List.getElem?_eq_getElem (by omega),List.getElem?_eq_getElem (by omega)]at h1
  rw[List.getElem?_map,List.getElem?_eq_getElem (by omega),List.getD_eq_getElem?_getD,List.getElem?_eq_getElem (by omega)]
  cases h2:hs[l]'(by omega) <;> cases h3:us[l]'(by omega) <;> simp_all
 have hll:l<hs.length:=by omega
 have hkp:kpB us ws r=(us.getD l false && prdB r.right ws):=by unfold kpB;rw[hl,Int.toNat_natCast]
 rw[hkp]
 cases hu:us.getD l false with
 | false =>
  rw[hu]at hgu
  simp only[SS,qx40,simprocAttr,hb2,gc_2,gc_len,hk,hz,d0,hl,hx,hlv,hll,hgu,ff_14]
  repeat (first|refine qqm rfl ?_|((first|refine qqr ?_|refine qqt ?_);simp only[SS,qx40,simprocAttr,ff_14]))
  first|refine qqf ?_ ?_|refine qqg ?_ ?_
  ·exact kk2.keep
  ·simp only[packed,qv,Nat.reduceEqDiff,↓reduceIte,ff_14]
   all_goals simp
 | true =>
  rw[hu]at hgu
  simp only[SS,qx40,simprocAttr,hb2,gc_2,gc_all,gc_len,hk,hz,d0,d3,d4,hl,hx,hlv,hll,hgu,ff_14]
  refine AtCall.by (productiveR_gives hw2 (hg0.mono hw kk2) wg ok) ?_
  rintro v n3 H3 k3 ⟨hs3,x3,hx3,rfl,hs3l,hx3',hs3p⟩
  have hw3:=k3.wf hw2
  have kk3:=kk2.trans k3
  have hal:=all_gives (l:=(l:Int)) (wt:=r.weight) (right:=r.right) (nn:=false) (hs:=hs3) hw3 (hp.mono hw2 k3) hx3' hrw (fun s hs=>by rw[hs3l];exact hri s hs)
  rw[hs3l]at hal
  have hpe:allB false r.right hs3=prdB r.right ws:=by
   have e1:allB false r.right hs3=prdB r.right hs3:=rfl
   rw[e1]
   have h1:prdB r.right hs3=true↔prdB r.right ws=true:=by
    rw[prdB_hold,prdB_hold]
    exact⟨fun h s hs h0=>(hws s).2 ((hs3p s).1 (h s hs h0)),fun h s hs h0=>(hs3p s).2 ((hws s).1 (h s hs h0))⟩
   cases h2:prdB r.right hs3 <;> cases h3:prdB r.right ws <;> simp_all
  simp only[SS,qx40,simprocAttr,ff_14]
  refine AtCall.by hal ?_
  rintro v n4 H4 k4 rfl
  simp only[SS,qx40,simprocAttr,ff_14]
  repeat (first|refine qqm rfl ?_|((first|refine qqr ?_|refine qqt ?_);simp only[SS,qx40,simprocAttr,ff_14]))
  first|refine qqf ?_ ?_|refine qqg ?_ ?_
  ·exact(kk3.trans k4).keep
  ·simp only[packed,qv,Nat.reduceEqDiff,↓reduceIte,ff_14]
   rw[hpe]
   all_goals simp
end Go.Proofs.YtigijncdfkbaoaaGreatDoor
