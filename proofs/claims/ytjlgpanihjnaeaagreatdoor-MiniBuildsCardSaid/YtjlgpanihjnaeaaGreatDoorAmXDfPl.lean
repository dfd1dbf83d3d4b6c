/- A part of a proof. Its conditions: none. -/
import Derived.Test.YtjlgpanihjnaeaaGreatDoorAmXSortS
import Derived.Test.YtjlgpanihjnaeaaGreatDoorAmXAtMv2
import Derived.Test.YtjlgpanihjnaeaaGreatDoorAmXAtClo
import Derived.Test.YtjlgpanihjnaeaaGreatDoorAmXAtStart
import Derived.Test.YtjlgpanihjnaeaaGreatDoorAmC
import Derived.Test.YtjlgpanihjnaeaaGreatDoorAmXFacts
import Derived.Test.YtjlgpanihjnaeaaGreatDoorAmD
import Derived.Test.YtjlgpanihjnaeaaGreatDoorAmXDfSt
set_option linter.all false
namespace Go.Proofs.YtjlgpanihjnaeaaGreatDoor
open Go.AM
set_option maxRecDepth 100000
set_option maxHeartbeats 4000000 in
theorem index_gives{n:Nat}{H:Heap}{p:Option Addr}{R:List Int}{a:Int}(hw:WF n H)(hR:RA (Value.int .i64) H p R)(hl:R.length≤65536) :
  Gives Tryz.prog 68 [.slice p R.length R.length,.int .i64 a] n H fun v n' H'=>∃z:Int,v=.int .i64 z∧(0≤z↔a∈R)∧n'=n∧H'=H:=by
 refine Gives.of orders ok68 (Nat.le_of_ble_eq_true rfl) ?_
 repeat (first|refine qqm rfl ?_|((first|refine qqr ?_|refine qqt ?_);simp only[SS,qx13,simprocAttr,ff_68]))
 refine WK.loop (fun kk s=>∃i:Nat,s.n=n∧s.H=H∧s.f 0=.slice p R.length R.length∧s.f 1=.int .i64 a∧s.f 7=.int .i64 (R.length:Nat)∧s.f 8=.int .i64 (i:Nat)∧i≤R.length∧a∉R.take i∧kk=R.length - i) R.length ?_ ?_
 ·exact⟨0,rfl,rfl,rfl,rfl,rfl,rfl,Nat.zero_le _,by simp,rfl⟩
 rintro kk ⟨f,n1,H1⟩ ⟨i,e1,e2,f0,f1,f7,f8,hil,hni,rfl⟩ ih
 simp only at e1 e2 f0 f1 f7 f8 ih
 subst e1 e2
 by_cases hlt:i<R.length
 ·have hiw:IntKind.i64.wrap ((i:Int)+1)=((i+1:Nat):Int):=by rw[wrap_in (by omega) (by omega)];rfl
  obtain⟨z,kz,ds,tz,oz,e0,hz,e⟩:=hR.at hlt
  subst e0
  by_cases he:a=R[i]
  ·have he':(a=R[i])=True:=eq_true he
   repeat (first|refine qqm rfl ?_|((first|refine qqr ?_|refine qqt ?_);simp only[SS,qx13,simprocAttr,f0,f1,f7,f8,hlt,hz,e,he',decide_true,ff_68]))
   first|refine qqf ?_ ?_|refine qqg ?_ ?_
   ·exact fun _ _=>rfl
   ·simp only[packed,qv,Nat.reduceEqDiff,↓reduceIte,ff_68]
    exact⟨_,rfl,⟨fun _=>by rw[he];exact List.getElem_mem hlt,fun _=>by omega⟩,trivial,trivial⟩
  ·repeat (first|refine qqm rfl ?_|((first|refine qqr ?_|refine qqt ?_);simp only[SS,qx13,simprocAttr,f0,f1,f7,f8,hlt,hz,e,he,decide_false,hiw,ff_68]))
   refine ih (R.length - (i+1)) (by omega) _ ?_
   refine⟨i+1,rfl,rfl,f0,f1,f7,rfl,hlt,?_,rfl⟩
   rw[List.take_add_one,List.getElem?_eq_getElem hlt,List.mem_append]
   rintro(h|h)
   ·exact hni h
   ·simp at h;exact he h
 ·obtain rfl:i=R.length:=by omega
  rw[List.take_length]at hni
  repeat (first|refine qqm rfl ?_|((first|refine qqr ?_|refine qqt ?_);simp only[SS,qx13,simprocAttr,f7,f8,hlt,ff_68]))
  first|refine qqf ?_ ?_|refine qqg ?_ ?_
  ·exact fun _ _=>rfl
  ·simp only[packed,qv,Nat.reduceEqDiff,↓reduceIte,ff_68]
   exact⟨_,rfl,⟨fun h=>absurd h (by decide),fun h=>absurd h hni⟩,trivial,trivial⟩
theorem contains_gives{n:Nat}{H:Heap}{p:Option Addr}{R:List Int}{a:Int}(hw:WF n H)(hR:RA (Value.int .i64) H p R)(hl:R.length≤65536) :
  Gives Tryz.prog 51 [.slice p R.length R.length,.int .i64 a] n H fun v n' H'=>v=.bool (decide (a∈R))∧n'=n∧H'=H:=by
 refine Gives.of orders ok51 (Nat.le_of_ble_eq_true rfl) ?_
 repeat (first|refine qqm rfl ?_|((first|refine qqr ?_|refine qqt ?_);simp only[SS,qx11,simprocAttr]))
 refine AtCall.by (index_gives hw hR hl) ?_
 rintro v n1 H1 k1 ⟨z,rfl,hz,hn1,hH⟩
 subst hn1
 obtain rfl:=hH.symm
 have hz':(0≤z)=(a∈R):=propext hz
 simp only[SS,qx11,simprocAttr]
 repeat (first|refine qqm rfl ?_|((first|refine qqr ?_|refine qqt ?_);simp only[SS,qx11,simprocAttr]))
 first|refine qqf ?_ ?_|refine qqg ?_ ?_
 ·exact fun _ _=>rfl
 ·simp only[packed,qv,Nat.reduceEqDiff,↓reduceIte,hz']
  exact⟨trivial,trivial,trivial⟩
theorem rise_len{N:Int}:∀(l:List Int) (a:Int),l.Pairwise (· < ·)→(∀x∈l,a≤x∧x<N)→(l.length:Int)≤N - a∨l=[]
 | [],_,_,_=>.inr rfl
 | x::l,a,hp,h=>by
  obtain⟨h1,h2⟩:=List.pairwise_cons.1 hp
  have hx:=h x (List.mem_cons_self ..)
  rcases rise_len l (x+1) h2 (fun z hz=>⟨by have:=h1 z hz;omega,(h z (List.mem_cons_of_mem _ hz)).2⟩)with h3|h3
  ·left;rw[List.length_cons];omega
  ·left;rw[h3];simp;omega
theorem cmpC_alt{a b:Cfg}(h:cmpC a b<0):a.alt≤b.alt:=by
 rw[cmpC_eq]at h
 split at h
 ·omega
 ·unfold cmpI at h
  split at h
  ·omega
  ·split at h <;> omega
def AltsL(l:List Cfg)(R:List Int):Prop:=R.Pairwise (· < ·)∧∀a,a∈R↔a∈l.map (·.alt)
set_option maxHeartbeats 8000000 in
theorem alts_gives {n : Nat} {H : Heap} {p : Option Addr} {L : List CA} (hw : WF n H) (hL : RN 4 ccell H p L) (hs : Srt L) (hal : ∀ x ∈ L, 0 ≤ x.1.alt ∧ x.1.alt < 48) (hl : L.length ≤ 65536) :
    Gives Tryz.prog 33 [.slice p L.length L.length] n H fun v _ H' => ∃ p' R, v = .slice p' R.length R.length ∧ RA (Value.int .i64) H' p' R ∧ AltsL (L.map (·.1)) R := by
  refine Gives.of orders ok33 (Nat.le_of_ble_eq_true rfl) ?_
  have v1 : ∀ s, vcells (.agg (ccell s).toArray) = ccell s := fun _ => rfl
  have v2 : ∀ s, (ccell s).all one = true := fun _ => rfl
  have v0 : ∀ s, (ccell s)[0]? = some (.int .i64 s.1.alt) := fun _ => rfl
  have v5 : ∀ s, (ccell s).length = 4 := fun _ => rfl
  have v6 : ∀ s, ((ccell s).drop 0).take 4 = ccell s := fun _ => rfl
  have hs4 : ∀ (a b c d : Value) (x : CA), AM.splice [a, b, c, d] 0 (ccell x) = ccell x := fun _ _ _ _ _ => rfl
  repeat (first | refine qqm rfl ?_ | ((first | refine qqr ?_ | refine qqt ?_); simp only [SS, qx4, vun, simprocAttr, ff_33]))
  refine WK.loop (fun kk s => ∃ (i y : Nat) (R : List Int), Kp n H s.n s.H ∧ s.f 6 = .slice p L.length L.length ∧ s.f 7 = .int .i64 (L.length : Nat) ∧ s.f 8 = .int .i64 (i : Nat) ∧ s.f 3 = sl y R.length ∧ (R ≠ [] → n ≤ y ∧ y < s.n ∧ s.H y = .cells (R.map (Value.int .i64)) 3 true) ∧ i ≤ L.length ∧ R.length ≤ i ∧ AltsL ((L.take i).map (·.1)) R ∧ kk = L.length - i) L.length ?_ ?_
  · exact ⟨0, 0, [], Kp.refl _ _, rfl, rfl, rfl, rfl, fun h => absurd rfl h, Nat.zero_le _, Nat.zero_le _, ⟨List.Pairwise.nil, by simp⟩, rfl⟩
  rintro kk ⟨f, n5, H5⟩ ⟨i, y, R, k5, f6, f7, f8, f3, hy, hil, hRl, hR, rfl⟩ ih
  simp only at k5 f6 f7 f8 f3 hy ih
  have hle5 := k5.le
  have hw5 := k5.wf hw
  have hRA : RA (Value.int .i64) H5 (slp y R.length) R := by
    by_cases h0 : R = []
    · subst h0; exact fun h => absurd rfl h
    · obtain ⟨_, _, hyc⟩ := hy h0
      have h1 : 0 < R.length := List.length_pos_iff.2 h0
      rw [slp_pos (by omega)]
      exact fun _ => ⟨y, 0, _, _, true, rfl, hyc, fun i a e => by rw [Nat.zero_add, List.getElem?_map, e]; rfl⟩
  by_cases hlt : i < L.length
  · have hiw : IntKind.i64.wrap ((i : Int) + 1) = ((i + 1 : Nat) : Int) := by rw [wrap_in (by omega) (by omega)]; rfl
    obtain ⟨u, k0, cs, ty, own, q1, q2, q3, q4⟩ := (hL.mono hw k5).at ccell_len hlt
    subst q1
    have hun := live_lt hw5 (live_of q2)
    have kn := Kp.new n5 H5 (.cells (ccell L[i]) 82 true)
    have k5n := k5.trans kn
    have f3' := f3
    rw [sl_eq] at f3'
    have htk : (L.take (i + 1)).map (·.1) = (L.take i).map (·.1) ++ [L[i].1] := by
      rw [List.take_add_one, List.getElem?_eq_getElem hlt, List.map_append]; rfl
    repeat (first | refine qqm rfl ?_ | ((first | refine qqr ?_ | refine qqt ?_); simp only [SS, qx4, vun, simprocAttr, f3', f6, f7, f8, hlt, q2, q3, q4, v0, v1, v2, v5, v6, hs4, hset_at, ff_33]))
    have hnn := hset_at H5 n5 (.cells (ccell L[i]) 82 true)
    generalize hset H5 n5 (.cells (ccell L[i]) 82 true) = H6 at *
    refine AtCall.by (contains_gives (kn.wf hw5) (hRA.mono hw5 kn) (by omega)) ?_
    rintro v n7 H7 k7 ⟨rfl, hn7, hH7⟩
    subst hn7
    obtain rfl := hH7.symm
    by_cases hin : L[i].1.alt ∈ R
    · simp only [SS, qx4, vun, simprocAttr, hin, decide_true, Bool.not_true, ff_33]
      repeat (first | refine qqm rfl ?_ | ((first | refine qqr ?_ | refine qqt ?_); simp only [SS, qx4, vun, simprocAttr, f8, hiw, ff_33]))
      refine ih (L.length - (i + 1)) (by omega) _ ?_
      refine ⟨i + 1, y, R, k5n, f6, f7, rfl, f3, fun h => ⟨(hy h).1, by have := (hy h).2.1; show _ < n5 + 1; omega, (kn.keep y (hy h).2.1).trans (hy h).2.2⟩, hlt, by omega, ⟨hR.1, fun a => ?_⟩, rfl⟩
      rw [hR.2, htk, List.map_append, List.mem_append]
      constructor
      · exact .inl
      · rintro (h | h)
        · exact h
        · simp at h; rw [h]; exact (hR.2 _).1 hin
    · have hR' : AltsL ((L.take (i + 1)).map (·.1)) (R ++ [L[i].1.alt]) := by
        refine ⟨?_, fun a => ?_⟩
        · rw [List.pairwise_append]
          refine ⟨hR.1, List.pairwise_singleton _ _, fun r hr b hb => ?_⟩
          rw [List.mem_singleton] at hb
          rw [hb]
          have hr' := (hR.2 r).1 hr
          rw [List.map_map] at hr'
          obtain ⟨z, hz, rfl⟩ := List.mem_map.1 hr'
          obtain ⟨j, hj, rfl⟩ := List.getElem_of_mem hz
          rw [List.length_take] at hj
          have hle := cmpC_alt (hs.lt hlt (by omega : j < i))
          have e : (L.take i)[j]'(by rw [List.length_take]; omega) = L[j]'(by omega) := List.getElem_take
          have hne : ((L.take i)[j]'(by rw [List.length_take]; omega)).1.alt ≠ L[i].1.alt := fun e' => hin (by rw [← e']; exact hr)
          simp only [Function.comp]
          rw [e] at hne ⊢
          omega
        · rw [htk, List.map_append, List.mem_append, List.mem_append, hR.2]
          simp
      have hz : L[i].1 = L[i].1 := rfl
      generalize L[i] = z at *
      by_cases hR0 : R = []
      · subst hR0
        have hsl0 : slp y ([] : List Int).length = none := rfl
        simp only [SS, qx4, vun, simprocAttr, hin, decide_false, Bool.not_false, ff_33]
        repeat (first | refine qqm rfl ?_ | ((first | refine qqr ?_ | refine qqt ?_); simp only [SS, qx4, vun, simprocAttr, f3, f8, hnn, v0, v5, hiw, hsl0, ff_33]))
        have k6p : ∀ A C, Kp (n5 + 1) H6 (n5 + 1 + 1 + 1) (hset (hset H6 (n5 + 1) A) (n5 + 1 + 1) C) := fun A C => (Kp.new (n5 + 1) H6 A).trans (Kp.new (n5 + 1 + 1) _ C)
        refine ih (L.length - (i + 1)) (by omega) _ ?_
        exact ⟨i + 1, n5 + 1 + 1, [z.1.alt], k5n.trans (k6p _ _), f6, f7, rfl, rfl, fun _ => ⟨by omega, Nat.lt_succ_self _, hset_at _ _ _⟩, hlt, by simp, hR', rfl⟩
      · obtain ⟨hy0, hyn, hyc⟩ := hy hR0
        have hR1 : 0 < R.length := List.length_pos_iff.2 hR0
        rw [sl_pos (by omega)] at f3
        have hyc6 := (kn.keep y hyn).trans hyc
        have hy7 : ∀ o, hset H6 (n5 + 1) o y = _ := fun o => (hset_ne _ _ _ (by omega)).trans hyc6
        have bl : R.length + 1 ≤ bigN := by unfold bigN; omega
        have hct : [n5 + 1].contains y = false := by simp; omega
        have hfl : (R.map (Value.int .i64)).length = R.length := List.length_map _
        have htk2 : (R.map (Value.int .i64)).take R.length = R.map (Value.int .i64) := List.take_of_length_le (by omega)
        simp only [SS, qx4, vun, simprocAttr, hin, decide_false, Bool.not_false, ff_33]
        repeat (first | refine qqm rfl ?_ | ((first | refine qqr ?_ | refine qqt ?_); simp only [SS, qx4, vun, simprocAttr, f3, f8, hnn, v0, v5, hiw, hy7, bl, hct, hfl, htk2, hset_at, Nat.le_refl, List.drop_zero, Nat.mul_one, ff_33]))
        have k6x : ∀ A C, Kx (fun z => z = y) (n5 + 1) H6 (n5 + 1 + 1 + 1) (hset (hset (hset H6 (n5 + 1) A) y .dead) (n5 + 1 + 1) C) := fun A C => (((Kp.new (n5 + 1) H6 A).kx (X := fun z => z = y)).set (x := y) .dead (.inl rfl) (by omega)).trans (Kp.new (n5 + 1 + 1) _ C).kx
        refine ih (L.length - (i + 1)) (by omega) _ ?_
        have k6y := k6x (.cells [.int .i64 z.1.alt] 3 true) (.cells (R.map (Value.int .i64) ++ [.int .i64 z.1.alt]) 3 true)
        refine ⟨i + 1, n5 + 1 + 1, R ++ [z.1.alt], ⟨by show n ≤ n5 + 1 + 1 + 1; omega, fun q hq => (k6y.keep q (by omega) (by omega)).trans (k5n.keep q hq), fun h => k6y.wf (k5n.wf h)⟩, f6, f7, rfl, ?_, fun _ => ⟨by omega, Nat.lt_succ_self _, ?_⟩, hlt, by simp; omega, hR', rfl⟩
        · rw [List.length_append, List.length_singleton, sl_pos (by omega)]; rfl
        · rw [List.map_append]; exact hset_at _ _ _
  · obtain rfl : i = L.length := by omega
    rw [List.take_length] at hR
    repeat (first | refine qqm rfl ?_ | ((first | refine qqr ?_ | refine qqt ?_); simp only [SS, qx4, vun, simprocAttr, f3, f6, f7, f8, hlt, ff_33]))
    have hsort : le2 R := hR.1.imp fun h => Int.le_of_lt h
    by_cases hR0 : R = []
    · subst hR0
      refine AtCall.by (sort0_gives _ _) ?_
      rintro v n6 H6 k6 ⟨hn6, hH6⟩
      subst hn6
      obtain rfl := hH6.symm
      simp only [SS, qx4, vun, simprocAttr, ff_33]
      repeat (first | refine qqm rfl ?_ | ((first | refine qqr ?_ | refine qqt ?_); simp only [SS, qx4, vun, simprocAttr, f3, ff_33]))
      first | refine qqf ?_ ?_ | refine qqg ?_ ?_
      · exact k5.keep
      · simp only [packed, qv, Nat.reduceEqDiff, ↓reduceIte, ff_33]
        exact ⟨none, [], rfl, fun h => absurd rfl h, hR⟩
    · obtain ⟨hy0, hyn, hyc⟩ := hy hR0
      have hR1 : 0 < R.length := List.length_pos_iff.2 hR0
      have hsl0 : sl y R.length = .slice (some ⟨y, 0, none⟩) R.length R.length := sl_pos (by omega)
      have hend : ∀ J : Heap, J y = .cells (R.map (Value.int .i64)) 3 true → RA (Value.int .i64) J (some ⟨y, 0, none⟩) R := fun J hJ _ => ⟨y, 0, _, _, true, rfl, hJ, fun i a e => by rw [Nat.zero_add, List.getElem?_map, e]; rfl⟩
      rw [hsl0] at f3 ⊢
      by_cases h12 : R.length ≤ 12
      · refine AtCall.byX (sort_gives hyc hyn h12) ?_
        rintro v n6 H6 k6 ⟨hn6, hne6, l', hl', hperm, hle⟩
        obtain rfl : l' = R := sorted_eq hperm hle hsort
        simp only [SS, qx4, vun, simprocAttr, ff_33]
        repeat (first | refine qqm rfl ?_ | ((first | refine qqr ?_ | refine qqt ?_); simp only [SS, qx4, vun, simprocAttr, f3, ff_33]))
        first | refine qqf ?_ ?_ | refine qqg ?_ ?_
        · exact fun q hq => (k6.keep q (by omega) (by omega)).trans (k5.keep q hq)
        · simp only [packed, qv, Nat.reduceEqDiff, ↓reduceIte, ff_33]
          exact ⟨some ⟨y, 0, none⟩, _, rfl, hend _ hl', hR⟩
      · have hlen : R.length < 50 := by
          rcases rise_len (N := 48) R 0 hR.1 (fun a ha => by
            have := (hR.2 a).1 ha
            rw [List.map_map] at this
            obtain ⟨z, hz, rfl⟩ := List.mem_map.1 this
            exact hal z hz) with h | h
          · omega
          · exact absurd h hR0
        refine AtCall.by (sortS_gives hw5 hyc (by omega) hlen hsort) ?_
        rintro v n6 H6 k6 _
        simp only [SS, qx4, vun, simprocAttr, ff_33]
        repeat (first | refine qqm rfl ?_ | ((first | refine qqr ?_ | refine qqt ?_); simp only [SS, qx4, vun, simprocAttr, f3, ff_33]))
        first | refine qqf ?_ ?_ | refine qqg ?_ ?_
        · exact (k5.trans k6).keep
        · simp only [packed, qv, Nat.reduceEqDiff, ↓reduceIte, ff_33]
          exact ⟨some ⟨y, 0, none⟩, _, rfl, hend _ ((k6.keep y hyn).trans hyc), hR⟩
end Go.Proofs.YtjlgpanihjnaeaaGreatDoor

namespace Go.Proofs.YtjlgpanihjnaeaaGreatDoor
open Go.AM
set_option maxRecDepth 100000
inductive RchC(g:Gram)(cl:List (List (Int × Int)))(l:List Cfg):Cfg→Prop where
 | base {c:Cfg} (h:c∈l):RchC g cl l c
 | step {c d:Cfg} (h:RchC g cl l c) (k:d∈stepL g cl c):RchC g cl l d
structure Full(g:Gram)(cl:List (List (Int × Int)))(deep most:Nat)(l A:List Cfg):Prop where
 nd:A.Nodup
 mem:∀c,c∈A↔RchC g cl l c
 len:A.length≤most
 dp:∀c∈A,c.stack.length≤deep
def Short(g:Gram)(cl:List (List (Int × Int)))(deep most:Nat)(l:List Cfg):Prop :=
 (∃c,RchC g cl l c∧deep<c.stack.length)∨∃A:List Cfg,A.Nodup∧(∀c∈A,RchC g cl l c)∧most<A.length
variable {g:Gram} {cl:List (List (Int × Int))} {deep most:Nat} {l:List Cfg}
theorem Full.of{A:List Cfg}(nd:A.Nodup)(hr:∀c∈A,RchC g cl l c)(hb:∀c∈l,c∈A)(hs:∀c∈A,∀d∈stepL g cl c,d∈A)(len:A.length≤most)(dp:∀c∈A,c.stack.length≤deep):Full g cl deep most l A :=
 ⟨nd,fun c=>⟨hr c,fun h=>by induction h with|base h=>exact hb _ h|step _ k ih=>exact hs _ ih _ k⟩,len,dp⟩
theorem Come.more{S T S' T':List CA}{x:CA}(h:Come deep most S T x S' T')(hn:(S.map (·.1)).Nodup)(hT:∀y∈T,y.1∈S.map (·.1))(hl:S.length≤most) :
  (S'.map (·.1)).Nodup∧(∀y∈T',y.1∈S'.map (·.1))∧(∀y∈T,y∈T')∧(∀c∈S'.map (·.1),c∈S.map (·.1)∨c∈T'.map (·.1))∧S'.length≤most:=by
 have hm:=h.mem
 cases h with
 | old h=>exact⟨hn,hT,fun y hy=>hy,fun c hc=>.inl hc,hl⟩
 | new h hd hlt i hi =>
  refine⟨?_,fun y hy=>?_,fun y hy=>List.mem_append_left _ hy,fun c hc=>?_,by simp;omega⟩
  ·rw[List.map_append,List.map_append,List.append_assoc]
   have e:S.map (·.1)=(S.take i).map (·.1)++(S.drop i).map (·.1):=by rw[←List.map_append,List.take_append_drop]
   rw[e]at hn h
   rw[List.nodup_append]at hn ⊢
   obtain⟨h1,h2,h3⟩:=hn
   refine⟨h1,?_,fun a ha b hb=>?_⟩
   ·rw[List.map_cons,List.map_nil,List.singleton_append,List.nodup_cons]
    exact⟨fun hx=>h (List.mem_append_right _ hx),h2⟩
   ·rw[List.map_cons,List.map_nil,List.singleton_append,List.mem_cons]at hb
    rcases hb with rfl|hb
    ·rintro rfl;exact h (List.mem_append_left _ ha)
    ·exact h3 a ha b hb
  ·rcases List.mem_append.1 hy with hy|hy
   ·exact(hm _).2 (.inl (hT y hy))
   ·rw[List.mem_singleton]at hy;rw[hy];exact(hm _).2 (.inr rfl)
  ·rcases(hm c).1 hc with hc|rfl
   ·exact .inl hc
   ·exact .inr (List.mem_map.2 ⟨x,by simp,rfl⟩)
theorem Comes.more{S T S' T':List CA}{r:List Cfg}{b:Bool}(h:Comes deep most S T r b S' T')(hn:(S.map (·.1)).Nodup)(hT:∀y∈T,y.1∈S.map (·.1))(hl:S.length≤most) :
  (S'.map (·.1)).Nodup∧(∀y∈T',y.1∈S'.map (·.1))∧(∀y∈T,y∈T')∧(∀c∈S'.map (·.1),c∈S.map (·.1)∨c∈T'.map (·.1))∧S'.length≤most:=by
 induction h with
 | nil=>exact⟨hn,hT,fun y hy=>hy,fun c hc=>.inl hc,hl⟩
 | fail=>exact⟨hn,hT,fun y hy=>hy,fun c hc=>.inl hc,hl⟩
 | cons h _ ih =>
  obtain⟨a1,a2,a3,a4,a5⟩:=h.more hn hT hl
  obtain⟨b1,b2,b3,b4,b5⟩:=ih a1 a2 a5
  refine⟨b1,b2,fun y hy=>b3 y (a3 y hy),fun c hc=>?_,b5⟩
  rcases b4 c hc with hc|hc
  ·rcases a4 c hc with hc|hc
   ·exact .inl hc
   ·obtain⟨y,hy,rfl⟩:=List.mem_map.1 hc
    exact .inr (List.mem_map.2 ⟨y,b3 y hy,rfl⟩)
  ·exact .inr hc
theorem Comes.bad{S T S' T':List CA}{r:List Cfg}{b:Bool}(h:Comes deep most S T r b S' T')(hb:b=false):(∃c∈r,deep<c.stack.length)∨∃c∈r,c∉S'.map (·.1)∧most≤S'.length:=by
 induction h with
 | nil=>cases hb
 | fail h =>
  rcases h with h|⟨h1,h2⟩
  ·exact .inl ⟨_,List.mem_cons_self ..,h⟩
  ·exact .inr ⟨_,List.mem_cons_self ..,h1,h2⟩
 | cons _ _ ih =>
  rcases ih hb with⟨c,hc,h⟩|⟨c,hc,h⟩
  ·exact .inl ⟨c,List.mem_cons_of_mem _ hc,h⟩
  ·exact .inr ⟨c,List.mem_cons_of_mem _ hc,h⟩
structure PI(g:Gram)(cl:List (List (Int × Int)))(deep most:Nat)(l:List Cfg)(S T:List CA):Prop where
 nd:(S.map (·.1)).Nodup
 r:∀y∈S++T,RchC g cl l y.1
 dp:∀y∈S++T,y.1.stack.length≤deep
 sub:∀y∈T,y.1∈S.map (·.1)
 cls:∀c∈S.map (·.1),(∀d∈stepL g cl c,d∈S.map (·.1))∨c∈T.map (·.1)
 base:∀c∈l,c∈S.map (·.1)
 len:S.length≤most
theorem short_of{S T S' T':List CA}{r:List Cfg}(h:Comes deep most S T r false S' T')(hn:(S.map (·.1)).Nodup)(hT:∀y∈T,y.1∈S.map (·.1))(hl:S.length≤most)(hR:∀y∈S++T,RchC g cl l y.1)(hr:∀c∈r,RchC g cl l c):Short g cl deep most l:=by
 rcases h.bad rfl with⟨c,hc,hd⟩|⟨c,hc,h1,h2⟩
 ·exact .inl ⟨c,hr c hc,hd⟩
 ·refine .inr ⟨c::S'.map (·.1),List.nodup_cons.2 ⟨h1,(h.more hn hT hl).1⟩,fun d hd=>?_,by simp;omega⟩
  rcases List.mem_cons.1 hd with rfl|hd
  ·exact hr _ hc
  ·obtain⟨y,hy,rfl⟩:=List.mem_map.1 hd
   exact h.all hR (fun c hc _=>hr c hc) y (List.mem_append_left _ hy)
theorem Pops.spec{S T S':List CA}{b:Bool}(h:Pops g cl deep most S T b S')(hp:PI g cl deep most l S T):(b=true→Full g cl deep most l (S'.map (·.1)))∧(b=false→Short g cl deep most l):=by
 induction h with
 | done S =>
  refine⟨fun _=>Full.of hp.nd (fun c hc=>?_) hp.base (fun c hc=>?_) (by rw[List.length_map];exact hp.len) (fun c hc=>?_),fun e=>by cases e⟩
  ·obtain⟨y,hy,rfl⟩:=List.mem_map.1 hc
   exact hp.r y (List.mem_append_left _ hy)
  ·rcases hp.cls c hc with h|h
   ·exact h
   ·simp at h
  ·obtain⟨y,hy,rfl⟩:=List.mem_map.1 hc
   exact hp.dp y (List.mem_append_left _ hy)
 | @fail S T S' T' x h =>
  refine⟨fun e=>(by cases e),fun _=>short_of h hp.nd (fun y hy=>hp.sub y (List.mem_append_left _ hy)) hp.len (fun y hy=>?_) fun c hc=>.step (hp.r x (by simp)) hc⟩
  rcases List.mem_append.1 hy with hy|hy
  ·exact hp.r y (List.mem_append_left _ hy)
  ·exact hp.r y (List.mem_append_right _ (List.mem_append_left _ hy))
 | @step S T S' T' S2 x b h k ih =>
  obtain⟨a1,a2,a3,a4,a5⟩:=h.more hp.nd (fun y hy=>hp.sub y (List.mem_append_left _ hy)) hp.len
  have hST:∀y∈S++T,y∈S++(T++[x]):=fun y hy=>by
   rcases List.mem_append.1 hy with hy|hy
   ·exact List.mem_append_left _ hy
   ·exact List.mem_append_right _ (List.mem_append_left _ hy)
  have hm:=h.mem rfl
  refine ih ⟨a1,h.all (fun y hy=>hp.r y (hST y hy)) fun c hc _=>.step (hp.r x (by simp)) hc,h.all (fun y hy=>hp.dp y (hST y hy)) fun c _ hd=>hd,a2,fun c hc=>?_,fun c hc=>(hm c).2 (.inl (hp.base c hc)),a5⟩
  rcases a4 c hc with h1|h1
  ·rcases hp.cls c h1 with h2|h2
   ·exact .inl fun d hd=>(hm d).2 (.inl (h2 d hd))
   ·rw[List.map_append,List.mem_append]at h2
    rcases h2 with h2|h2
    ·obtain⟨y,hy,rfl⟩:=List.mem_map.1 h2
     exact .inr (List.mem_map.2 ⟨y,a3 y hy,rfl⟩)
    ·rw[List.map_cons,List.map_nil,List.mem_singleton]at h2
     rw[h2]
     exact .inl fun d hd=>(hm d).2 (.inr hd)
  ·exact .inr h1
theorem Clo.spec{S:List CA}{b:Bool}(h:Clo g cl deep most l b S):(b=true→Full g cl deep most l (S.map (·.1)))∧(b=false→Short g cl deep most l):=by
 cases h with
 | fail h=>exact⟨fun e=>(by cases e),fun _=>short_of h (by simp) (by simp) (Nat.zero_le _) (by simp) fun c hc=>.base hc⟩
 | run h k =>
  obtain⟨a1,a2,a3,a4,a5⟩:=h.more (by simp) (by simp) (Nat.zero_le _)
  have hm:=h.mem rfl
  refine k.spec ⟨a1,h.all (by simp) fun c hc _=>.base hc,h.all (by simp) fun c _ hd=>hd,a2,fun c hc=>?_,fun c hc=>(hm c).2 (.inr hc),a5⟩
  rcases a4 c hc with h1|h1
  ·simp at h1
  ·exact .inr h1
structure DI(g:Gram)(cl:List (List (Int × Int)))(deep most:Nat)(l A:List Cfg)(at_:Nat):Prop where
 nd:A.Nodup
 r:∀c∈A,RchC g cl l c
 base:∀c∈l,c∈A
 dp:∀k (h:k<A.length),k<at_→A[k].stack.length≤deep
 cls:∀k (h:k<A.length),k<at_→∀d∈stepL g cl A[k],d∈A
 len:A.length≤most∨at_<A.length
 le:at_≤A.length
end Go.Proofs.YtjlgpanihjnaeaaGreatDoor

namespace Go.Proofs.YtjlgpanihjnaeaaGreatDoor
open Go.AM
set_option maxRecDepth 100000
theorem startL_mem(g:Gram)(v:Int):∀x∈startL g v,x.2=none∧x.1.stack=[]∧GC g x.1:=by
 intro x hx
 unfold startL at hx
 split at hx
 case isFalse=>simp at hx
 obtain⟨r,hr,rfl⟩:=List.mem_map.1 hx
 unfold ruleIx at hr
 have hr1:=List.mem_range.1 (List.mem_filter.1 hr).1
 exact⟨rfl,rfl,⟨by show(r:Int)<_;omega,fun q _ _=>⟨Int.le_refl _,by show(0:Int)≤_;omega⟩⟩,fun s hs=>by simp at hs⟩
theorem startL_len(g:Gram)(v:Int):(startL g v).length≤g.rules.length:=by
 unfold startL
 split
 ·rw[List.length_map]
  unfold ruleIx
  exact Nat.le_trans (List.length_filter_le _ _) (by rw[List.length_range];exact Nat.le_refl _)
 ·exact Nat.zero_le _
theorem step_alt{g:Gram}{cl:List (List (Int × Int))}{c d:Cfg}(h:d∈stepL g cl c):d.alt=c.alt:=by
 unfold stepL at h
 split at h
 ·simp at h
 split at h
 ·simp at h
 split at h
 ·unfold backL at h
  split at h
  ·rw[List.mem_singleton]at h
   rw[h]
  ·split at h
   ·simp at h
   ·rcases List.mem_append.1 h with h|h
    ·split at h
     ·rw[List.mem_singleton]at h;rw[h]
     ·simp at h
    ·obtain⟨s,_,rfl⟩:=List.mem_map.1 h
     rfl
 ·split at h
  ·simp at h
  ·split at h
   ·obtain⟨i,_,rfl⟩:=List.mem_map.1 h
    rfl
   ·simp at h
theorem RchC.alt{g:Gram}{cl:List (List (Int × Int))}{l:List Cfg}{c:Cfg}{P:Int→Prop}(h:RchC g cl l c)(hl:∀c∈l,P c.alt):P c.alt:=by
 induction h with
 | base h=>exact hl _ h
 | step _ k ih=>rw[step_alt k];exact ih
def EndOK(c:Cfg):Prop:=c.rule<0→c.rule = -1∧c.dot=0
theorem step_eok{g:Gram}{cl:List (List (Int × Int))}{c d:Cfg}(hcl:∀x∈cl,∀s∈x,VS g s)(h:GC g c)(hd:d∈stepL g cl c):EndOK d:=by
 have hvs:∀{a:Int} {s:Int × Int} {st:List (Int × Int)},VS g s→EndOK ⟨a,s.1,s.2,st⟩:=fun{a s st} hs hn=>absurd hs.1 (by have:s.1<0:=hn;omega)
 unfold stepL at hd
 split at hd
 ·simp at hd
 split at hd
 ·simp at hd
 split at hd
 ·unfold backL at hd
  rcases List.eq_nil_or_concat c.stack with e|⟨st,s,e⟩
  ·simp only[e,List.getLast?_nil]at hd
   cases hr:g.rules[c.rule.toNat]? with
   | none=>simp[hr]at hd
   | some r =>
    simp only[hr]at hd
    rcases List.mem_append.1 hd with hd|hd
    ·split at hd
     ·rw[List.mem_singleton]at hd
      subst hd
      exact fun _=>⟨rfl,rfl⟩
     ·simp at hd
    ·obtain⟨s,hs,rfl⟩:=List.mem_map.1 hd
     refine hvs ?_
     by_cases hl:r.left.toNat<cl.length
     ·rw[List.getD_eq_getElem?_getD,List.getElem?_eq_getElem hl]at hs
      exact hcl _ (List.getElem_mem hl) s hs
     ·rw[List.getD_eq_getElem?_getD,List.getElem?_eq_none (by omega)]at hs
      simp at hs
  ·rw[List.concat_eq_append]at e
   simp only[e,List.getLast?_concat]at hd
   rw[List.mem_singleton]at hd
   subst hd
   exact hvs (h.2 s (by rw[e];simp))
 ·split at hd
  ·simp at hd
  split at hd
  ·obtain⟨i,hi,rfl⟩:=List.mem_map.1 hd
   exact fun hn=>absurd hn (by show ¬((i:Nat):Int)<0;omega)
  ·simp at hd
theorem RchC.gc'{g:Gram}{cl:List (List (Int × Int))}{l:List Cfg}{c:Cfg}(hcl:∀x∈cl,∀s∈x,VS g s)(h:RchC g cl l c)(hl:∀c∈l,GC g c):GC g c:=by
 induction h with
 | base h=>exact hl _ h
 | step _ k ih=>exact step_gc hcl ih _ k
theorem RchC.ends{g:Gram}{cl:List (List (Int × Int))}{l:List Cfg}{c:Cfg}(hcl:∀x∈cl,∀s∈x,VS g s)(h:RchC g cl l c)(hl:∀c∈l,GC g c)(he:∀c∈l,EndOK c):EndOK c:=by
 cases h with
 | base h=>exact he _ h
 | step h k=>exact step_eok hcl (h.gc' hcl hl) k
end Go.Proofs.YtjlgpanihjnaeaaGreatDoor

namespace Go.Proofs.YtjlgpanihjnaeaaGreatDoor
open Go.AM
set_option maxRecDepth 100000
def runF(N:List (List Int))(R w:List Int):Nat→Nat→Nat→Int × Nat
 | 0,_,_=>(-1,0)
 | k+1,s,j =>
  if s<N.length∧s<R.length then
   if 0≤R.getD s 0∨w.length<j then(R.getD s 0,j)
   else if j<w.length then
    if 0≤w.getD j 0∧w.getD j 0<((N.getD s []).length:Int) - 1∧0≤(N.getD s []).getD (w.getD j 0).toNat 0 then runF N R w k ((N.getD s []).getD (w.getD j 0).toNat 0).toNat (j+1) else(-1,j)
   else if 0<(N.getD s []).length∧0≤(N.getD s []).getD ((N.getD s []).length - 1) 0 then runF N R w k ((N.getD s []).getD ((N.getD s []).length - 1) 0).toNat (j+1) else(-1,j)
  else(-1,0)
section
variable {N:List (List Int)} {R w:List Int}
end
set_option maxHeartbeats 16000000 in
theorem run_gives{v:Value}{N:List (List Int)}{R w:List Int}{p:Option Addr}{n:Nat}{H:Heap}(hw:WF n H)(hd:RD H v N R)(hp:RA (Value.int .i64) H p w)(hwl:w.length≤65536)(hrl:∀l∈N,l.length≤65536) :
  Gives Tryz.prog 9 [v,.slice p w.length w.length] n H fun v _ _=>v=.tuple #[.int .i64 (runF N R w (w.length+2) 0 0).1,.int .i64 ((runF N R w (w.length+2) 0 0).2:Nat)]:=by
 obtain⟨a,b,rfl,hN0,hR0⟩:=hd
 refine Gives.of orders ok9 (Nat.le_of_ble_eq_true rfl) ?_
 repeat refine qqn rfl ?_
 (refine qqr ?_;simp only[SS,qx0,simprocAttr,abox,abox_cells,abox_one,ff_9])
 have hk:=Kp.new n H (.cells (acells a b N R) 31 true)
 have hb:=hset_at H n (.cells (acells a b N R) 31 true)
 generalize hset H n (.cells (acells a b N R) 31 true)=H1 at *
 have hN:=hN0.mono hw hk
 have hR:=hR0.mono hw hk
 have hp1:=hp.mono hw hk
 clear hN0 hR0 hp
 repeat (first|refine qqm rfl ?_|((first|refine qqr ?_|refine qqt ?_);simp only[SS,qx0,simprocAttr,ff_9]))
 refine WK.loop (fun kk s=>∃q j:Nat,s.n=n+1∧s.H=H1∧s.f 1=.slice p w.length w.length∧s.f 2=.pointer (some ⟨n,0,none⟩)∧s.f 6=.int .i64 (q:Nat)∧s.f 7=.int .i64 (j:Nat)∧j≤w.length+1∧runF N R w (w.length+2 - j) q j=runF N R w (w.length+2) 0 0∧kk=w.length+2 - j) (w.length+2) ?_ ?_
 ·exact⟨0,0,rfl,rfl,rfl,rfl,rfl,rfl,Nat.zero_le _,rfl,rfl⟩
 generalize runF N R w (w.length+2) 0 0=res
 rintro kk ⟨f,n1,H2⟩ ⟨q,j,e1,e2,f1,f2,f6,f7,hjl,hres,rfl⟩ ih
 simp only at e1 e2 f1 f2 f6 f7 ih
 subst e1 e2
 have hb0:H2 n=.cells (acells a b N R) 31 true:=hb
 by_cases hqN:q<N.length
 case neg =>
  have hqN':((q:Int)<(N.length:Int))=False:=eq_false (by omega)
  have hr:res=(-1,0):=by
   rw[←hres]
   cases hk2:w.length+2 - j with
   | zero=>rfl
   | succ k=>unfold runF;rw[if_neg (fun h=>hqN h.1)]
  repeat (first|refine qqm rfl ?_|((first|refine qqr ?_|refine qqt ?_);simp only[SS,qx0,simprocAttr,f1,f2,f6,f7,hb0,ac_0,ac_1,hqN',decide_false,ff_9]))
  first|refine qqf ?_ ?_|refine qqg ?_ ?_
  ·exact hk.keep
  ·simp only[packed,qv,Nat.reduceEqDiff,↓reduceIte,hr,ff_9]
   all_goals rfl
 have hqN':((q:Int)<(N.length:Int))=True:=eq_true (by omega)
 by_cases hqR:q<R.length
 case neg =>
  have hqR':((q:Int)<(R.length:Int))=False:=eq_false (by omega)
  have hr:res=(-1,0):=by
   rw[←hres]
   cases hk2:w.length+2 - j with
   | zero=>rfl
   | succ k=>unfold runF;rw[if_neg (fun h=>hqR h.2)]
  repeat (first|refine qqm rfl ?_|((first|refine qqr ?_|refine qqt ?_);simp only[SS,qx0,simprocAttr,f1,f2,f6,f7,hb0,ac_0,ac_1,hqN',hqR',decide_true,decide_false,ff_9]))
  first|refine qqf ?_ ?_|refine qqg ?_ ?_
  ·exact hk.keep
  ·simp only[packed,qv,Nat.reduceEqDiff,↓reduceIte,hr,ff_9]
   all_goals rfl
 have hqR':((q:Int)<(R.length:Int))=True:=eq_true (by omega)
 obtain⟨k,hk2⟩:∃k,w.length+2 - j=k+1:=⟨w.length+2 - j - 1,by omega⟩
 rw[hk2]at hres
 unfold runF at hres
 rw[if_pos ⟨hqN,hqR⟩]at hres
 obtain⟨yR,kR,csR,tR,oR,eR,hzR,hcR⟩:=hR.at hqR
 obtain⟨yN,kN,csN,tN,oN,pr,eN,hzN,hcN,hrow⟩:=hN.at hqN
 subst eR eN
 have hRd:R.getD q 0=R[q]:=by simp[List.getD,hqR]
 have hNd:N.getD q []=N[q]:=by simp[List.getD,hqN]
 have hll:=hrl _ (List.getElem_mem hqN)
 rw[hRd,hNd]at hres
 generalize R[q]=rq at *
 generalize N[q]=row at *
 have hjw:IntKind.i64.wrap ((j:Int)+1)=((j+1:Nat):Int):=by rw[wrap_in (by omega) (by omega)];rfl
 have hll1:IntKind.i64.wrap ((row.length:Int) - 1)=(row.length:Int) - 1:=wrap_in (by omega) (by omega)
 by_cases h0:0≤rq
 ·rw[if_pos (.inl h0)]at hres
  have h0':((0:Int)≤rq)=True:=eq_true h0
  repeat (first|refine qqm rfl ?_|((first|refine qqr ?_|refine qqt ?_);simp only[SS,qx0,simprocAttr,f1,f2,f6,f7,hb0,ac_0,ac_1,hqN',hqR',hqR,hzR,hcR,h0',decide_true,ff_9]))
  first|refine qqf ?_ ?_|refine qqg ?_ ?_
  ·exact hk.keep
  ·simp only[packed,qv,Nat.reduceEqDiff,↓reduceIte,←hres,ff_9]
 have h0':((0:Int)≤rq)=False:=eq_false h0
 by_cases hwj:w.length<j
 ·rw[if_pos (.inr hwj)]at hres
  have hwj':((w.length:Int)<(j:Int))=True:=eq_true (by omega)
  repeat (first|refine qqm rfl ?_|((first|refine qqr ?_|refine qqt ?_);simp only[SS,qx0,simprocAttr,f1,f2,f6,f7,hb0,ac_0,ac_1,hqN',hqR',hqR,hzR,hcR,h0',hwj',decide_true,decide_false,ff_9]))
  first|refine qqf ?_ ?_|refine qqg ?_ ?_
  ·exact hk.keep
  ·simp only[packed,qv,Nat.reduceEqDiff,↓reduceIte,←hres,ff_9]
 have hwj':((w.length:Int)<(j:Int))=False:=eq_false (by omega)
 rw[if_neg (fun e=>e.elim h0 hwj)]at hres
 by_cases hjl:j<w.length
 ·obtain⟨yp,kp,cp,tp,op,ep,hzp,hcp⟩:=hp1.at hjl
  have hjl':((j:Int)<(w.length:Int))=True:=eq_true (by omega)
  have hwd:w.getD j 0=w[j]:=by simp[List.getD,hjl]
  rw[if_pos hjl,hwd]at hres
  subst ep
  generalize w[j]=t at *
  by_cases ht0:0≤t
  case neg =>
   rw[if_neg (fun e=>ht0 e.1)]at hres
   have ht0':(t<(0:Int))=True:=eq_true (by omega)
   repeat (first|refine qqm rfl ?_|((first|refine qqr ?_|refine qqt ?_);simp only[SS,qx0,simprocAttr,f1,f2,f6,f7,hb0,ac_0,ac_1,hqN',hqN,hqR',hqR,hzR,hcR,hzN,hcN,h0',hwj',hjl',hjl,hzp,hcp,ht0',hll1,decide_true,decide_false,ff_9]))
   first|refine qqf ?_ ?_|refine qqg ?_ ?_
   ·exact hk.keep
   ·simp only[packed,qv,Nat.reduceEqDiff,↓reduceIte,←hres,ff_9]
  have ht0':(t<(0:Int))=False:=eq_false (by omega)
  by_cases htl:t<(row.length:Int) - 1
  case neg =>
   rw[if_neg (fun e=>htl e.2.1)]at hres
   have htl':((row.length:Int) - 1≤t)=True:=eq_true (by omega)
   repeat (first|refine qqm rfl ?_|((first|refine qqr ?_|refine qqt ?_);simp only[SS,qx0,simprocAttr,f1,f2,f6,f7,hb0,ac_0,ac_1,hqN',hqN,hqR',hqR,hzR,hcR,hzN,hcN,h0',hwj',hjl',hjl,hzp,hcp,ht0',htl',hll1,decide_true,decide_false,ff_9]))
   first|refine qqf ?_ ?_|refine qqg ?_ ?_
   ·exact hk.keep
   ·simp only[packed,qv,Nat.reduceEqDiff,↓reduceIte,←hres,ff_9]
  have htl':((row.length:Int) - 1≤t)=False:=eq_false (by omega)
  obtain⟨tn,htn⟩:∃tn:Nat,t=tn:=⟨t.toNat,by omega⟩
  subst htn
  have htr:tn<row.length:=by omega
  obtain⟨yr,kr,cr,tr,or',er,hzr,hcr⟩:=hrow.at htr
  have hrd:row.getD ((tn:Nat):Int).toNat 0=row[tn]:=by simp[List.getD,htr]
  rw[hrd]at hres
  subst er
  generalize row[tn]=to at *
  by_cases hto:0≤to
  ·rw[if_pos ⟨by omega,htl,hto⟩]at hres
   have hto':(to<(0:Int))=False:=eq_false (by omega)
   obtain⟨q2,hq2⟩:∃q2:Nat,to=q2:=⟨to.toNat,by omega⟩
   subst hq2
   repeat (first|refine qqm rfl ?_|((first|refine qqr ?_|refine qqt ?_);simp only[SS,qx0,simprocAttr,f1,f2,f6,f7,hb0,ac_0,ac_1,hqN',hqN,hqR',hqR,hzR,hcR,hzN,hcN,h0',hwj',hjl',hjl,hzp,hcp,ht0',htl',htr,hzr,hcr,hto',hll1,hjw,decide_true,decide_false,ff_9]))
   refine ih (w.length+2 - (j+1)) (by omega) _ ?_
   exact⟨q2,j+1,rfl,rfl,f1,f2,rfl,rfl,by omega,by rw[show w.length+2 - (j+1)=k by omega];exact hres,rfl⟩
  ·rw[if_neg (fun e=>hto e.2.2)]at hres
   have hto':(to<(0:Int))=True:=eq_true (by omega)
   repeat (first|refine qqm rfl ?_|((first|refine qqr ?_|refine qqt ?_);simp only[SS,qx0,simprocAttr,f1,f2,f6,f7,hb0,ac_0,ac_1,hqN',hqN,hqR',hqR,hzR,hcR,hzN,hcN,h0',hwj',hjl',hjl,hzp,hcp,ht0',htl',htr,hzr,hcr,hto',hll1,decide_true,decide_false,ff_9]))
   first|refine qqf ?_ ?_|refine qqg ?_ ?_
   ·exact hk.keep
   ·simp only[packed,qv,Nat.reduceEqDiff,↓reduceIte,←hres,ff_9]
 ·have hjl':((j:Int)<(w.length:Int))=False:=eq_false (by omega)
  rw[if_neg hjl]at hres
  by_cases hl0:0<row.length
  case neg =>
   rw[if_neg (fun e=>hl0 e.1)]at hres
   have hl0':((row.length:Int) - 1<0)=True:=eq_true (by omega)
   repeat (first|refine qqm rfl ?_|((first|refine qqr ?_|refine qqt ?_);simp only[SS,qx0,simprocAttr,f1,f2,f6,f7,hb0,ac_0,ac_1,hqN',hqN,hqR',hqR,hzR,hcR,hzN,hcN,h0',hwj',hjl',hl0',hll1,decide_true,decide_false,ff_9]))
   first|refine qqf ?_ ?_|refine qqg ?_ ?_
   ·exact hk.keep
   ·simp only[packed,qv,Nat.reduceEqDiff,↓reduceIte,←hres,ff_9]
  obtain⟨m,hm⟩:∃m,row.length=m+1:=⟨row.length - 1,by omega⟩
  have hm1:((row.length:Int) - 1)=(m:Nat):=by omega
  have hl0':(((m:Nat):Int)<0)=False:=eq_false (by omega)
  have hml:m<row.length:=by omega
  obtain⟨yr,kr,cr,tr,or',er,hzr,hcr⟩:=hrow.at hml
  have hrd:row.getD (row.length - 1) 0=row[m]:=by rw[show row.length - 1=m by omega];simp[List.getD,hml]
  rw[hrd]at hres
  have hll2:IntKind.i64.wrap ((row.length:Int) - 1)=((m:Nat):Int):=hll1.trans hm1
  subst er
  generalize row[m]=to at *
  by_cases hto:0≤to
  ·rw[if_pos ⟨hl0,hto⟩]at hres
   have hto':(to<(0:Int))=False:=eq_false (by omega)
   obtain⟨q2,hq2⟩:∃q2:Nat,to=q2:=⟨to.toNat,by omega⟩
   subst hq2
   repeat (first|refine qqm rfl ?_|((first|refine qqr ?_|refine qqt ?_);simp only[SS,qx0,simprocAttr,f1,f2,f6,f7,hb0,ac_0,ac_1,hqN',hqN,hqR',hqR,hzR,hcR,hzN,hcN,h0',hwj',hjl',hl0',hml,hzr,hcr,hto',hll2,hjw,decide_true,decide_false,ff_9]))
   refine ih (w.length+2 - (j+1)) (by omega) _ ?_
   exact⟨q2,j+1,rfl,rfl,f1,f2,rfl,rfl,by omega,by rw[show w.length+2 - (j+1)=k by omega];exact hres,rfl⟩
  ·rw[if_neg (fun e=>hto e.2)]at hres
   have hto':(to<(0:Int))=True:=eq_true (by omega)
   repeat (first|refine qqm rfl ?_|((first|refine qqr ?_|refine qqt ?_);simp only[SS,qx0,simprocAttr,f1,f2,f6,f7,hb0,ac_0,ac_1,hqN',hqN,hqR',hqR,hzR,hcR,hzN,hcN,h0',hwj',hjl',hl0',hml,hzr,hcr,hto',hll2,decide_true,decide_false,ff_9]))
   first|refine qqf ?_ ?_|refine qqg ?_ ?_
   ·exact hk.keep
   ·simp only[packed,qv,Nat.reduceEqDiff,↓reduceIte,←hres,ff_9]
end Go.Proofs.YtjlgpanihjnaeaaGreatDoor

namespace Go.Proofs.YtjlgpanihjnaeaaGreatDoor
open Go.AM
set_option maxRecDepth 100000
def ClS(g:Gram)(dp pl:Nat)(l C:List Cfg):Prop:=(∃A,Full g (callsL g) dp pl l A)∧∃S:List CA,C=S.map (·.1)∧Srt S∧∀c,c∈C↔RchC g (callsL g) l c∧idle g c=false
def endsL(g:Gram)(C:List Cfg):List Cfg:=C.filter fun c=>decide (nextL g c = -1)
inductive DRun(g:Gram)(dp pl:Nat)(w:List Int):List Cfg→Nat→Int→Int→Prop where
 | one {l C:List Cfg} {j:Nat} {a:Int} (h:ClS g dp pl l C) (ha:AltsL C [a]):DRun g dp pl w l j a (j:Nat)
 | none {l C:List Cfg} {j:Nat} (h:ClS g dp pl l C) (ha:AltsL C []):DRun g dp pl w l j (-1) ((j:Nat) - 1)
 | endN {l C:List Cfg} {R:List Int} {j:Nat} (h:ClS g dp pl l C) (ha:AltsL C R) (h2:2≤R.length) (hj:j=w.length) (he:AltsL (endsL g C) []):DRun g dp pl w l j (-1) (j:Nat)
 | end1 {l C:List Cfg} {R:List Int} {j:Nat} {a:Int} (h:ClS g dp pl l C) (ha:AltsL C R) (h2:2≤R.length) (hj:j=w.length) (he:AltsL (endsL g C) [a]):DRun g dp pl w l j a ((j+1:Nat))
 | step {l C:List Cfg} {R:List Int} {j:Nat} {a n:Int} (h:ClS g dp pl l C) (ha:AltsL C R) (h2:2≤R.length) (hj:j<w.length) (hr:DRun g dp pl w (moveL g w[j] C) (j+1) a n):DRun g dp pl w l j a n
def To(d:DS)(C:List Cfg)(q:Int):Prop:=∃R,AltsL C R∧((R=[]∧q = -1)∨(∃(a:Int) (k:Nat),0≤a∧R=[a]∧q=k∧Is d k a [])∨(2≤R.length∧∃k:Nat,q=k∧Is d k (-1) C))
def Tr(g:Gram)(dp pl:Nat)(d:DS)(l:List Cfg)(q:Int):Prop:=∃C,ClS g dp pl l C∧To d C q
def En(g:Gram)(d:DS)(C:List Cfg)(q:Int):Prop:=∃R,AltsL (endsL g C) R∧((R=[]∧q = -1)∨∃(a:Int) (k:Nat),0≤a∧R=[a]∧q=k∧Is d k a [])
def Done(g:Gram)(dp pl:Nat)(d:DS)(k:Nat):Prop:=∀s row,d.rules[k]? = some (-1)→d.sets[k]? = some s→d.rows[k]? = some row →
 (∀t:Nat,t<g.terms.length→Tr g dp pl d (moveL g (t:Nat) (s.2.map (·.1))) (row.2.getD t 0))∧En g d (s.2.map (·.1)) (row.2.getD g.terms.length 0)
theorem pre_get{α:Type}{l m:List α}(h:l <+: m){k:Nat}{x:α}(e:l[k]? = some x):m[k]? = some x:=by
 obtain⟨t,rfl⟩:=h
 rw[List.getElem?_append_left (List.getElem?_eq_some_iff.1 e).1]
 exact e
theorem Is.pre{d d':DS}{k:Nat}{rule:Int}{l:List Cfg}(h:Is d k rule l)(h1:d.sets <+: d'.sets)(h2:d.rules <+: d'.rules):Is d' k rule l:=by
 obtain⟨a,s,b,c⟩:=h
 exact⟨pre_get h2 a,s,pre_get h1 b,c⟩
theorem To.pre{d d':DS}{C:List Cfg}{q:Int}(h:To d C q)(h1:d.sets <+: d'.sets)(h2:d.rules <+: d'.rules):To d' C q:=by
 obtain⟨R,a,b|⟨x,k,b0,b1,b2,b3⟩|⟨b1,k,b2,b3⟩⟩:=h
 ·exact⟨R,a,.inl b⟩
 ·exact⟨R,a,.inr (.inl ⟨x,k,b0,b1,b2,b3.pre h1 h2⟩)⟩
 ·exact⟨R,a,.inr (.inr ⟨b1,k,b2,b3.pre h1 h2⟩)⟩
theorem Tr.pre{g:Gram}{dp pl:Nat}{d d':DS}{l:List Cfg}{q:Int}(h:Tr g dp pl d l q)(h1:d.sets <+: d'.sets)(h2:d.rules <+: d'.rules):Tr g dp pl d' l q:=by
 obtain⟨C,a,b⟩:=h
 exact⟨C,a,b.pre h1 h2⟩
theorem En.pre{g:Gram}{d d':DS}{C:List Cfg}{q:Int}(h:En g d C q)(h1:d.sets <+: d'.sets)(h2:d.rules <+: d'.rules):En g d' C q:=by
 obtain⟨R,a,b|⟨x,k,b0,b1,b2,b3⟩⟩:=h
 ·exact⟨R,a,.inl b⟩
 ·exact⟨R,a,.inr ⟨x,k,b0,b1,b2,b3.pre h1 h2⟩⟩
end Go.Proofs.YtjlgpanihjnaeaaGreatDoor
