/- A part of a proof. Its conditions: none. -/
import Derived.Test.YtjlgpanihjnaeaaGreatDoorAmXFacts
import Derived.Test.YtjlgpanihjnaeaaGreatDoorAmC
import Derived.Test.YtjlgpanihjnaeaaGreatDoorAmD
import Derived.Test.YtjlgpanihjnaeaaGreatDoorAmB
set_option linter.all false
namespace Go.Proofs.YtjlgpanihjnaeaaGreatDoor
open Go.AM
set_option maxRecDepth 100000
theorem isNaN_gives(a:Int)(n:Nat)(H:Heap):Gives Tryz.prog 101 [.int .i64 a] n H fun v n' H'=>v=.bool false∧n'=n∧H'=H:=by
 refine Gives.of orders ok101 (Nat.le_of_ble_eq_true rfl) ?_
 repeat (first|refine qqm rfl ?_|((first|refine qqr ?_|refine qqt ?_);simp only[SS,qx11,simprocAttr,ff_101]))
 first|refine qqf ?_ ?_|refine qqg ?_ ?_
 ·exact fun _ _=>rfl
 ·simp only[packed,qv,Nat.reduceEqDiff,↓reduceIte,ff_101]
  all_goals simp
theorem cmpI_gives(a b:Int)(n:Nat)(H:Heap):Gives Tryz.prog 79 [.int .i64 a,.int .i64 b] n H fun v n' H'=>v=.int .i64 (cmpI a b)∧n'=n∧H'=H:=by
 refine Gives.of orders ok79 (Nat.le_of_ble_eq_true rfl) ?_
 repeat (first|refine qqm rfl ?_|((first|refine qqr ?_|refine qqt ?_);simp only[SS,qx11,simprocAttr]))
 refine AtCall.by (isNaN_gives _ _ _) ?_
 rintro v n1 H1 k1 ⟨rfl,rfl,rfl⟩
 simp only[SS,qx11,simprocAttr]
 repeat (first|refine qqm rfl ?_|((first|refine qqr ?_|refine qqt ?_);simp only[SS,qx11,simprocAttr]))
 refine AtCall.by (isNaN_gives _ _ _) ?_
 rintro v n2 H2 k2 ⟨rfl,rfl,rfl⟩
 simp only[SS,qx11,simprocAttr]
 by_cases h:a<b
 ·repeat (first|refine qqm rfl ?_|((first|refine qqr ?_|refine qqt ?_);simp only[SS,qx11,simprocAttr,h]))
  first|refine qqf ?_ ?_|refine qqg ?_ ?_
  ·exact fun _ _=>rfl
  ·simp only[packed,qv,Nat.reduceEqDiff,↓reduceIte]
   all_goals simp[cmpI,h]
 ·by_cases h':b<a
  ·repeat (first|refine qqm rfl ?_|((first|refine qqr ?_|refine qqt ?_);simp only[SS,qx11,simprocAttr,h,h']))
   first|refine qqf ?_ ?_|refine qqg ?_ ?_
   ·exact fun _ _=>rfl
   ·simp only[packed,qv,Nat.reduceEqDiff,↓reduceIte]
    all_goals simp[cmpI,h,h']
  ·repeat (first|refine qqm rfl ?_|((first|refine qqr ?_|refine qqt ?_);simp only[SS,qx11,simprocAttr,h,h']))
   first|refine qqf ?_ ?_|refine qqg ?_ ?_
   ·exact fun _ _=>rfl
   ·simp only[packed,qv,Nat.reduceEqDiff,↓reduceIte]
    all_goals simp[cmpI,h,h']
set_option maxHeartbeats 4000000 in
theorem orI_gives{x n:Nat}{H:Heap}{l:List Int}{ty:TypeId}{own:Bool}(hx:H x=.cells (l.map (Value.int .i64)) ty own)(hl:l.length≤16) :
  Gives Tryz.prog 78 [.slice (some ⟨x,0,none⟩) l.length l.length] n H fun v n' H'=>v=.int .i64 (orI l)∧n'=n∧H'=H:=by
 refine Gives.of orders ok78 (Nat.le_of_ble_eq_true rfl) ?_
 repeat (first|refine qqm rfl ?_|((first|refine qqr ?_|refine qqt ?_);simp only[SS,qx13,simprocAttr,ff_78]))
 refine WK.loop (fun k s=>∃i:Nat,s.n=n∧s.H=H∧s.f 3=.int .i64 0∧s.f 6=.slice (some ⟨x,0,none⟩) l.length l.length∧s.f 7=.int .i64 (l.length:Nat)∧s.f 8=.int .i64 (i:Nat)∧i≤l.length∧orI l=orI (l.drop i)∧k=l.length - i) l.length ?_ ?_
 ·exact⟨0,rfl,rfl,rfl,rfl,rfl,rfl,Nat.zero_le _,rfl,rfl⟩
 rintro k ⟨f,n',H'⟩ ⟨i,rfl,rfl,f3,f6,f7,f8,hi,ho,rfl⟩ ih
 simp only at f3 f6 f7 f8 ih hx
 by_cases hlt:i<l.length
 ·have e:(l.map (Value.int .i64))[i]? = some (.int .i64 l[i]):=by rw[List.getElem?_map,List.getElem?_eq_getElem hlt];rfl
  have hiw:IntKind.i64.wrap ((i:Int)+1)=((i+1:Nat):Int):=by rw[wrap_in (by omega) (by omega)];rfl
  have hd:l.drop i=l[i]::l.drop (i+1):=List.drop_eq_getElem_cons hlt
  rw[hd]at ho
  generalize l[i]=a at *
  by_cases h0:a=0
  ·repeat (first|refine qqm rfl ?_|((first|refine qqr ?_|refine qqt ?_);simp only[SS,qx13,simprocAttr,f3,f6,f7,f8,hlt,hx,e,h0,hiw,decide_true,Bool.not_true,ff_78]))
   exact ih (l.length - (i+1)) (by omega) _ ⟨i+1,rfl,rfl,f3,f6,f7,rfl,hlt,by rw[ho];unfold orI;rw[if_pos h0];cases l.drop (i+1) <;> rfl,rfl⟩
  ·repeat (first|refine qqm rfl ?_|((first|refine qqr ?_|refine qqt ?_);simp only[SS,qx13,simprocAttr,f3,f6,f7,f8,hlt,hx,e,h0,hiw,decide_false,Bool.not_false,ff_78]))
   first|refine qqf ?_ ?_|refine qqg ?_ ?_
   ·exact fun _ _=>rfl
   ·simp only[packed,qv,Nat.reduceEqDiff,↓reduceIte,ff_78]
    rw[ho]
    all_goals simp[orI,h0]
 ·repeat (first|refine qqm rfl ?_|((first|refine qqr ?_|refine qqt ?_);simp only[SS,qx13,simprocAttr,f3,f6,f7,f8,hlt,ff_78]))
  first|refine qqf ?_ ?_|refine qqg ?_ ?_
  ·exact fun _ _=>rfl
  ·simp only[packed,qv,Nat.reduceEqDiff,↓reduceIte,f3,ff_78]
   rw[ho,List.drop_of_length_le (by omega)]
   all_goals simp[orI]
set_option maxHeartbeats 4000000 in
theorem cmpS_gives(a b:Int × Int){n:Nat}{H:Heap}(hw:WF n H):Gives Tryz.prog 80 [.agg (spC a).toArray,.agg (spC b).toArray] n H fun v n' H'=>v=.int .i64 (cmpS a b):=by
 refine Gives.of orders ok80 (Nat.le_of_ble_eq_true rfl) ?_
 have v1:∀s,vcells (.agg (spC s).toArray)=spC s:=fun _=>rfl
 have v2:∀s,(spC s).all one=true:=fun _=>rfl
 have v3:∀s,(spC s)[0]? = some (.int .i64 s.1):=fun _=>rfl
 have v4:∀s,(spC s)[1]? = some (.int .i64 s.2):=fun _=>rfl
 have v5:∀s,(spC s).length=2:=fun _=>rfl
 repeat refine qqn rfl ?_
 (refine qqr ?_;simp only[SS,qx23,simprocAttr,abox,v1,v2,ff_80])
 have k2:Kp n H (n+1+1) (hset (hset H n (.cells (spC a) 75 true)) (n+1) (.cells (spC b) 75 true)):=(Kp.new n H _).trans (Kp.new (n+1) _ _)
 have h0:hset (hset H n (.cells (spC a) 75 true)) (n+1) (.cells (spC b) 75 true) n=_:=(hset_ne _ _ _ (by omega)).trans (hset_at _ _ _)
 have h1:hset (hset H n (.cells (spC a) 75 true)) (n+1) (.cells (spC b) 75 true) (n+1)=_:=hset_at _ _ _
 generalize hset (hset H n (.cells (spC a) 75 true)) (n+1) (.cells (spC b) 75 true)=H2 at *
 have hw2:=k2.wf hw
 repeat (first|refine qqm rfl ?_|((first|refine qqr ?_|refine qqt ?_);simp only[SS,qx23,simprocAttr,h0,h1,v3,v4,v5,ff_80]))
 refine AtCall.by (cmpI_gives _ _ _ _) ?_
 rintro v n3 H3 k3 ⟨rfl,rfl,rfl⟩
 simp only[SS,qx23,simprocAttr,h0,h1,v3,v4,v5,ff_80]
 refine AtCall.by (cmpI_gives _ _ _ _) ?_
 rintro v n4 H4 k4 ⟨rfl,rfl,rfl⟩
 have r2:∀z,rep 2 z=z++(z++[]):=fun _=>rfl
 simp only[SS,qx23,simprocAttr,r2,List.length_cons,List.length_nil,List.set_cons_zero,List.set_cons_succ,List.cons_append,List.nil_append,List.append_nil,ff_80]
 have k5:=k2.trans (Kp.new (n+1+1) H4 (.cells [.int .i64 (cmpI a.1 b.1),.int .i64 (cmpI a.2 b.2)] 3 true))
 have h5:hset H4 (n+1+1) (.cells [.int .i64 (cmpI a.1 b.1),.int .i64 (cmpI a.2 b.2)] 3 true) (n+1+1)=.cells ([cmpI a.1 b.1,cmpI a.2 b.2].map (Value.int .i64)) 3 true:=hset_at _ _ _
 refine AtCall.by (orI_gives (l:=[cmpI a.1 b.1,cmpI a.2 b.2]) h5 (by simp)) ?_
 rintro v n6 H6 k6 ⟨rfl,rfl,rfl⟩
 simp only[SS,qx23,simprocAttr,ff_80]
 repeat (first|refine qqm rfl ?_|((first|refine qqr ?_|refine qqt ?_);simp only[SS,qx23,simprocAttr,ff_80]))
 first|refine qqf ?_ ?_|refine qqg ?_ ?_
 ·exact k5.keep
 ·simp only[packed,qv,Nat.reduceEqDiff,↓reduceIte,ff_80]
  rfl
set_option maxHeartbeats 8000000 in
theorem cmpL_gives {p q : Option Addr} {a b : List (Int × Int)} {n : Nat} {H : Heap} (hw : WF n H) (ha : RN 2 spC H p a) (hb : RN 2 spC H q b) (hal : a.length ≤ maxL) :
    Gives Tryz.prog 81 [.slice p a.length a.length, .slice q b.length b.length, .func (.func 80) #[] #[]] n H fun v n' H' => v = .int .i64 (cmpL a b) := by
  refine Gives.of orders ok81 (Nat.le_of_ble_eq_true rfl) ?_
  have v1 : ∀ s, vcells (.agg (spC s).toArray) = spC s := fun _ => rfl
  have v2 : ∀ s, (spC s).all one = true := fun _ => rfl
  have v5 : ∀ s, (spC s).length = 2 := fun _ => rfl
  have v6 : ∀ s, ((spC s).drop 0).take 2 = spC s := fun _ => rfl
  have v7 : ∀ (x y : Value) s, AM.splice [x, y] 0 (spC s) = spC s := fun _ _ _ => rfl
  unfold maxL at hal
  repeat (first | refine qqm rfl ?_ | ((first | refine qqr ?_ | refine qqt ?_); simp only [SS, qx35, simprocAttr, ff_81]))
  refine WK.loop (fun k s => ∃ i : Nat, Kp n H s.n s.H ∧ s.f 0 = .slice p a.length a.length ∧ s.f 1 = .slice q b.length b.length ∧ s.f 2 = .func (.func 80) #[] #[] ∧ s.f 11 = .slice p a.length a.length ∧ s.f 12 = .int .i64 (a.length : Nat) ∧ s.f 13 = .int .i64 (i : Nat) ∧ i ≤ a.length ∧ i ≤ b.length ∧ cmpL a b = cmpL (a.drop i) (b.drop i) ∧ k = a.length - i) a.length ?_ ?_
  · exact ⟨0, Kp.refl _ _, rfl, rfl, rfl, rfl, rfl, rfl, Nat.zero_le _, Nat.zero_le _, rfl, rfl⟩
  rintro k ⟨f, n1, H1⟩ ⟨i, k1, f0, f1, f2, f11, f12, f13, hi, hib, hc, rfl⟩ ih
  simp only at k1 f0 f1 f2 f11 f12 f13 ih
  have hw1 := k1.wf hw
  have hle1 := k1.le
  by_cases hlt : i < a.length
  · have hiw : IntKind.i64.wrap ((i : Int) + 1) = ((i + 1 : Nat) : Int) := by rw [wrap_in (by omega) (by omega)]; rfl
    obtain ⟨x, kx, cx, tx, ox, hp, hx0, ex, lx⟩ := ha.at spC_len hlt
    have hx := (k1.keep x (live_lt hw (live_of hx0))).trans hx0
    rw [hp] at f11 f0
    have hda : a.drop i = a[i] :: a.drop (i + 1) := List.drop_eq_getElem_cons hlt
    rw [hda] at hc
    generalize a[i] = s at *
    by_cases hlb : i < b.length
    · have hge : ((b.length : Int) ≤ (i : Int)) = False := eq_false (by omega)
      obtain ⟨y, ky, cy, ty, oy, hq, hy0, ey, ly⟩ := hb.at spC_len hlb
      have hy := (k1.keep y (live_lt hw (live_of hy0))).trans hy0
      have hdb : b.drop i = b[i] :: b.drop (i + 1) := List.drop_eq_getElem_cons hlb
      rw [hdb] at hc
      generalize b[i] = t at *
      have hyl := live_lt hw1 (live_of hy)
      have q1 : ∀ ob, hset H1 n1 ob y = _ := fun ob => (hset_ne _ _ _ (by omega)).trans hy
      have q2 : ∀ (H : Heap) ob, hset H (n1 + 1) ob n1 = H n1 := fun H ob => hset_ne _ _ _ (by omega)
      rw [hq] at f1
      have k3 : Kp n H (n1 + 1 + 1) (hset (hset H1 n1 (.cells (spC s) 75 true)) (n1 + 1) (.cells (spC t) 75 true)) := (k1.trans (Kp.new n1 H1 _)).trans (Kp.new (n1 + 1) _ _)
      repeat (first | refine qqm rfl ?_ | ((first | refine qqr ?_ | refine qqt ?_); simp only [SS, qx35, simprocAttr, f0, f1, f2, f11, f12, f13, hlt, hlb, hge, hx, ex, lx, hy, ey, ly, q1, q2, v1, v2, v5, v6, v7, ff_81]))
      refine AtCall.by (cmpS_gives s t (k3.wf hw)) ?_
      rintro v n4 H4 k4 rfl
      by_cases h0 : cmpS s t = 0
      · have hc' : cmpL a b = cmpL (a.drop (i + 1)) (b.drop (i + 1)) := by
          rw [hc]
          show (if cmpS s t = 0 then _ else _) = _
          rw [if_pos h0]
        simp only [SS, qx35, simprocAttr, h0, decide_true, Bool.not_true, ff_81]
        repeat (first | refine qqm rfl ?_ | ((first | refine qqr ?_ | refine qqt ?_); simp only [SS, qx35, simprocAttr, f13, hiw, decide_true, Bool.not_true, ff_81]))
        exact ih (a.length - (i + 1)) (by omega) _ ⟨i + 1, k3.trans k4, by rw [hp]; exact f0, by rw [hq]; exact f1, f2, by rw [hp]; exact f11, f12, rfl, hlt, hlb, hc', rfl⟩
      · simp only [SS, qx35, simprocAttr, ff_81]
        repeat (first | refine qqm rfl ?_ | ((first | refine qqr ?_ | refine qqt ?_); simp only [SS, qx35, simprocAttr, h0, decide_false, Bool.not_false, ff_81]))
        first | refine qqf ?_ ?_ | refine qqg ?_ ?_
        · exact (k3.trans k4).keep
        · simp only [packed, qv, Nat.reduceEqDiff, ↓reduceIte, ff_81]
          rw [hc]
          unfold cmpL
          rw [if_neg h0]
    · have hge : ((b.length : Int) ≤ (i : Int)) = True := eq_true (by omega)
      repeat (first | refine qqm rfl ?_ | ((first | refine qqr ?_ | refine qqt ?_); simp only [SS, qx35, simprocAttr, f0, f1, f2, f11, f12, f13, hlt, hge, hx, ex, lx, v1, v2, v5, v6, v7, ff_81]))
      first | refine qqf ?_ ?_ | refine qqg ?_ ?_
      · exact (k1.trans (Kp.new n1 H1 _)).keep
      · simp only [packed, qv, Nat.reduceEqDiff, ↓reduceIte, ff_81]
        rw [hc, List.drop_of_length_le (by omega : b.length ≤ i)]
        rfl
  · rw [List.drop_of_length_le (by omega : a.length ≤ i)] at hc
    by_cases hlb : a.length < b.length
    · have hlb' : ((a.length : Int) < (b.length : Int)) = True := eq_true (by omega)
      repeat (first | refine qqm rfl ?_ | ((first | refine qqr ?_ | refine qqt ?_); simp only [SS, qx35, simprocAttr, f0, f1, f11, f12, f13, hlt, hlb, hlb', ff_81]))
      first | refine qqf ?_ ?_ | refine qqg ?_ ?_
      · exact k1.keep
      · simp only [packed, qv, Nat.reduceEqDiff, ↓reduceIte, ff_81]
        rw [hc, List.drop_eq_getElem_cons (by omega : i < b.length)]
        rfl
    · have hlb' : ((a.length : Int) < (b.length : Int)) = False := eq_false (by omega)
      repeat (first | refine qqm rfl ?_ | ((first | refine qqr ?_ | refine qqt ?_); simp only [SS, qx35, simprocAttr, f0, f1, f11, f12, f13, hlt, hlb, hlb', ff_81]))
      first | refine qqf ?_ ?_ | refine qqg ?_ ?_
      · exact k1.keep
      · simp only [packed, qv, Nat.reduceEqDiff, ↓reduceIte, ff_81]
        rw [hc, List.drop_of_length_le (by omega : b.length ≤ i)]
        rfl
set_option maxHeartbeats 8000000 in
theorem cmpC_gives{x y:Cfg × Option Addr}{n:Nat}{H:Heap}(hw:WF n H)(ha:StOK H x)(hb:StOK H y)(hal:x.1.stack.length≤maxL) :
  Gives Tryz.prog 64 [.agg (ccell x).toArray,.agg (ccell y).toArray] n H fun v _ _=>v=.int .i64 (cmpC x.1 y.1):=by
 refine Gives.of orders ok64 (Nat.le_of_ble_eq_true rfl) ?_
 have v1:∀s,vcells (.agg (ccell s).toArray)=ccell s:=fun _=>rfl
 have v2:∀s,(ccell s).all one=true:=fun _=>rfl
 have v3:∀s,(ccell s)[0]? = some (.int .i64 s.1.alt):=fun _=>rfl
 have v4:∀s,(ccell s)[3]? = some (.slice s.2 s.1.stack.length s.1.stack.length):=fun _=>rfl
 have v5:∀s,(ccell s).length=4:=fun _=>rfl
 have v6:∀s,((ccell s).drop 1).take 2=spC (s.1.rule,s.1.dot):=fun _=>rfl
 repeat refine qqn rfl ?_
 (refine qqr ?_;simp only[SS,qx23,simprocAttr,abox,v1,v2,ff_64])
 have k2:Kp n H (n+1+1) (hset (hset H n (.cells (ccell x) 82 true)) (n+1) (.cells (ccell y) 82 true)):=(Kp.new n H _).trans (Kp.new (n+1) _ _)
 have h0:hset (hset H n (.cells (ccell x) 82 true)) (n+1) (.cells (ccell y) 82 true) n=_:=(hset_ne _ _ _ (by omega)).trans (hset_at _ _ _)
 have h1:hset (hset H n (.cells (ccell x) 82 true)) (n+1) (.cells (ccell y) 82 true) (n+1)=_:=hset_at _ _ _
 generalize hset (hset H n (.cells (ccell x) 82 true)) (n+1) (.cells (ccell y) 82 true)=H2 at *
 have hw2:=k2.wf hw
 repeat (first|refine qqm rfl ?_|((first|refine qqr ?_|refine qqt ?_);simp only[SS,qx23,simprocAttr,h0,h1,v3,v4,v5,v6,ff_64]))
 refine AtCall.by (cmpI_gives _ _ _ _) ?_
 rintro v n3 H3 k3 ⟨rfl,rfl,rfl⟩
 simp only[SS,qx23,simprocAttr,h0,h1,v3,v4,v5,v6,ff_64]
 refine AtCall.by (cmpS_gives (x.1.rule,x.1.dot) (y.1.rule,y.1.dot) hw2) ?_
 rintro v n4 H4 k4 rfl
 have hle4:=k4.le
 have h04:=(k4.keep n (by omega)).trans h0
 have h14:=(k4.keep (n+1) (by omega)).trans h1
 have kk4:=k2.trans k4
 have hw4:=kk4.wf hw
 simp only[SS,qx23,simprocAttr,h04,h14,v3,v4,v5,v6,ff_64]
 refine AtCall.by (cmpL_gives hw4 (ha.mono hw kk4) (hb.mono hw kk4) hal) ?_
 rintro v n5 H5 k5 rfl
 have kk5:=kk4.trans k5
 have r3:∀z,rep 3 z=z++(z++(z++[])):=fun _=>rfl
 simp only[SS,qx23,simprocAttr,r3,List.length_cons,List.length_nil,List.set_cons_zero,List.set_cons_succ,List.cons_append,List.nil_append,List.append_nil,ff_64]
 have h5:hset H5 n5 (.cells [.int .i64 (cmpI x.1.alt y.1.alt),.int .i64 (cmpS (x.1.rule,x.1.dot) (y.1.rule,y.1.dot)),.int .i64 (cmpL x.1.stack y.1.stack)] 3 true) n5=.cells ([cmpI x.1.alt y.1.alt,cmpS (x.1.rule,x.1.dot) (y.1.rule,y.1.dot),cmpL x.1.stack y.1.stack].map (Value.int .i64)) 3 true:=hset_at _ _ _
 refine AtCall.by (orI_gives (l:=[cmpI x.1.alt y.1.alt,cmpS (x.1.rule,x.1.dot) (y.1.rule,y.1.dot),cmpL x.1.stack y.1.stack]) h5 (by simp)) ?_
 rintro v n6 H6 k6 ⟨rfl,rfl,rfl⟩
 simp only[SS,qx23,simprocAttr,ff_64]
 repeat (first|refine qqm rfl ?_|((first|refine qqr ?_|refine qqt ?_);simp only[SS,qx23,simprocAttr,ff_64]))
 first|refine qqf ?_ ?_|refine qqg ?_ ?_
 ·exact(kk5.trans (Kp.new n5 H5 _)).keep
 ·simp only[packed,qv,Nat.reduceEqDiff,↓reduceIte,ff_64]
  rfl
end Go.Proofs.YtjlgpanihjnaeaaGreatDoor

namespace Go.Proofs.YtjlgpanihjnaeaaGreatDoor
open Go.AM
set_option maxRecDepth 100000
theorem ext_bits(b:Nat):aext Tryz.prog 76 [.float .f64 b]=some (.int .u64 b):=by
 have h : (match Tryz.prog.funcs[76]? with | some fn => fn.body.isNone && fn.origin == "" && (fn.name == "math.Float64bits" || fn.name == "internal/strconv.float64bits") | none => false) = true := by kernel_rfl
 unfold aext
 split at h
 ·rename_i fn hf
  simp only[Bool.and_eq_true]at h
  simp[hf,h]
 ·cases h
theorem min52:min 52 IntKind.u64.bits=52:=rfl
theorem min12:min 12 IntKind.u64.bits=12:=rfl
theorem min63:min 63 IntKind.u64.bits=63:=rfl
def expB(b:Nat):Int:=IntKind.u64.wrap (BitVec.ofInt IntKind.u64.bits ((b:Int).fdiv (2 ^ 52)) &&& BitVec.ofInt IntKind.u64.bits 2047).toNat
def nanB(b:Nat):Bool:=decide (expB b=2047) && !decide (IntKind.u64.wrap ((b:Int)*2 ^ 12)=0)
theorem nan_gives(b:Nat)(n:Nat)(H:Heap):Gives Tryz.prog 61 [.float .f64 b] n H fun v n' H'=>v=.bool (nanB b)∧n'=n∧H'=H:=by
 refine Gives.of orders ok61 (Nat.le_of_ble_eq_true rfl) ?_
 have e:IntKind.u64.wrap (BitVec.ofInt IntKind.u64.bits ((b:Int).fdiv (2 ^ 52)) &&& BitVec.ofInt IntKind.u64.bits 2047).toNat=expB b:=rfl
 by_cases h1:expB b=2047
 ·repeat (first|refine qqm rfl ?_|((first|refine qqr ?_|refine qqt ?_);simp only[SS,qx1,Int.reduceEq,Int.reduceNeg,Nat.reduceGT,Nat.reduceLT,Nat.reduceLeDiff,Nat.reduceEqDiff,↓reduceIte,reduceCtorEq,Int.reduceToNat,Int.reduceLE,Int.reduceLT,Nat.reduceAdd,Nat.reduceMul,ext_bits,e,h1,min52,min12,ff_61]))
  first|refine qqf ?_ ?_|refine qqg ?_ ?_
  ·exact fun _ _=>rfl
  ·simp only[packed,qv,Nat.reduceEqDiff,↓reduceIte,nanB,h1,ff_61]
   simp
 ·repeat (first|refine qqm rfl ?_|((first|refine qqr ?_|refine qqt ?_);simp only[SS,qx1,Int.reduceEq,Int.reduceNeg,Nat.reduceGT,Nat.reduceLT,Nat.reduceLeDiff,Nat.reduceEqDiff,↓reduceIte,reduceCtorEq,Int.reduceToNat,Int.reduceLE,Int.reduceLT,Nat.reduceAdd,Nat.reduceMul,ext_bits,e,h1,min52,min12,ff_61]))
  first|refine qqf ?_ ?_|refine qqg ?_ ?_
  ·exact fun _ _=>rfl
  ·simp only[packed,qv,Nat.reduceEqDiff,↓reduceIte,nanB,h1,ff_61]
   simp
def belowB(b:Nat):Bool:=decide ((b:Int).fdiv (2 ^ 63)=1)
theorem below_gives(b:Nat)(n:Nat)(H:Heap):Gives Tryz.prog 100 [.float .f64 b] n H fun v n' H'=>v=.bool (belowB b)∧n'=n∧H'=H:=by
 refine Gives.of orders ok100 (Nat.le_of_ble_eq_true rfl) ?_
 repeat (first|refine qqm rfl ?_|((first|refine qqr ?_|refine qqt ?_);simp only[SS,qx11,Int.reduceEq,Int.reduceNeg,Nat.reduceGT,Nat.reduceLT,Nat.reduceLeDiff,Nat.reduceEqDiff,↓reduceIte,reduceCtorEq,Int.reduceToNat,Int.reduceLE,Int.reduceLT,Nat.reduceAdd,Nat.reduceMul,ext_bits,min63,ff_100]))
 first|refine qqf ?_ ?_|refine qqg ?_ ?_
 ·exact fun _ _=>rfl
 ·simp only[packed,qv,Nat.reduceEqDiff,↓reduceIte,belowB,ff_100]
  simp
def lessB(a b:Nat):Bool :=
 if nanB a || nanB b then !nanB a && nanB b
 else if belowB a != belowB b then belowB a
 else if belowB a then decide (b<a) else decide (a<b)
theorem lessB_gives(a b:Nat)(n:Nat)(H:Heap):Gives Tryz.prog 77 [.float .f64 a,.float .f64 b] n H fun v n' H'=>v=.bool (lessB a b)∧n'=n∧H'=H:=by
 refine Gives.of orders ok77 (Nat.le_of_ble_eq_true rfl) ?_
 repeat (first|refine qqm rfl ?_|((first|refine qqr ?_|refine qqt ?_);simp only[SS,qx1,vun,Int.reduceEq,Int.reduceNeg,Nat.reduceGT,Nat.reduceLT,Nat.reduceLeDiff,Nat.reduceEqDiff,↓reduceIte,reduceCtorEq,Int.reduceToNat,Int.reduceLE,Int.reduceLT,Nat.reduceAdd,Nat.reduceMul,ff_77]))
 refine AtCall.by (nan_gives a n H) ?_
 rintro v n' H' hk ⟨rfl,rfl,rfl⟩
 cases h1:nanB a
 ·simp only[SS,qx1,vun,Int.reduceEq,Int.reduceNeg,Nat.reduceGT,Nat.reduceLT,Nat.reduceLeDiff,Nat.reduceEqDiff,↓reduceIte,reduceCtorEq,Int.reduceToNat,Int.reduceLE,Int.reduceLT,Nat.reduceAdd,Nat.reduceMul,ff_77]
  refine AtCall.by (nan_gives b _ _) ?_
  rintro v n' H' hk ⟨rfl,rfl,rfl⟩
  cases h2:nanB b
  ·simp only[SS,qx1,vun,Int.reduceEq,Int.reduceNeg,Nat.reduceGT,Nat.reduceLT,Nat.reduceLeDiff,Nat.reduceEqDiff,↓reduceIte,reduceCtorEq,Int.reduceToNat,Int.reduceLE,Int.reduceLT,Nat.reduceAdd,Nat.reduceMul,ff_77]
   repeat (first|refine qqm rfl ?_|((first|refine qqr ?_|refine qqt ?_);simp only[SS,qx1,vun,Int.reduceEq,Int.reduceNeg,Nat.reduceGT,Nat.reduceLT,Nat.reduceLeDiff,Nat.reduceEqDiff,↓reduceIte,reduceCtorEq,Int.reduceToNat,Int.reduceLE,Int.reduceLT,Nat.reduceAdd,Nat.reduceMul,ff_77]))
   refine AtCall.by (below_gives a _ _) ?_
   rintro v n' H' hk ⟨rfl,rfl,rfl⟩
   simp only[SS,qx1,vun,Int.reduceEq,Int.reduceNeg,Nat.reduceGT,Nat.reduceLT,Nat.reduceLeDiff,Nat.reduceEqDiff,↓reduceIte,reduceCtorEq,Int.reduceToNat,Int.reduceLE,Int.reduceLT,Nat.reduceAdd,Nat.reduceMul,ff_77]
   refine AtCall.by (below_gives b _ _) ?_
   rintro v n' H' hk ⟨rfl,rfl,rfl⟩
   cases h3:belowB a <;> cases h4:belowB b
   ·simp only[SS,qx1,vun,Int.reduceEq,Int.reduceNeg,Nat.reduceGT,Nat.reduceLT,Nat.reduceLeDiff,Nat.reduceEqDiff,↓reduceIte,reduceCtorEq,Int.reduceToNat,Int.reduceLE,Int.reduceLT,Nat.reduceAdd,Nat.reduceMul,ff_77]
    repeat (first|refine qqm rfl ?_|((first|refine qqr ?_|refine qqt ?_);simp only[SS,qx1,vun,Int.reduceEq,Int.reduceNeg,Nat.reduceGT,Nat.reduceLT,Nat.reduceLeDiff,Nat.reduceEqDiff,↓reduceIte,reduceCtorEq,Int.reduceToNat,Int.reduceLE,Int.reduceLT,Nat.reduceAdd,Nat.reduceMul,ff_77]))
    refine AtCall.by (below_gives a _ _) ?_
    rintro v n' H' hk ⟨rfl,rfl,rfl⟩
    simp only[SS,qx1,vun,Int.reduceEq,Int.reduceNeg,Nat.reduceGT,Nat.reduceLT,Nat.reduceLeDiff,Nat.reduceEqDiff,↓reduceIte,reduceCtorEq,Int.reduceToNat,Int.reduceLE,Int.reduceLT,Nat.reduceAdd,Nat.reduceMul,h3,ff_77]
    repeat (first|refine qqm rfl ?_|((first|refine qqr ?_|refine qqt ?_);simp only[SS,qx1,vun,Int.reduceEq,Int.reduceNeg,Nat.reduceGT,Nat.reduceLT,Nat.reduceLeDiff,Nat.reduceEqDiff,↓reduceIte,reduceCtorEq,Int.reduceToNat,Int.reduceLE,Int.reduceLT,Nat.reduceAdd,Nat.reduceMul,h3,ext_bits,ff_77]))
    first|refine qqf ?_ ?_|refine qqg ?_ ?_
    ·exact fun _ _=>rfl
    ·simp only[packed,qv,Nat.reduceEqDiff,↓reduceIte,lessB,h1,h2,h3,h4,ff_77]
     simp
   ·simp only[SS,qx1,vun,Int.reduceEq,Int.reduceNeg,Nat.reduceGT,Nat.reduceLT,Nat.reduceLeDiff,Nat.reduceEqDiff,↓reduceIte,reduceCtorEq,Int.reduceToNat,Int.reduceLE,Int.reduceLT,Nat.reduceAdd,Nat.reduceMul,ff_77]
    repeat (first|refine qqm rfl ?_|((first|refine qqr ?_|refine qqt ?_);simp only[SS,qx1,vun,Int.reduceEq,Int.reduceNeg,Nat.reduceGT,Nat.reduceLT,Nat.reduceLeDiff,Nat.reduceEqDiff,↓reduceIte,reduceCtorEq,Int.reduceToNat,Int.reduceLE,Int.reduceLT,Nat.reduceAdd,Nat.reduceMul,ff_77]))
    refine AtCall.by (below_gives a _ _) ?_
    rintro v n' H' hk ⟨rfl,rfl,rfl⟩
    simp only[SS,qx1,vun,Int.reduceEq,Int.reduceNeg,Nat.reduceGT,Nat.reduceLT,Nat.reduceLeDiff,Nat.reduceEqDiff,↓reduceIte,reduceCtorEq,Int.reduceToNat,Int.reduceLE,Int.reduceLT,Nat.reduceAdd,Nat.reduceMul,h3,ff_77]
    repeat (first|refine qqm rfl ?_|((first|refine qqr ?_|refine qqt ?_);simp only[SS,qx1,vun,Int.reduceEq,Int.reduceNeg,Nat.reduceGT,Nat.reduceLT,Nat.reduceLeDiff,Nat.reduceEqDiff,↓reduceIte,reduceCtorEq,Int.reduceToNat,Int.reduceLE,Int.reduceLT,Nat.reduceAdd,Nat.reduceMul,h3,ff_77]))
    first|refine qqf ?_ ?_|refine qqg ?_ ?_
    ·exact fun _ _=>rfl
    ·simp only[packed,qv,Nat.reduceEqDiff,↓reduceIte,lessB,h1,h2,h3,h4,ff_77]
     simp
   ·simp only[SS,qx1,vun,Int.reduceEq,Int.reduceNeg,Nat.reduceGT,Nat.reduceLT,Nat.reduceLeDiff,Nat.reduceEqDiff,↓reduceIte,reduceCtorEq,Int.reduceToNat,Int.reduceLE,Int.reduceLT,Nat.reduceAdd,Nat.reduceMul,ff_77]
    repeat (first|refine qqm rfl ?_|((first|refine qqr ?_|refine qqt ?_);simp only[SS,qx1,vun,Int.reduceEq,Int.reduceNeg,Nat.reduceGT,Nat.reduceLT,Nat.reduceLeDiff,Nat.reduceEqDiff,↓reduceIte,reduceCtorEq,Int.reduceToNat,Int.reduceLE,Int.reduceLT,Nat.reduceAdd,Nat.reduceMul,ff_77]))
    refine AtCall.by (below_gives a _ _) ?_
    rintro v n' H' hk ⟨rfl,rfl,rfl⟩
    simp only[SS,qx1,vun,Int.reduceEq,Int.reduceNeg,Nat.reduceGT,Nat.reduceLT,Nat.reduceLeDiff,Nat.reduceEqDiff,↓reduceIte,reduceCtorEq,Int.reduceToNat,Int.reduceLE,Int.reduceLT,Nat.reduceAdd,Nat.reduceMul,h3,ff_77]
    repeat (first|refine qqm rfl ?_|((first|refine qqr ?_|refine qqt ?_);simp only[SS,qx1,vun,Int.reduceEq,Int.reduceNeg,Nat.reduceGT,Nat.reduceLT,Nat.reduceLeDiff,Nat.reduceEqDiff,↓reduceIte,reduceCtorEq,Int.reduceToNat,Int.reduceLE,Int.reduceLT,Nat.reduceAdd,Nat.reduceMul,h3,ff_77]))
    first|refine qqf ?_ ?_|refine qqg ?_ ?_
    ·exact fun _ _=>rfl
    ·simp only[packed,qv,Nat.reduceEqDiff,↓reduceIte,lessB,h1,h2,h3,h4,ff_77]
     simp
   ·simp only[SS,qx1,vun,Int.reduceEq,Int.reduceNeg,Nat.reduceGT,Nat.reduceLT,Nat.reduceLeDiff,Nat.reduceEqDiff,↓reduceIte,reduceCtorEq,Int.reduceToNat,Int.reduceLE,Int.reduceLT,Nat.reduceAdd,Nat.reduceMul,ff_77]
    repeat (first|refine qqm rfl ?_|((first|refine qqr ?_|refine qqt ?_);simp only[SS,qx1,vun,Int.reduceEq,Int.reduceNeg,Nat.reduceGT,Nat.reduceLT,Nat.reduceLeDiff,Nat.reduceEqDiff,↓reduceIte,reduceCtorEq,Int.reduceToNat,Int.reduceLE,Int.reduceLT,Nat.reduceAdd,Nat.reduceMul,ff_77]))
    refine AtCall.by (below_gives a _ _) ?_
    rintro v n' H' hk ⟨rfl,rfl,rfl⟩
    simp only[SS,qx1,vun,Int.reduceEq,Int.reduceNeg,Nat.reduceGT,Nat.reduceLT,Nat.reduceLeDiff,Nat.reduceEqDiff,↓reduceIte,reduceCtorEq,Int.reduceToNat,Int.reduceLE,Int.reduceLT,Nat.reduceAdd,Nat.reduceMul,h3,ff_77]
    repeat (first|refine qqm rfl ?_|((first|refine qqr ?_|refine qqt ?_);simp only[SS,qx1,vun,Int.reduceEq,Int.reduceNeg,Nat.reduceGT,Nat.reduceLT,Nat.reduceLeDiff,Nat.reduceEqDiff,↓reduceIte,reduceCtorEq,Int.reduceToNat,Int.reduceLE,Int.reduceLT,Nat.reduceAdd,Nat.reduceMul,h3,ext_bits,ff_77]))
    first|refine qqf ?_ ?_|refine qqg ?_ ?_
    ·exact fun _ _=>rfl
    ·simp only[packed,qv,Nat.reduceEqDiff,↓reduceIte,lessB,h1,h2,h3,h4,ff_77]
     simp
  ·simp only[SS,qx1,vun,Int.reduceEq,Int.reduceNeg,Nat.reduceGT,Nat.reduceLT,Nat.reduceLeDiff,Nat.reduceEqDiff,↓reduceIte,reduceCtorEq,Int.reduceToNat,Int.reduceLE,Int.reduceLT,Nat.reduceAdd,Nat.reduceMul,ff_77]
   repeat (first|refine qqm rfl ?_|((first|refine qqr ?_|refine qqt ?_);simp only[SS,qx1,vun,Int.reduceEq,Int.reduceNeg,Nat.reduceGT,Nat.reduceLT,Nat.reduceLeDiff,Nat.reduceEqDiff,↓reduceIte,reduceCtorEq,Int.reduceToNat,Int.reduceLE,Int.reduceLT,Nat.reduceAdd,Nat.reduceMul,ff_77]))
   refine AtCall.by (nan_gives a _ _) ?_
   rintro v n' H' hk ⟨rfl,rfl,rfl⟩
   simp only[SS,qx1,vun,Int.reduceEq,Int.reduceNeg,Nat.reduceGT,Nat.reduceLT,Nat.reduceLeDiff,Nat.reduceEqDiff,↓reduceIte,reduceCtorEq,Int.reduceToNat,Int.reduceLE,Int.reduceLT,Nat.reduceAdd,Nat.reduceMul,h1,ff_77]
   refine AtCall.by (nan_gives b _ _) ?_
   rintro v n' H' hk ⟨rfl,rfl,rfl⟩
   simp only[SS,qx1,vun,Int.reduceEq,Int.reduceNeg,Nat.reduceGT,Nat.reduceLT,Nat.reduceLeDiff,Nat.reduceEqDiff,↓reduceIte,reduceCtorEq,Int.reduceToNat,Int.reduceLE,Int.reduceLT,Nat.reduceAdd,Nat.reduceMul,h2,ff_77]
   repeat (first|refine qqm rfl ?_|((first|refine qqr ?_|refine qqt ?_);simp only[SS,qx1,vun,Int.reduceEq,Int.reduceNeg,Nat.reduceGT,Nat.reduceLT,Nat.reduceLeDiff,Nat.reduceEqDiff,↓reduceIte,reduceCtorEq,Int.reduceToNat,Int.reduceLE,Int.reduceLT,Nat.reduceAdd,Nat.reduceMul,h1,h2,ff_77]))
   first|refine qqf ?_ ?_|refine qqg ?_ ?_
   ·exact fun _ _=>rfl
   ·simp only[packed,qv,Nat.reduceEqDiff,↓reduceIte,lessB,h1,h2,ff_77]
    simp
 ·simp only[SS,qx1,vun,Int.reduceEq,Int.reduceNeg,Nat.reduceGT,Nat.reduceLT,Nat.reduceLeDiff,Nat.reduceEqDiff,↓reduceIte,reduceCtorEq,Int.reduceToNat,Int.reduceLE,Int.reduceLT,Nat.reduceAdd,Nat.reduceMul,ff_77]
  repeat (first|refine qqm rfl ?_|((first|refine qqr ?_|refine qqt ?_);simp only[SS,qx1,vun,Int.reduceEq,Int.reduceNeg,Nat.reduceGT,Nat.reduceLT,Nat.reduceLeDiff,Nat.reduceEqDiff,↓reduceIte,reduceCtorEq,Int.reduceToNat,Int.reduceLE,Int.reduceLT,Nat.reduceAdd,Nat.reduceMul,ff_77]))
  refine AtCall.by (nan_gives a _ _) ?_
  rintro v n' H' hk ⟨rfl,rfl,rfl⟩
  simp only[SS,qx1,vun,Int.reduceEq,Int.reduceNeg,Nat.reduceGT,Nat.reduceLT,Nat.reduceLeDiff,Nat.reduceEqDiff,↓reduceIte,reduceCtorEq,Int.reduceToNat,Int.reduceLE,Int.reduceLT,Nat.reduceAdd,Nat.reduceMul,h1,ff_77]
  repeat (first|refine qqm rfl ?_|((first|refine qqr ?_|refine qqt ?_);simp only[SS,qx1,vun,Int.reduceEq,Int.reduceNeg,Nat.reduceGT,Nat.reduceLT,Nat.reduceLeDiff,Nat.reduceEqDiff,↓reduceIte,reduceCtorEq,Int.reduceToNat,Int.reduceLE,Int.reduceLT,Nat.reduceAdd,Nat.reduceMul,h1,ff_77]))
  first|refine qqf ?_ ?_|refine qqg ?_ ?_
  ·exact fun _ _=>rfl
  ·simp only[packed,qv,Nat.reduceEqDiff,↓reduceIte,lessB,h1,ff_77]
   simp
def sameB(a b:Nat):Bool:=!lessB a b && !lessB b a
theorem sameB_gives(a b:Nat)(n:Nat)(H:Heap):Gives Tryz.prog 62 [.float .f64 a,.float .f64 b] n H fun v n' H'=>v=.bool (sameB a b)∧n'=n∧H'=H:=by
 refine Gives.of orders ok62 (Nat.le_of_ble_eq_true rfl) ?_
 repeat (first|refine qqm rfl ?_|((first|refine qqr ?_|refine qqt ?_);simp only[SS,qg0,vun,tpick,Int.reduceEq,Int.reduceNeg,Nat.reduceGT,Nat.reduceLT,Nat.reduceLeDiff,Nat.reduceEqDiff,↓reduceIte,reduceCtorEq,Int.reduceToNat,Int.reduceLE,Int.reduceLT,Nat.reduceAdd,Nat.reduceMul]))
 refine AtCall.by (lessB_gives a b n H) ?_
 rintro v n' H' hk ⟨rfl,rfl,rfl⟩
 cases h1:lessB a b
 ·simp only[SS,qg0,vun,tpick,Int.reduceEq,Int.reduceNeg,Nat.reduceGT,Nat.reduceLT,Nat.reduceLeDiff,Nat.reduceEqDiff,↓reduceIte,reduceCtorEq,Int.reduceToNat,Int.reduceLE,Int.reduceLT,Nat.reduceAdd,Nat.reduceMul]
  refine AtCall.by (lessB_gives b a _ _) ?_
  rintro v n' H' hk ⟨rfl,rfl,rfl⟩
  simp only[SS,qg0,vun,tpick,Int.reduceEq,Int.reduceNeg,Nat.reduceGT,Nat.reduceLT,Nat.reduceLeDiff,Nat.reduceEqDiff,↓reduceIte,reduceCtorEq,Int.reduceToNat,Int.reduceLE,Int.reduceLT,Nat.reduceAdd,Nat.reduceMul]
  repeat (first|refine qqm rfl ?_|((first|refine qqr ?_|refine qqt ?_);simp only[SS,qg0,vun,tpick,Int.reduceEq,Int.reduceNeg,Nat.reduceGT,Nat.reduceLT,Nat.reduceLeDiff,Nat.reduceEqDiff,↓reduceIte,reduceCtorEq,Int.reduceToNat,Int.reduceLE,Int.reduceLT,Nat.reduceAdd,Nat.reduceMul]))
  first|refine qqf ?_ ?_|refine qqg ?_ ?_
  ·exact fun _ _=>rfl
  ·simp only[packed,qv,Nat.reduceEqDiff,↓reduceIte,sameB,h1]
   simp
 ·simp only[SS,qg0,vun,tpick,Int.reduceEq,Int.reduceNeg,Nat.reduceGT,Nat.reduceLT,Nat.reduceLeDiff,Nat.reduceEqDiff,↓reduceIte,reduceCtorEq,Int.reduceToNat,Int.reduceLE,Int.reduceLT,Nat.reduceAdd,Nat.reduceMul]
  repeat (first|refine qqm rfl ?_|((first|refine qqr ?_|refine qqt ?_);simp only[SS,qg0,vun,tpick,Int.reduceEq,Int.reduceNeg,Nat.reduceGT,Nat.reduceLT,Nat.reduceLeDiff,Nat.reduceEqDiff,↓reduceIte,reduceCtorEq,Int.reduceToNat,Int.reduceLE,Int.reduceLT,Nat.reduceAdd,Nat.reduceMul]))
  first|refine qqf ?_ ?_|refine qqg ?_ ?_
  ·exact fun _ _=>rfl
  ·simp only[packed,qv,Nat.reduceEqDiff,↓reduceIte,sameB,h1]
   simp
theorem oks:∀g fn c,fns.contains g=true→Tryz.prog.funcs[g]? = some fn→fn.body=some c→FnOK Tryz.prog g fn c:=fnOK_of fns_ok
end Go.Proofs.YtjlgpanihjnaeaaGreatDoor

namespace Go.Proofs.YtjlgpanihjnaeaaGreatDoor
open Go.AM
set_option maxRecDepth 100000
theorem read_inf(n:Nat)(H:Heap):Gives Tryz.prog 60 [.string ⟨#[105,110,102]⟩] n H fun v n' H'=>v=.tuple #[.float .f64 9218868437227405312,.bool true]∧n'=n∧H'=H :=
 Gives.ev orders oks (k:=50) (by kernel_rfl)
theorem read_ninf(n:Nat)(H:Heap):Gives Tryz.prog 60 [.string ⟨#[45,105,110,102]⟩] n H fun v n' H'=>v=.tuple #[.float .f64 18442240474082181120,.bool true]∧n'=n∧H'=H :=
 Gives.ev orders oks (k:=50) (by kernel_rfl)
end Go.Proofs.YtjlgpanihjnaeaaGreatDoor
