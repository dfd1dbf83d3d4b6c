/- A part of a proof. Its conditions: none. -/
import Derived.Test.YtigijncdfkbaoaaGreatDoorAmYAtAft
import Derived.Test.YtigijncdfkbaoaaGreatDoorAmYAtLess
set_option linter.all false
namespace Go.Proofs.YtigijncdfkbaoaaGreatDoor
open Go.AM
set_option maxRecDepth 100000
structure LS(H:Heap)(n0 N y:Nat)(A:List CA):Prop where
 lo:n0≤y
 hi:y<N
 c:H y=.cells (A.flatMap ccell) 66 true
 x:∀z∈A,XD H z
theorem LS.kx{H H':Heap}{n n' n0 y y':Nat}{A:List CA}{cs:List Value}(h:LS H n0 n y A)(hw:WF n H)(hy:H y'=.cells cs 66 true)(hne:y≠y')(k:Kx (fun z=>z=y') n H n' H'):LS H' n0 n' y A :=
 ⟨h.lo,Nat.lt_of_lt_of_le h.hi k.le,(k.keep y h.hi hne).trans h.c,fun z hz=>(h.x z hz).kx hw hy k⟩
theorem LS.kp{H H':Heap}{n n' n0 y:Nat}{A:List CA}(h:LS H n0 n y A)(hw:WF n H)(k:Kp n H n' H'):LS H' n0 n' y A :=
 ⟨h.lo,Nat.lt_of_lt_of_le h.hi k.le,(k.keep y h.hi).trans h.c,fun z hz=>(h.x z hz).kp hw k⟩
theorem stk_len(r:GRule)(c:Cfg):(stkL r c).length≤c.stack.length+1:=by
 unfold stkL
 split
 ·simp
 ·omega
theorem step_len{g:Gram}{cl:List (List (Int × Int))}{c d:Cfg}(h:d∈stepL g cl c):d.stack.length≤c.stack.length+1:=by
 unfold stepL at h
 split at h
 ·simp at h
 split at h
 ·simp at h
 rename_i r _
 split at h
 ·unfold backL at h
  split at h
  ·rw[List.mem_singleton]at h
   rw[h];simp;omega
  ·split at h
   ·simp at h
   ·rcases List.mem_append.1 h with h|h
    ·split at h
     ·rw[List.mem_singleton]at h;rw[h];simp
     ·simp at h
    ·obtain⟨s,_,rfl⟩:=List.mem_map.1 h
     simp
 ·split at h
  ·simp at h
  ·split at h
   ·obtain⟨i,_,rfl⟩:=List.mem_map.1 h
    exact stk_len _ _
   ·simp at h
theorem stepL_len{g:Gram}{c:Cfg}(hlen:∀r∈g.rules,r.right.length≤24)(hr:g.rules.length≤256):(stepL g (callsL g) c).length≤6145:=by
 have hc:∀v,(callsN g g.rules.length v).length≤256*24:=fun v=>Nat.le_trans (callsN_len hlen v _ (Nat.le_refl _)) (Nat.mul_le_mul_right _ hr)
 unfold stepL
 split
 ·simp
 split
 ·simp
 rename_i r _
 split
 ·unfold backL
  split
  ·simp
  ·split
   ·simp
   ·rw[List.length_append,List.length_map]
    rename_i r' _
    have h2:((callsL g).getD r'.left.toNat []).length≤256*24:=by
     unfold callsL
     rw[List.getD_eq_getElem?_getD,List.getElem?_map]
     cases h:(List.range g.vars.length)[r'.left.toNat]? with
     | none=>simp
     | some v=>simpa using hc v
    generalize (callsL g).getD r'.left.toNat []=z at *
    split <;> simp <;> omega
 ·split
  ·simp
  ·split
   ·rw[List.length_map]
    unfold ruleIx
    refine Nat.le_trans (List.length_filter_le _ _) ?_
    rw[List.length_range];omega
   ·simp
theorem calls_in{g:Gram}:∀x∈callsL g,∀s∈x,VS g s:=by
 intro x hx s hs
 unfold callsL at hx
 obtain⟨v,_,rfl⟩:=List.mem_map.1 hx
 exact calls_vs s hs
theorem RchC.gc{g:Gram}{l:List Cfg}{c:Cfg}(h:RchC g (callsL g) l c)(hl:∀c∈l,GC g c):GC g c:=by
 induction h with
 | base h=>exact hl _ h
 | step _ k ih=>exact step_gc calls_in ih _ k
theorem addsL_snoc(A M:List Cfg)(c:Cfg):addsL A (M++[c])=addL (addsL A M) c:=by
 unfold addsL
 rw[List.foldl_append];rfl
theorem cc_3{L:List CA}{i:Nat}(h:i<L.length):(L.flatMap ccell)[i*4+3]? = some (.slice L[i].2 L[i].1.stack.length L[i].1.stack.length):=by
 have h1:=cc_at h
 have h2:(((L.flatMap ccell).drop (i*4)).take 4)[3]? = (L.flatMap ccell)[i*4+3]?:=by
  rw[List.getElem?_take,List.getElem?_drop];simp
 rw[←h2,h1];rfl
theorem WK.cutBlk{P:Program}{id:Nat}{c:Code}{K:List Fk}{s:St}{Q:AExit→St→Prop}(R:St→Prop)(h1:WK P c [.block id] s fun e s1=>e=.normal∧R s1)(h2:∀s1,R s1→WK P .skip K s1 Q):WK P c (.block id::K) s Q :=
 ⟨(WK.cut (c:=.block id c) R (WK.block h1) h2).run⟩
theorem nodup_at{A:List CA}(h:(A.map (·.1)).Nodup){i:Nat}(hi:i<A.length):A[i].1∉(A.take i).map (·.1):=by
 have e:A.map (·.1)=(A.take i).map (·.1)++(A.drop i).map (·.1):=by rw[←List.map_append,List.take_append_drop]
 rw[e,List.nodup_append]at h
 intro hm
 refine h.2.2 _ hm _ (List.mem_map.2 ⟨A[i],?_,rfl⟩) rfl
 rw[List.drop_eq_getElem_cons hi]
 exact List.mem_cons_self ..
theorem flat_take(O:List CA)(a:Nat)(h:a≤O.length):(O.flatMap ccell).take (a*4)=(O.take a).flatMap ccell∧(O.flatMap ccell).drop (a*4)=(O.drop a).flatMap ccell:=by
 have e:O.flatMap ccell=(O.take a).flatMap ccell++(O.drop a).flatMap ccell:=by rw[←List.flatMap_append,List.take_append_drop]
 have hl:((O.take a).flatMap ccell).length=a*4:=by rw[fm_len ccell_len,List.length_take];omega
 rw[e]
 exact⟨by rw[List.take_append_of_le_length (by omega),List.take_of_length_le (by omega)],by rw[List.drop_append,List.drop_of_length_le (by omega),hl,Nat.sub_self];rfl⟩
def C14(g:Gram)(deep most:Nat)(l:List Cfg)(v:Value)(H:Heap):Prop :=
 (v=.tuple #[.slice none 0 0,.bool false]∧Short g (callsL g) deep most l) ∨
 ∃(y:Nat) (S:List CA) (A:List Cfg),v=.tuple #[lv y S,.bool true]∧H y=.cells (S.flatMap ccell) 66 true∧(∀z∈S,XD H z)∧Srt S∧Full g (callsL g) deep most l A∧(∀c,c∈S.map (·.1)↔c∈A∧idle g c=false)
set_option maxHeartbeats 32000000 in
theorem close14_gives {n deep most : Nat} {H : Heap} {p : Option Addr} {L : List CA} {v : Value} {g : Gram} (hw : WF n H) (hg : RG H v g) (ok : RightOK g) (hL : RN 4 ccell H p L) (hx : ∀ x ∈ L, XD H x) (hv : ∀ x ∈ L, GC g x.1) (hm : most ≤ 1000) (hdm : deep ≤ 1000) (hl : L.length ≤ 10000) (hxs : ∀ x ∈ L, x.1.stack.length ≤ 10000) :
    Gives Tryz.prog 20 [v, .slice p L.length L.length, .int .i64 (deep : Nat), .int .i64 (most : Nat)] n H fun v n' H' => C14 g deep most (L.map (·.1)) v H' := by
  obtain ⟨pt, pv, pr, rfl, ht, hvs, hr⟩ := hg
  have hi := ok.inG
  have hru := ok.rules
  have hgl : g.terms.length ≤ 64 ∧ g.vars.length ≤ 64 := ⟨ok.terms, ok.vars⟩
  have hlen : ∀ r ∈ g.rules, r.right.length ≤ 24 := fun r hr => by
    obtain ⟨i, hi, rfl⟩ := List.getElem_of_mem hr
    exact (ok.rule i hi).len
  refine Gives.of orders ok20 (Nat.le_of_ble_eq_true rfl) ?_
  have v6 : ∀ s, ((ccell s).drop 0).take 4 = ccell s := fun _ => rfl
  have g1 : (gcells pt pv pr g).all one = true := rfl
  have g2 : ((gcells pt pv pr g).drop 0).take 3 = gcells pt pv pr g := rfl
  have g3 : (gcells pt pv pr g).length = 3 := rfl
  repeat refine qqn rfl ?_
  (refine qqr ?_; simp only [SS, qx3, simprocAttr, abox, box_cells, box_one, ff_20])
  have k1 := Kp.new n H (.cells (gcells pt pv pr g) 25 true)
  have hG := hset_at H n (.cells (gcells pt pv pr g) 25 true)
  generalize hset H n (.cells (gcells pt pv pr g) 25 true) = H1 at *
  have hw1 := k1.wf hw
  repeat refine qqn rfl ?_
  (refine qqr ?_; simp only [SS, qx3, simprocAttr, ff_20])
  have k2 := Kp.new (n + 1) H1 (.cells [] 66 true)
  have hO := hset_at H1 (n + 1) (.cells [] 66 true)
  generalize hset H1 (n + 1) (.cells [] 66 true) = H2 at *
  repeat (first | refine qqm rfl ?_ | ((first | refine qqr ?_ | refine qqt ?_); simp only [SS, qx3, simprocAttr, ff_20]))
  have hgat : ∀ {m : Nat} {J : Heap}, Kp (n + 1) H1 m J → RG J (.agg (gcells pt pv pr g).toArray) g := fun k => ⟨pt, pv, pr, rfl, ht.mono hw (k1.trans k), hvs.mono hw (k1.trans k), hr.mono hw (k1.trans k)⟩
  refine WK.loop (fun kk s => ∃ (k y : Nat) (A : List CA), Kp (n + 1) H1 s.n s.H ∧ LS s.H (n + 1) s.n y A ∧ s.f 4 = .pointer (some ⟨n, 0, none⟩) ∧ s.f 1 = .slice p L.length L.length ∧ s.f 2 = .int .i64 (deep : Nat) ∧ s.f 3 = .int .i64 (most : Nat) ∧ s.f 10 = lv y A ∧ s.f 11 = .int .i64 (k : Nat) ∧ k ≤ L.length ∧ A.length ≤ k ∧ (∀ z ∈ A, z ∈ L) ∧ A.map (·.1) = addsL [] ((L.take k).map (·.1)) ∧ kk = L.length - k) L.length ?_ ?_
  · exact ⟨0, n + 1, [], k2, ⟨Nat.le_refl _, Nat.lt_succ_self _, hO, fun z hz => by cases hz⟩, rfl, rfl, rfl, rfl, rfl, rfl, Nat.zero_le _, Nat.zero_le _, fun z hz => (by cases hz), rfl, rfl⟩
  rintro kk ⟨f, n3, H3⟩ ⟨k, y, A, k3, hA, f4, f1, f2, f3, f10, f11, hkl, hAl, hAL, hAm, rfl⟩ ih
  simp only at k3 hA f4 f1 f2 f3 f10 f11 ih
  have hw3 := k3.wf hw1
  have hle3 := k3.le
  have k03 := k1.trans k3
  have hL3 := hL.mono hw k03
  by_cases hlt : k < L.length
  · have hiw : IntKind.i64.wrap ((k : Int) + 1) = ((k + 1 : Nat) : Int) := by rw [wrap_in (by omega) (by omega)]; rfl
    obtain ⟨u, k0, cs, ty, own, q1, q2, q3, q4⟩ := hL3.at ccell_len hlt
    subst q1
    have hmem := List.getElem_mem hlt
    repeat (first | refine qqm rfl ?_ | ((first | refine qqr ?_ | refine qqt ?_); simp only [SS, qx3, simprocAttr, f1, f10, f11, hlt, q2, q3, q4, ff_20]))
    refine AtCall.byX (add14_gives hw3 hA.c (fun z hz => (hA.x z hz).1) ((hx _ hmem).kp hw k03).1 (by omega) (fun z hz => by have := hxs z (hAL z hz); omega) (by have := hxs _ hmem; omega)) ?_
    rintro _ n4 H4 k4 ⟨y', A', rfl, hy', hAm', hA', hyy⟩
    have hx4 : ∀ z ∈ A', z ∈ L ∧ XD H4 z := fun z hz => by
      rcases hA' z hz with h | rfl
      · exact ⟨hAL z h, (hA.x z h).kx hw3 hA.c k4⟩
      · exact ⟨hmem, ((hx _ hmem).kp hw k03).kx hw3 hA.c k4⟩
    have hle4 := k4.le
    have hAm2 : A'.map (·.1) = addsL [] ((L.take (k + 1)).map (·.1)) := by
      rw [hAm', hAm, List.take_add_one, List.getElem?_eq_getElem hlt, List.map_append]
      exact (addsL_snoc _ _ _).symm
    have hAl2 : A'.length ≤ k + 1 := by
      have h1 : A'.length = (A'.map (·.1)).length := (List.length_map _).symm
      rw [h1, hAm']
      unfold addL
      split <;> simp <;> omega
    simp only [SS, qx3, simprocAttr, ff_20]
    repeat (first | refine qqm rfl ?_ | ((first | refine qqr ?_ | refine qqt ?_); simp only [SS, qx3, simprocAttr, f11, hiw, ff_20]))
    refine ih (L.length - (k + 1)) (by omega) _ ?_
    refine ⟨k + 1, y', A', ⟨by show n + 1 ≤ n4; omega, fun z hz => (k4.keep z (by omega) (by have := hA.lo; omega)).trans (k3.keep z hz), fun h => k4.wf (k3.wf h)⟩, ⟨by have := hA.lo; omega, ?_, hy', fun z hz => (hx4 z hz).2⟩, f4, f1, f2, f3, rfl, rfl, hlt, hAl2, fun z hz => (hx4 z hz).1, hAm2, rfl⟩
    exact live_lt (k4.wf hw3) (live_of hy')
  · obtain rfl : k = L.length := by omega
    rw [List.take_length] at hAm
    repeat (first | refine qqm rfl ?_ | ((first | refine qqr ?_ | refine qqt ?_); simp only [SS, qx3, simprocAttr, f1, f11, hlt, ff_20]))
    have hd0 : DI g (callsL g) deep most (L.map (·.1)) (A.map (·.1)) 0 := by rw [hAm]; exact DI.first
    have hst0 : ∀ z ∈ A, z.1.stack.length ≤ 20000 := fun z hz => by have := hxs z (hAL z hz); omega
    refine WK.loop (fun kk s => ∃ (at_ y : Nat) (A : List CA), Kp (n + 1) H1 s.n s.H ∧ LS s.H (n + 1) s.n y A ∧ s.f 4 = .pointer (some ⟨n, 0, none⟩) ∧ s.f 2 = .int .i64 (deep : Nat) ∧ s.f 3 = .int .i64 (most : Nat) ∧ s.f 10 = lv y A ∧ s.f 12 = .int .i64 (at_ : Nat) ∧ DI g (callsL g) deep most (L.map (·.1)) (A.map (·.1)) at_ ∧ (∀ z ∈ A, z.1.stack.length ≤ 20000) ∧ A.length ≤ 20000 ∧ kk = most + 1 - at_) (most + 1) ?_ ?_
    · exact ⟨0, y, A, k3, hA, f4, f2, f3, f10, rfl, hd0, hst0, by omega, rfl⟩
    clear ih hw3 hle3 k03 hL3 hlt k3 hA f4 f1 f2 f3 f10 f11 hAl hAL hAm hkl hd0 hst0 f n3 H3 y A
    rintro kk ⟨f, n3, H3⟩ ⟨at_, y, A, k3, hA, f4, f2, f3, f10, f12, hD, hst, hAl, rfl⟩ ih
    simp only at k3 hA f4 f2 f3 f10 f12 ih
    have hw3 := k3.wf hw1
    have hle3 := k3.le
    have hG3 := (k3.keep n (by omega)).trans hG
    have hAml : (A.map (·.1)).length = A.length := List.length_map _
    by_cases hlt : at_ < A.length
    · have hlt' : at_ < (A.map (·.1)).length := by omega
      have hget : (A.map (·.1))[at_]'hlt' = A[at_].1 := List.getElem_map _
      have hfl : (A.flatMap ccell).length = A.length * 4 := fm_len ccell_len A
      have hyc := hA.c
      have hc3 := cc_3 hlt
      have hmem := List.getElem_mem hlt
      have kk3 := k1.trans k3
      by_cases hbig : most < A.length
      · have hbig' : ((most : Int) < (A.length : Int)) = True := eq_true (by omega)
        repeat (first | refine qqm rfl ?_ | ((first | refine qqr ?_ | refine qqt ?_); simp only [SS, qx3, simprocAttr, f2, f3, f10, f12, hlt, hbig', decide_true, ff_20]))
        first | refine qqf ?_ ?_ | refine qqg ?_ ?_
        · exact kk3.keep
        · simp only [packed, qv, Nat.reduceEqDiff, ↓reduceIte, ff_20]
          exact .inl ⟨rfl, hD.short hlt' (.inl (by omega))⟩
      have hbig' : ((most : Int) < (A.length : Int)) = False := eq_false (by omega)
      have hb4 : at_ * 4 + 4 ≤ A.length * 4 := by omega
      have hc4 := cc_at hlt
      by_cases hdeep : deep < A[at_].1.stack.length
      · have hdeep' : ((deep : Int) < (A[at_].1.stack.length : Int)) = True := eq_true (by omega)
        repeat (first | refine qqm rfl ?_ | ((first | refine qqr ?_ | refine qqt ?_); simp only [SS, qx3, simprocAttr, f2, f3, f10, f12, hlt, hbig', hyc, hfl, hc3, hdeep', decide_true, decide_false, Nat.zero_add, ff_20]))
        first | refine qqf ?_ ?_ | refine qqg ?_ ?_
        · exact kk3.keep
        · simp only [packed, qv, Nat.reduceEqDiff, ↓reduceIte, ff_20]
          exact .inl ⟨rfl, hD.short hlt' (.inr (by rw [hget]; exact hdeep))⟩
      have hdeep' : ((deep : Int) < (A[at_].1.stack.length : Int)) = False := eq_false (by omega)
      have hDn := hD.next hlt' (by omega) (by rw [hget]; omega)
      rw [hget] at hDn
      have hgc : GC g A[at_].1 := (hD.r _ (List.mem_map.2 ⟨_, hmem, rfl⟩)).gc fun c hc => by
        obtain ⟨q, hq, rfl⟩ := List.mem_map.1 hc
        exact hv q hq
      repeat (first | refine qqm rfl ?_ | ((first | refine qqr ?_ | refine qqt ?_); simp only [SS, qx3, simprocAttr, f2, f3, f4, f10, f12, hG3, g2, g3, hlt, hbig', hyc, hfl, hc3, hc4, hb4, hdeep', decide_false, Nat.zero_add, ff_20]))
      refine AtCall.by (after14_gives hw3 (hgat k3) ok hgc (hA.x _ hmem) (by omega)) ?_
      rintro _ n4 H4 k4 ⟨ym, M, rfl, hym, hyM, hMm, hMx⟩
      have hw4 := k4.wf hw3
      have hle4 := k4.le
      have hA4 := hA.kp hw3 k4
      have hM4 : LS H4 (n + 1) n4 ym M := ⟨by omega, live_lt hw4 (live_of hyM), hyM, hMx⟩
      have hMl : M.length ≤ 6145 := by
        have h1 : M.length = (M.map (·.1)).length := (List.length_map _).symm
        rw [h1, hMm]
        exact stepL_len hlen hru
      have hMs : ∀ z ∈ M, z.1.stack.length ≤ 20000 := fun z hz => by
        have := step_len (by rw [← hMm]; exact List.mem_map.2 ⟨z, hz, rfl⟩ : z.1 ∈ stepL g (callsL g) A[at_].1)
        omega
      have hyne : y ≠ ym := by have := hA.hi; omega
      simp only [SS, qx3, simprocAttr, ff_20]
      repeat (first | refine qqm rfl ?_ | ((first | refine qqr ?_ | refine qqt ?_); simp only [SS, qx3, simprocAttr, ff_20]))
      refine WK.loop (fun kk s => ∃ (j y : Nat) (B : List CA), Kp (n + 1) H1 s.n s.H ∧ LS s.H (n + 1) s.n y B ∧ LS s.H (n + 1) s.n ym M ∧ y ≠ ym ∧ s.f 4 = .pointer (some ⟨n, 0, none⟩) ∧ s.f 2 = .int .i64 (deep : Nat) ∧ s.f 3 = .int .i64 (most : Nat) ∧ s.f 10 = lv y B ∧ s.f 12 = .int .i64 (at_ : Nat) ∧ s.f 13 = lv ym M ∧ s.f 14 = .int .i64 (j : Nat) ∧
          j ≤ M.length ∧ B.map (·.1) = addsL (A.map (·.1)) ((M.take j).map (·.1)) ∧ (∀ z ∈ B, z.1.stack.length ≤ 20000) ∧ B.length ≤ A.length + j ∧ kk = M.length - j) M.length ?_ ?_
      · exact ⟨0, y, A, k3.trans k4, hA4, hM4, hyne, f4, f2, f3, f10, f12, rfl, rfl, Nat.zero_le _, rfl, hst, Nat.le_refl _, rfl⟩
      clear f4 f2 f3 f10 f12 hA4 hM4 hyne hyM hMx hym
      rintro kk ⟨f, n5, H5⟩ ⟨j, y, B, k5, hB, hM, hyne, f4, f2, f3, f10, f12, f13, f14, hjl, hBm, hBs, hBl, rfl⟩ ih2
      simp only at k5 hB hM f4 f2 f3 f10 f12 f13 f14 ih2
      have hw5 := k5.wf hw1
      have hle5 := k5.le
      have kk5 := k1.trans k5
      by_cases hjlt : j < M.length
      · have hjw : IntKind.i64.wrap ((j : Int) + 1) = ((j + 1 : Nat) : Int) := by rw [wrap_in (by omega) (by omega)]; rfl
        have hym := hM.c
        have hfm : (M.flatMap ccell).length = M.length * 4 := fm_len ccell_len M
        have hj4 : j * 4 + 4 ≤ M.length * 4 := by omega
        have hjc := cc_at hjlt
        have hjm := List.getElem_mem hjlt
        repeat (first | refine qqm rfl ?_ | ((first | refine qqr ?_ | refine qqt ?_); simp only [SS, qx3, simprocAttr, f10, f13, f14, hjlt, hym, hfm, hj4, hjc, Nat.zero_add, ff_20]))
        refine AtCall.byX (add14_gives hw5 hB.c (fun z hz => (hB.x z hz).1) (hM.x _ hjm).1 (by omega) (fun z hz => by have := hBs z hz; omega) (by have := hMs _ hjm; omega)) ?_
        rintro _ n6 H6 k6 ⟨y', B', rfl, hy', hBm', hB', hyy⟩
        have hle6 := k6.le
        have hM6 := hM.kx hw5 hB.c (Ne.symm hyne) k6
        have hx6 : ∀ z ∈ B', XD H6 z ∧ z.1.stack.length ≤ 20000 := fun z hz => by
          rcases hB' z hz with h | rfl
          · exact ⟨(hB.x z h).kx hw5 hB.c k6, hBs z h⟩
          · exact ⟨(hM.x _ hjm).kx hw5 hB.c k6, hMs _ hjm⟩
        have hBm2 : B'.map (·.1) = addsL (A.map (·.1)) ((M.take (j + 1)).map (·.1)) := by
          rw [hBm', hBm, List.take_add_one, List.getElem?_eq_getElem hjlt, List.map_append]
          exact (addsL_snoc _ _ _).symm
        have hBl2 : B'.length ≤ A.length + (j + 1) := by
          have h1 : B'.length = (B'.map (·.1)).length := (List.length_map _).symm
          rw [h1, hBm']
          unfold addL
          split <;> simp <;> omega
        have hymn := hM.hi
        have hyn := hB.hi
        simp only [SS, qx3, simprocAttr, ff_20]
        repeat (first | refine qqm rfl ?_ | ((first | refine qqr ?_ | refine qqt ?_); simp only [SS, qx3, simprocAttr, f14, hjw, ff_20]))
        refine ih2 (M.length - (j + 1)) (by omega) _ ?_
        refine ⟨j + 1, y', B', ⟨by show n + 1 ≤ n6; omega, fun z hz => (k6.keep z (by omega) (by have := hB.lo; omega)).trans (k5.keep z hz), fun h => k6.wf (k5.wf h)⟩, ⟨by have := hB.lo; omega, live_lt (k6.wf hw5) (live_of hy'), hy', fun z hz => (hx6 z hz).1⟩, hM6, by omega, f4, f2, f3, rfl, f12, f13, rfl, hjlt, hBm2, fun z hz => (hx6 z hz).2, hBl2, rfl⟩
      · obtain rfl : j = M.length := by omega
        rw [List.take_length, hMm] at hBm
        have haw : IntKind.i64.wrap ((at_ : Int) + 1) = ((at_ + 1 : Nat) : Int) := by rw [wrap_in (by omega) (by omega)]; rfl
        repeat (first | refine qqm rfl ?_ | ((first | refine qqr ?_ | refine qqt ?_); simp only [SS, qx3, simprocAttr, f12, f13, f14, hjlt, haw, ff_20]))
        refine ih (most + 1 - (at_ + 1)) (by omega) _ ?_
        exact ⟨at_ + 1, y, B, k5, hB, f4, f2, f3, f10, rfl, by rw [hBm]; exact hDn, hBs, by omega, rfl⟩
    · have hate : at_ = A.length := by have := hD.le; omega
      repeat (first | refine qqm rfl ?_ | ((first | refine qqr ?_ | refine qqt ?_); simp only [SS, qx3, simprocAttr, f10, f12, hlt, ff_20]))
      have hfull : Full g (callsL g) deep most (L.map (·.1)) (A.map (·.1)) := by
        rw [hate, ← hAml] at hD
        exact hD.full
      have hAl1 : A.length ≤ 1000 := by have := hfull.len; omega
      have hgcA : ∀ z ∈ A, GC g z.1 := fun z hz => ((hfull.mem _).1 (List.mem_map.2 ⟨z, hz, rfl⟩)).gc fun c hc => by
        obtain ⟨q, hq, rfl⟩ := List.mem_map.1 hc
        exact hv q hq
      have kn := Kp.new n3 H3 (.cells [] 66 true)
      have hO3 := hset_at H3 n3 (.cells [] 66 true)
      have hA3 := hA.kp hw3 kn
      have hyn3 := hA.hi
      generalize hset H3 n3 (.cells [] 66 true) = H4 at *
      refine WK.loop (fun kk s => ∃ (i yo : Nat) (O : List CA), Kp (n + 1) H1 s.n s.H ∧ LS s.H (n + 1) s.n y A ∧ LS s.H (n + 1) s.n yo O ∧ yo ≠ y ∧ s.f 4 = .pointer (some ⟨n, 0, none⟩) ∧ s.f 10 = lv y A ∧ s.f 15 = lv yo O ∧ s.f 16 = .int .i64 (i : Nat) ∧ i ≤ A.length ∧ O.length ≤ i ∧ Srt O ∧ (∀ z ∈ O, z ∈ A) ∧ (∀ c, c ∈ O.map (·.1) ↔ c ∈ (A.take i).map (·.1) ∧ idle g c = false) ∧ kk = A.length - i) A.length ?_ ?_
      · exact ⟨0, n3, [], k3.trans kn, hA3, ⟨by omega, Nat.lt_succ_self _, hO3, fun z hz => by cases hz⟩, by omega, f4, f10, rfl, rfl, Nat.zero_le _, Nat.zero_le _, List.Pairwise.nil, fun z hz => (by cases hz), fun c => by simp, rfl⟩
      clear ih k3 hA f4 f2 f3 f10 f12 hw3 hle3 hG3 kn hO3 hA3 hyn3
      rintro kk ⟨f, n5, H5⟩ ⟨i, yo, O, k5, hA, hO, hyne, f4, f10, f15, f16, hil, hOl, hOs, hOA, hOm, rfl⟩ ih
      simp only at k5 hA hO f4 f10 f15 f16 ih
      have hw5 := k5.wf hw1
      have hle5 := k5.le
      have kk5 := k1.trans k5
      have hG5 := (k5.keep n (by omega)).trans hG
      by_cases hlt2 : i < A.length
      · have hyc := hA.c
        have hfl : (A.flatMap ccell).length = A.length * 4 := fm_len ccell_len A
        have hb4 : i * 4 + 4 ≤ A.length * 4 := by omega
        have hc4 := cc_at hlt2
        have hmem := List.getElem_mem hlt2
        have hiw : IntKind.i64.wrap ((i : Int) + 1) = ((i + 1 : Nat) : Int) := by rw [wrap_in (by omega) (by omega)]; rfl
        have htk1 : (A.take (i + 1)).map (·.1) = (A.take i).map (·.1) ++ [A[i].1] := by
          rw [List.take_add_one, List.getElem?_eq_getElem hlt2, List.map_append]; rfl
        repeat (first | refine qqm rfl ?_ | ((first | refine qqr ?_ | refine qqt ?_); simp only [SS, qx3, simprocAttr, f4, f10, f16, hlt2, hG5, g2, g3, hyc, hfl, hb4, hc4, Nat.zero_add, ff_20]))
        refine AtCall.by (next14_gives hw5 (hgat k5) hi hgl hlen (hgcA _ hmem).1) ?_
        rintro _ n6 H6 k6 rfl
        by_cases hidle : nextL g A[i].1 = -2
        · have hid : idle g A[i].1 = true := by unfold idle; rw [hidle]; rfl
          simp only [SS, qx3, simprocAttr, hidle, decide_true, ff_20]
          repeat (first | refine qqm rfl ?_ | ((first | refine qqr ?_ | refine qqt ?_); simp only [SS, qx3, simprocAttr, f16, hiw, ff_20]))
          refine ih (A.length - (i + 1)) (by omega) _ ?_
          refine ⟨i + 1, yo, O, k5.trans k6, hA.kp hw5 k6, hO.kp hw5 k6, hyne, f4, f10, f15, rfl, hlt2, by omega, hOs, hOA, fun c => ?_, rfl⟩
          rw [hOm, htk1, List.mem_append, List.mem_singleton]
          constructor
          · rintro ⟨h1, h2⟩; exact ⟨.inl h1, h2⟩
          · rintro ⟨h1 | h1, h2⟩
            · exact ⟨h1, h2⟩
            · rw [h1, hid] at h2; cases h2
        · have hid : idle g A[i].1 = false := by unfold idle; exact decide_eq_false hidle
          simp only [SS, qx3, simprocAttr, hidle, decide_false, ff_20]
          repeat (first | refine qqm rfl ?_ | ((first | refine qqr ?_ | refine qqt ?_); simp only [SS, qx3, simprocAttr, f15, ff_20]))
          have hA6 := hA.kp hw5 k6
          have hO6 := hO.kp hw5 k6
          have hw6 := k6.wf hw5
          have hle6 := k6.le
          have hni : A[i].1 ∉ O.map (·.1) := fun h => nodup_at hfull.nd hlt2 ((hOm _).1 h).1
          refine WK.cutBlk (fun s => ∃ a : Nat, Kp n6 H6 s.n s.H ∧ s.f 4 = .pointer (some ⟨n, 0, none⟩) ∧ s.f 10 = lv y A ∧ s.f 15 = lv yo O ∧ s.f 16 = .int .i64 (i : Nat) ∧ s.f 17 = .int .i64 (a : Nat) ∧ a ≤ O.length ∧ (∀ q (h : q < O.length), q < a → cmpC O[q].1 A[i].1 < 0) ∧ (∀ q (h : q < O.length), a ≤ q → 0 ≤ cmpC O[q].1 A[i].1)) ?_ ?_
          · refine WK.loop (fun kk s => ∃ a : Nat, Kp n6 H6 s.n s.H ∧ s.f 4 = .pointer (some ⟨n, 0, none⟩) ∧ s.f 10 = lv y A ∧ s.f 15 = lv yo O ∧ s.f 16 = .int .i64 (i : Nat) ∧ s.f 17 = .int .i64 (a : Nat) ∧ a ≤ O.length ∧ (∀ q (h : q < O.length), a ≤ q → 0 ≤ cmpC O[q].1 A[i].1) ∧ kk = a) O.length ?_ ?_
            · exact ⟨O.length, Kp.refl _ _, f4, f10, f15, f16, rfl, Nat.le_refl _, fun q h h' => by omega, rfl⟩
            clear f4 f10 f15 f16 ih
            rintro kk ⟨f, n7, H7⟩ ⟨a, k7, f4, f10, f15, f16, f17, hal, hhi, hkk⟩ ih2
            obtain rfl := hkk.symm
            simp only at k7 f4 f10 f15 f16 f17 ih2
            have hw7 := k7.wf hw6
            have hA7 := hA6.kp hw6 k7
            have hO7 := hO6.kp hw6 k7
            have hyc7 := hA7.c
            have hyo7 := hO7.c
            by_cases ha0 : a = 0
            · subst ha0
              have hz : ((0 : Int) < ((0 : Nat) : Int)) = False := eq_false (by omega)
              repeat (first | refine qqm rfl ?_ | ((first | refine qqr ?_ | refine qqt ?_); simp only [SS, qx3, simprocAttr, f17, hz, decide_false, ff_20]))
              exact WK.skipNil ⟨rfl, 0, k7, f4, f10, f15, f16, f17, Nat.zero_le _, fun q h h' => by omega, hhi⟩
            · obtain ⟨a, rfl⟩ : ∃ b, a = b + 1 := ⟨a - 1, by omega⟩
              have hal' : a < O.length := by omega
              have hz : ((0 : Int) < ((a + 1 : Nat) : Int)) = True := eq_true (by omega)
              have hm1 : IntKind.i64.wrap (((a + 1 : Nat) : Int) - 1) = (a : Int) := by rw [wrap_in (by omega) (by omega)]; omega
              have hfo : (O.flatMap ccell).length = O.length * 4 := fm_len ccell_len O
              have hao4 : a * 4 + 4 ≤ O.length * 4 := by omega
              have hac := cc_at hal'
              repeat (first | refine qqm rfl ?_ | ((first | refine qqr ?_ | refine qqt ?_); simp only [SS, qx3, simprocAttr, f10, f15, f16, f17, hz, hm1, hlt2, hyc7, hyo7, hfl, hfo, hb4, hao4, hc4, hac, hal', decide_true, Nat.zero_add, ff_20]))
              refine AtCall.by (less14_gives hw7 (hA7.x _ hmem).1 (hO7.x _ (List.getElem_mem hal')).1 (by have := hfull.dp _ (List.mem_map.2 ⟨_, hmem, rfl⟩); omega) (by have := hfull.dp _ (List.mem_map.2 ⟨_, hOA _ (List.getElem_mem hal'), rfl⟩); omega)) ?_
              rintro _ n8 H8 k8 rfl
              have hneg := cmpC_neg A[i].1 O[a].1
              by_cases hls : cmpC A[i].1 O[a].1 < 0
              · simp only [SS, qx3, simprocAttr, hls, decide_true, ff_20]
                repeat (first | refine qqm rfl ?_ | ((first | refine qqr ?_ | refine qqt ?_); simp only [SS, qx3, simprocAttr, f17, hm1, ff_20]))
                refine ih2 a (by omega) _ ?_
                refine ⟨a, k7.trans k8, f4, f10, f15, f16, rfl, by omega, fun q h h' => ?_, rfl⟩
                by_cases hq : q = a
                · subst hq; omega
                · exact hhi q h (by omega)
              · simp only [SS, qx3, simprocAttr, hls, decide_false, ff_20]
                repeat (first | refine qqm rfl ?_ | ((first | refine qqr ?_ | refine qqt ?_); simp only [SS, qx3, simprocAttr, ff_20]))
                have hne0 : cmpC A[i].1 O[a].1 ≠ 0 := fun e => hni (List.mem_map.2 ⟨_, List.getElem_mem hal', (cmpC_zero.1 e).symm⟩)
                refine WK.skipNil ⟨rfl, a + 1, k7.trans k8, f4, f10, f15, f16, f17, hal, fun q h h' => ?_, hhi⟩
                by_cases hq : q = a
                · subst hq; omega
                · exact cmpC_lt (hOs.lt hal' (by omega : q < a)) (by omega)
          clear f4 f10 f15 f16
          rintro ⟨f, n7, H7⟩ ⟨a, k7, f4, f10, f15, f16, f17, hal, hlo, hhi⟩
          simp only at k7 f4 f10 f15 f16 f17
          have hw7 := k7.wf hw6
          have hle7 := k7.le
          have hA7 := hA6.kp hw6 k7
          have hO7 := hO6.kp hw6 k7
          have hyon := hO7.hi
          have hyAn := hA7.hi
          have hyo7 := hO7.c
          have hyc7 := hA7.c
          obtain ⟨ft1, ft2⟩ := flat_take O a hal
          have hfo : (O.flatMap ccell).length = O.length * 4 := fm_len ccell_len O
          have ft3 : ((O.drop a).flatMap ccell).take ((O.length - a) * 4) = (O.drop a).flatMap ccell := List.take_of_length_le (by rw [fm_len ccell_len, List.length_drop]; exact Nat.le_refl _)
          have q1 : ∀ o, hset H7 n7 o yo = _ := fun o => (hset_ne _ _ _ (by omega)).trans hyo7
          have hb5 : a * 4 + (O.length - a) * 4 ≤ O.length * 4 := by omega
          have bl5 : O.length - a ≤ bigN := by unfold bigN; omega
          have hct5 : [yo].contains n7 = false := by simp; omega
          repeat refine qqn rfl ?_
          (refine qqr ?_; simp only [SS, qx3, simprocAttr, f15, f17, hyo7, q1, hal, hfo, hb5, bl5, hct5, ft2, ft3, isz_66, hset_at, Nat.le_refl, implies_true, Nat.zero_mul, Nat.add_zero, Nat.zero_add, Nat.sub_zero, Nat.zero_le, ff_20])
          have k9 : Kp n7 H7 (n7 + 1 + 1) (hset (hset H7 n7 .dead) (n7 + 1) (.cells (List.take 0 (List.drop 0 []) ++ (O.drop a).flatMap ccell) 66 true)) := (Kp.new n7 H7 .dead).trans (Kp.new (n7 + 1) _ _)
          have hr9 : (hset (hset H7 n7 .dead) (n7 + 1) (.cells (List.take 0 (List.drop 0 []) ++ (O.drop a).flatMap ccell) 66 true)) (n7 + 1) = .cells ((O.drop a).flatMap ccell) 66 true := hset_at _ _ _
          generalize (hset (hset H7 n7 .dead) (n7 + 1) (.cells (List.take 0 (List.drop 0 []) ++ (O.drop a).flatMap ccell) 66 true)) = H9 at *
          have hyo9 := (k9.keep yo (by omega)).trans hyo7
          have hyc9 := (k9.keep y (by omega)).trans hyc7
          have hfd : ((O.drop a).flatMap ccell).length = (O.length - a) * 4 := by rw [fm_len ccell_len, List.length_drop]
          have hft : ((O.take a).flatMap ccell).length = a * 4 := by rw [fm_len ccell_len, List.length_take, Nat.min_eq_left hal]
          have m1 : ∀ o, hset H9 (n7 + 1 + 1) o yo = _ := fun o => (hset_ne _ _ _ (by omega)).trans hyo9
          have m2 : ∀ o o' o'', hset (hset (hset H9 (n7 + 1 + 1) o) yo o') (n7 + 1 + 1 + 1) o'' (n7 + 1) = _ := fun o o' o'' => (hset_ne _ _ _ (by omega)).trans ((hset_ne _ _ _ (by omega)).trans ((hset_ne _ _ _ (by omega)).trans hr9))
          have c1 : [n7 + 1 + 1].contains yo = false := by simp; omega
          have c2 : [n7 + 1].contains (n7 + 1 + 1 + 1) = false := by simp; omega
          have b1 : a + 1 ≤ bigN := by unfold bigN; omega
          have b2 : a + 1 + (O.length - a) ≤ bigN := by unfold bigN; omega
          have b3 : a * 4 ≤ O.length * 4 := by omega
          have v5 : ∀ s, (ccell s).length = 4 := fun _ => rfl
          have v2 : ∀ s, (ccell s).all one = true := fun _ => rfl
          have v7 : ∀ s, (ccell s).take 4 = ccell s := fun _ => rfl
          have hs4 : ∀ (a b c d : Value) (x : CA), AM.splice [a, b, c, d] 0 (ccell x) = ccell x := fun _ _ _ _ _ => rfl
          have e1 : ((O.take a).flatMap ccell ++ ccell A[i]).length = (a + 1) * 4 := by rw [List.length_append, hft, v5]; omega
          have e2 : ((O.take a).flatMap ccell ++ ccell A[i]).take ((a + 1) * 4) = (O.take a).flatMap ccell ++ ccell A[i] := List.take_of_length_le (by omega)
          have e3 : ((O.drop a).flatMap ccell).take ((O.length - a) * 4) = (O.drop a).flatMap ccell := List.take_of_length_le (by omega)
          repeat refine qqn rfl ?_
          (refine qqr ?_; simp only [SS, qx3, simprocAttr, f10, f15, f16, f17, hlt2, hyo9, hyc9, hfl, hb4, hc4, hr9, m1, m2, c1, c2, b1, b2, b3, v5, v2, v7, hs4, e1, e2, e3, hal, hfo, hfd, hft, ft1, isz_66, hset_at, Nat.le_refl, implies_true, List.drop_zero, Nat.zero_mul, Nat.add_zero, Nat.zero_add, Nat.sub_zero, Nat.zero_le, ff_20])
          have hO' : (O.take a ++ [A[i]] ++ O.drop a).length = a + 1 + (O.length - a) := by simp; omega
          have hfl' : (O.take a ++ [A[i]] ++ O.drop a).flatMap ccell = (O.take a).flatMap ccell ++ ccell A[i] ++ (O.drop a).flatMap ccell := by rw [List.flatMap_append, List.flatMap_append, List.flatMap_singleton]
          have hOmem : ∀ z, z ∈ O.take a ++ [A[i]] ++ O.drop a ↔ z ∈ O ∨ z = A[i] := fun z => by
            rw [List.mem_append, List.mem_append, List.mem_singleton]
            conv => rhs; rw [← List.take_append_drop a O, List.mem_append]
            constructor
            · rintro ((h | h) | h)
              · exact .inl (.inl h)
              · exact .inr h
              · exact .inl (.inr h)
            · rintro ((h | h) | h)
              · exact .inl (.inl h)
              · exact .inr h
              · exact .inl (.inr h)
          have k10 : ∀ X C, Kx (fun z => z = yo) n7 H7 (n7 + 1 + 1 + 1 + 1 + 1) (hset (hset (hset (hset H9 (n7 + 1 + 1) X) yo .dead) (n7 + 1 + 1 + 1) .dead) (n7 + 1 + 1 + 1 + 1) C) := fun X C => ((((k9.trans (Kp.new (n7 + 1 + 1) H9 X)).kx (X := fun z => z = yo)).set (x := yo) .dead (.inl rfl) (by omega)).trans (Kp.new (n7 + 1 + 1 + 1) _ .dead).kx).trans (Kp.new (n7 + 1 + 1 + 1 + 1) _ C).kx
          repeat (first | refine qqm rfl ?_ | ((first | refine qqr ?_ | refine qqt ?_); simp only [SS, qx3, simprocAttr, f16, hiw, ff_20]))
          refine ih (A.length - (i + 1)) (by omega) _ ?_
          have k10' := k10 (.cells (ccell A[i]) 66 true) (.cells ((O.take a).flatMap ccell ++ ccell A[i] ++ (O.drop a).flatMap ccell) 66 true)
          have hlo6 := hO.lo
          refine ⟨i + 1, n7 + 1 + 1 + 1 + 1, O.take a ++ [A[i]] ++ O.drop a, ⟨by show n + 1 ≤ n7 + 1 + 1 + 1 + 1 + 1; omega, fun z hz => (k10'.keep z (by omega) (by omega)).trans ((k7.keep z (by omega)).trans ((k6.keep z (by omega)).trans (k5.keep z hz))), fun h => k10'.wf (k7.wf (k6.wf (k5.wf h)))⟩, hA7.kx hw7 hyo7 (Ne.symm hyne) k10', ⟨by omega, Nat.lt_succ_self _, ?_, fun z hz => ?_⟩, by omega, f4, f10, ?_, rfl, hlt2, by rw [hO']; omega, srt_ins hOs hal hni hlo hhi, fun z hz => ?_, fun c => ?_, rfl⟩
          · rw [hfl']; exact hset_at _ _ _
          · rcases (hOmem z).1 hz with h | rfl
            · exact (hO7.x z h).kx hw7 hyo7 k10'
            · exact (hA7.x _ hmem).kx hw7 hyo7 k10'
          · show Value.slice _ _ _ = lv _ _
            unfold lv
            rw [hO']
          · rcases (hOmem z).1 hz with h | rfl
            · exact hOA z h
            · exact hmem
          · rw [htk1, List.mem_append, List.mem_singleton, List.mem_map]
            constructor
            · rintro ⟨z, hz, rfl⟩
              rcases (hOmem z).1 hz with h | rfl
              · obtain ⟨h1, h2⟩ := (hOm z.1).1 (List.mem_map.2 ⟨z, h, rfl⟩)
                exact ⟨.inl h1, h2⟩
              · exact ⟨.inr rfl, hid⟩
            · rintro ⟨h1 | h1, h2⟩
              · obtain ⟨z, hz, e⟩ := List.mem_map.1 ((hOm c).2 ⟨h1, h2⟩)
                exact ⟨z, (hOmem z).2 (.inl hz), e⟩
              · exact ⟨A[i], (hOmem _).2 (.inr rfl), h1.symm⟩
      · obtain rfl : i = A.length := by omega
        rw [List.take_length] at hOm
        repeat (first | refine qqm rfl ?_ | ((first | refine qqr ?_ | refine qqt ?_); simp only [SS, qx3, simprocAttr, f10, f15, f16, hlt2, ff_20]))
        first | refine qqf ?_ ?_ | refine qqg ?_ ?_
        · exact kk5.keep
        · simp only [packed, qv, Nat.reduceEqDiff, ↓reduceIte, ff_20]
          exact .inr ⟨yo, O, _, rfl, hO.c, hO.x, hOs, hfull, hOm⟩
end Go.Proofs.YtigijncdfkbaoaaGreatDoor
