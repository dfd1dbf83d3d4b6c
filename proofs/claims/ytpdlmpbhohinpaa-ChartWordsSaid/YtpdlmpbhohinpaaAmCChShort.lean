/- A part of a proof. Its conditions: none. -/
import Derived.Test.YtpdlmpbhohinpaaAmCChSp
set_option linter.all false
namespace Go.Proofs.Ytpdlmpbhohinpaa
open Go.AM Go.RowKit
set_option maxRecDepth 100000
theorem getD_at {α : Type} {l : List α} {i : Nat} {d : α} (h : i < l.length) : l.getD i d = l[i] := by
  rw [List.getD_eq_getElem?_getD, List.getElem?_eq_getElem h]; rfl
theorem spsp (a : Nat) (p : It) : Go.AM.splice [Value.int .i64 (a : Nat), .int .i64 (Int.ofNat 0), .int .i64 (Int.ofNat 0), .int .i64 (Int.ofNat 0)] 1 (itC p) = spC (a, p) := rfl
theorem spag (s : Sp) : Value.agg (spC s).toArray = spV s := rfl
set_option maxHeartbeats 32000000 in
theorem needs_gives {S H : Heap} {N o y x n : Nat} {pt pv pr pg pe pc : Option Addr} {g : Gram} {gd em : List Bool} {co : List Nat} {sets : List (List It)} {w : List Int} (st : Stat S N pr pg pe pc g gd em co) (hro : RRO S pr g.rules) (hw : WF n H) (hS : Sub S H)
    (hc : CHR H N o y x pt pv pr pg pe pc g gd em co sets w) (hk : okS g sets) (ha : sets.length ≤ 4000) (hcap : ∀ k ∈ co, k ≤ farN) :
    Gives Try.prog 48 [.pointer (some ⟨o, 0, none⟩)] n H fun v n' H' => v = .map (some n) ∧ n < n' ∧ H' n = MN (needs g (cF co) sets) := by
  refine Gives.of orders ok48 (Nat.le_of_ble_eq_true rfl) ?_
  obtain ⟨c, wv, cs, ho, hyN, hy, hyl, hsr, hwv⟩ := id hc
  have low : ∀ {z cs ty own}, H z = .cells cs ty own → z < n := fun {z cs ty own} e => Classical.byContradiction fun hc => by rw [hw z (by omega)] at e; cases e
  have hon := low ho
  have hyn := low hy
  have kM := Kp.new n H (MN [])
  have bM := hset_at H n (MN [])
  have hmk := make_sp n
  repeat (first | refine qqn rfl ?_)
  repeat (first | refine qqn rfl ?_ | ((first | (refine WK.rgn ?_ ?_; kernel_rfl) | refine AtCall.now ?_); simp (config := {maxSteps:=999999}) only [SS, qx11, forall_const, vun, Int.reduceEq, Int.reduceNeg, Nat.reduceGT, Nat.reduceLT, Nat.reduceLeDiff, Nat.reduceEqDiff, ↓reduceIte, reduceCtorEq, Int.reduceToNat, Int.reduceLE, Int.reduceLT, Nat.reduceAdd, Nat.reduceMul, aop_makemap, hmk, ff_48]) | refine qqj rfl ?_ | refine qqk rfl ?_)
  generalize hset H n (MN []) = HM at *
  refine WK.loop (fun k s => ∃ (M : List (Sp × Nat)) (b : Bool), Kp n H s.n s.H ∧ n < s.n ∧ s.H n = MN M ∧ okM M ∧ s.f 0 = .pointer (some ⟨o, 0, none⟩) ∧ s.f 3 = .map (some n) ∧ s.f 4 = .bool b ∧ (b = true → mu sets M < k ∧ needL g (cF co) sets k M = needs g (cF co) sets) ∧ (b = false → M = needs g (cF co) sets)) (mu sets [] + 1) ?_ ?_
  · exact ⟨[], true, kM, Nat.lt_succ_self _, bM, okM.nil, rfl, rfl, rfl, fun _ => ⟨Nat.lt_succ_self _, rfl⟩, fun h => by cases h⟩
  rintro k0 ⟨f, n1, H1⟩ ⟨M, b, kx, hn1, hM, hokM, f0, f3, f4, hb, hb'⟩ ih
  simp only at f0 f3 f4 kx hn1 hM ih
  cases b with
  | false =>
    repeat (first | refine qqn rfl ?_ | ((first | (refine WK.rgn ?_ ?_; kernel_rfl) | refine AtCall.now ?_); simp (config := {maxSteps:=999999}) only [SS, qx11, forall_const, vun, Int.reduceEq, Int.reduceNeg, Nat.reduceGT, Nat.reduceLT, Nat.reduceLeDiff, Nat.reduceEqDiff, ↓reduceIte, reduceCtorEq, Int.reduceToNat, Int.reduceLE, Int.reduceLT, Nat.reduceAdd, Nat.reduceMul, f0, f3, f4, ff_48]) | refine qqj rfl ?_ | refine qqk rfl ?_)
    (first | refine WK.retNil ⟨Or.inr rfl, _, rfl, ?_, ?_⟩ | refine WK.skipNil ⟨Or.inl rfl, _, rfl, ?_, ?_⟩)
    · exact kx.keep
    · simp only [packed, fset_apply, Nat.reduceEqDiff, ↓reduceIte, List.getD_cons_zero, List.getD_cons_succ, f3, ff_48]
      exact ⟨trivial, hn1, by rw [← hb' rfl]; exact hM⟩
  | true =>
    obtain ⟨hmu, hneed⟩ := hb rfl
    have ho1 := (kx.keep o hon).trans ho
    repeat (first | refine qqn rfl ?_ | ((first | (refine WK.rgn ?_ ?_; kernel_rfl) | refine AtCall.now ?_); simp (config := {maxSteps:=999999}) only [SS, qx11, forall_const, vun, Int.reduceEq, Int.reduceNeg, Nat.reduceGT, Nat.reduceLT, Nat.reduceLeDiff, Nat.reduceEqDiff, ↓reduceIte, reduceCtorEq, Int.reduceToNat, Int.reduceLE, Int.reduceLT, Nat.reduceAdd, Nat.reduceMul, f0, f3, f4, ho1, ch6, aop_nc, tnc, ff_48]) | refine qqj rfl ?_ | refine qqk rfl ?_)
    refine WK.loop (fun k2 s => ∃ (a : Nat) (M2 : List (Sp × Nat)) (b2 : Bool), Kp n H s.n s.H ∧ n < s.n ∧ s.H n = MN M2 ∧ okM M2 ∧ s.f 0 = .pointer (some ⟨o, 0, none⟩) ∧ s.f 3 = .map (some n) ∧ s.f 4 = .bool b2 ∧ s.f 24 = .int .i64 (sets.length : Nat) ∧ s.f 25 = .int .i64 (a : Nat) ∧ a ≤ sets.length ∧ (M2, b2) = roundN g (cF co) sets a (M, false) ∧ k2 = sets.length - a) sets.length ?_ ?_
    · exact ⟨0, M, false, kx, hn1, hM, hokM, f0, f3, rfl, rfl, rfl, Nat.zero_le _, rfl, rfl⟩
    clear f0 f3 f4
    rintro k1 ⟨f, n2, H2⟩ ⟨a, M2, b2, kx2, hn2, hM2, hokM2, f0, f3, f4, f24, f25, hal, hr2, rfl⟩ ih2
    simp only at f0 f3 f4 f24 f25 kx2 hn2 hM2 ih2
    by_cases hlt : a < sets.length
    · have ho2 := (kx2.keep o hon).trans ho
      have hy2 := (kx2.keep y hyn).trans hy
      obtain ⟨pp, hpp, hlr⟩ := hsr _ hlt
      have hlok := hk.2 _ _ (List.getElem?_eq_getElem hlt)
      have hsD : sets.getD a [] = sets[a] := getD_at hlt
      have hsucc := roundN_succ (g := g) (c := cF co) (sets := sets) (n := a) (st := (M, false))
      rw [hsD, ← hr2] at hsucc
      generalize hls : sets[a] = l at *
      have hll := small_okL hlok st.rl st.r8 (by omega)
      repeat (first | refine qqn rfl ?_ | ((first | (refine WK.rgn ?_ ?_; kernel_rfl) | refine AtCall.now ?_); simp (config := {maxSteps:=999999}) only [SS, qx11, forall_const, vun, Int.reduceEq, Int.reduceNeg, Nat.reduceGT, Nat.reduceLT, Nat.reduceLeDiff, Nat.reduceEqDiff, ↓reduceIte, reduceCtorEq, Int.reduceToNat, Int.reduceLE, Int.reduceLT, Nat.reduceAdd, Nat.reduceMul, f0, f3, f4, f24, f25, hlt, ho2, ch6, hy2, hpp, aop_nc, tnc, ff_48]) | refine qqj rfl ?_ | refine qqk rfl ?_)
      refine WK.loop (fun k3 s => ∃ (j : Nat) (M3 : List (Sp × Nat)) (b3 : Bool), Kp n H s.n s.H ∧ n < s.n ∧ s.H n = MN M3 ∧ okM M3 ∧ s.f 0 = .pointer (some ⟨o, 0, none⟩) ∧ s.f 3 = .map (some n) ∧ s.f 4 = .bool b3 ∧ s.f 5 = .int .i64 (a : Nat) ∧ s.f 24 = .int .i64 (sets.length : Nat) ∧ s.f 25 = .int .i64 (a : Nat) ∧ s.f 35 = .slice pp l.length l.length ∧ s.f 36 = .int .i64 (l.length : Nat) ∧ s.f 37 = .int .i64 (j : Nat) ∧ j ≤ l.length ∧ (M3, b3) = rowR g (cF co) sets a (l.take j) (M2, b2) ∧ k3 = l.length - j) l.length ?_ ?_
      · exact ⟨0, M2, b2, kx2, hn2, hM2, hokM2, f0, f3, f4, rfl, f24, f25, rfl, rfl, rfl, Nat.zero_le _, rfl, rfl⟩
      clear f0 f3 f4 f24 f25
      rintro k2 ⟨f, n3, H3⟩ ⟨j, M3, b3, kx3, hn3, hM3, hokM3, f0, f3, f4, f5, f24, f25, f35, f36, f37, hjl, hr3, rfl⟩ ih3
      simp only at f0 f3 f4 f5 f24 f25 f35 f36 f37 kx3 hn3 hM3 ih3
      by_cases hj : j < l.length
      · obtain ⟨zp, op, rfl, hzp, e3, e4⟩ := (hlr.rk (kx3.rk hw)).at hj
        obtain ⟨hq1, hq2, hq3⟩ := hlok.ok _ (List.getElem_mem hj)
        have hrs := rowR_snoc (g := g) (c := cF co) (sets := sets) (a := a) (st := (M2, b2)) hj
        rw [← hr3] at hrs
        have hxm := List.getElem_mem hj
        generalize l[j] = xj at *
        have hw3 := kx3.wf hw
        have hk4 := Kp.new n3 H3 (.cells (itC xj) 74 true)
        have hb4 := hset_at H3 n3 (.cells (itC xj) 74 true)
        have kx4 := kx3.trans hk4
        have hM4 := (hk4.keep n hn3).trans hM3
        have hw4 := hk4.wf hw3
        have ho4 := (kx4.keep o hon).trans ho
        have hy4 := (kx4.keep y hyn).trans hy
        have hS4 := hS.kp hw kx4
        generalize hE : hset H3 n3 (.cells (itC xj) 74 true) = H4 at *
        have hqs : xj.2.2 < sets.length := by omega
        obtain ⟨z, kz, ds, tz, oz, p, rfl, hz, c0, c1, c2, hpp2⟩ := (st.rr.sub hS4).at hq1
        have hlf := lft_at hq1
        repeat (first | refine qqn rfl ?_)
        (refine WK.rgn ?_ ?_; kernel_rfl; simp (config := {maxSteps:=999999}) only [SS, qx11, forall_const, vun, Int.reduceEq, Int.reduceNeg, Nat.reduceGT, Nat.reduceLT, Nat.reduceLeDiff, Nat.reduceEqDiff, ↓reduceIte, reduceCtorEq, Int.reduceToNat, Int.reduceLE, Int.reduceLT, Nat.reduceAdd, Nat.reduceMul, f36, f37, hj, ff_48])
        repeat (first | refine qqn rfl ?_)
        first | refine qqj rfl ?_ | refine qqk rfl ?_
        repeat (first | refine qqn rfl ?_)
        (refine WK.rgn ?_ ?_; kernel_rfl; simp (config := {maxSteps:=999999}) only [SS, qx11, forall_const, vun, Int.reduceEq, Int.reduceNeg, Nat.reduceGT, Nat.reduceLT, Nat.reduceLeDiff, Nat.reduceEqDiff, ↓reduceIte, reduceCtorEq, Int.reduceToNat, Int.reduceLE, Int.reduceLT, Nat.reduceAdd, Nat.reduceMul, f35, f37, hj, hzp, e3, e4, itvc, itone, itsp, itle, ittk, itag, hE, ff_48])
        repeat (first | refine qqn rfl ?_)
        (refine WK.rgn ?_ ?_; kernel_rfl; simp (config := {maxSteps:=999999}) only [SS, qx11, forall_const, vun, Int.reduceEq, Int.reduceNeg, Nat.reduceGT, Nat.reduceLT, Nat.reduceLeDiff, Nat.reduceEqDiff, ↓reduceIte, reduceCtorEq, Int.reduceToNat, Int.reduceLE, Int.reduceLT, Nat.reduceAdd, Nat.reduceMul, hE, ff_48])
        repeat (first | refine qqn rfl ?_)
        (refine WK.rgn ?_ ?_; kernel_rfl; simp (config := {maxSteps:=999999}) only [SS, qx11, forall_const, vun, Int.reduceEq, Int.reduceNeg, Nat.reduceGT, Nat.reduceLT, Nat.reduceLeDiff, Nat.reduceEqDiff, ↓reduceIte, reduceCtorEq, Int.reduceToNat, Int.reduceLE, Int.reduceLT, Nat.reduceAdd, Nat.reduceMul, f0, ho4, ch2, hb4, hE, it0, it1, it2, hq1, hz, c0, aop_nc, tnc, ff_48])
        apply WK.skipSeq
        apply WK.seq
        refine WK.cut (fun s => s.n = n3 + 1 ∧ s.H = H4 ∧ s.f 0 = .pointer (some ⟨o, 0, none⟩) ∧ s.f 3 = .map (some n) ∧ s.f 4 = .bool b3 ∧ s.f 5 = .int .i64 (a : Nat) ∧ s.f 7 = .pointer (some ⟨n3, 0, none⟩) ∧ s.f 8 = .int .i64 (need0 g xj : Nat) ∧ s.f 9 = .int .i64 (lft g xj.1) ∧ s.f 24 = .int .i64 (sets.length : Nat) ∧ s.f 25 = .int .i64 (a : Nat) ∧ s.f 35 = .slice (some ⟨zp, 0, none⟩) l.length l.length ∧ s.f 36 = .int .i64 (l.length : Nat) ∧ s.f 37 = .int .i64 (j : Nat)) ?_ ?_
        · unfold need0
          rw [hlf]
          by_cases hl0 : g.rules[xj.1].left = 0
          · by_cases hf0 : xj.2.2 = 0
            · have hf1 : ((xj.2.2 : Int) = 0) = True := by rw [hf0]; simp
              rw [if_pos ⟨hl0, hf0⟩]
              repeat (first | refine qqn rfl ?_ | ((first | (refine WK.rgn ?_ ?_; kernel_rfl) | refine AtCall.now ?_); simp (config := {maxSteps:=999999}) only [SS, qx11, forall_const, vun, Int.reduceEq, Int.reduceNeg, Nat.reduceGT, Nat.reduceLT, Nat.reduceLeDiff, Nat.reduceEqDiff, ↓reduceIte, reduceCtorEq, Int.reduceToNat, Int.reduceLE, Int.reduceLT, Nat.reduceAdd, Nat.reduceMul, f0, f3, f4, f5, f24, f25, f35, f36, f37, hl0, hf1, hb4, it2, ff_48]) | refine qqj rfl ?_ | refine qqk rfl ?_)
              exact WK.skipNil ⟨rfl, rfl, rfl, f0, f3, f4, f5, rfl, rfl, rfl, f24, f25, f35, f36, f37⟩
            · have hf1 : ((xj.2.2 : Int) = 0) = False := by simp; omega
              rw [if_neg (fun h => hf0 h.2)]
              repeat (first | refine qqn rfl ?_ | ((first | (refine WK.rgn ?_ ?_; kernel_rfl) | refine AtCall.now ?_); simp (config := {maxSteps:=999999}) only [SS, qx11, forall_const, vun, Int.reduceEq, Int.reduceNeg, Nat.reduceGT, Nat.reduceLT, Nat.reduceLeDiff, Nat.reduceEqDiff, ↓reduceIte, reduceCtorEq, Int.reduceToNat, Int.reduceLE, Int.reduceLT, Nat.reduceAdd, Nat.reduceMul, f0, f3, f4, f5, f24, f25, f35, f36, f37, hl0, hf1, hb4, it2, ff_48]) | refine qqj rfl ?_ | refine qqk rfl ?_)
              exact WK.skipNil ⟨rfl, rfl, rfl, f0, f3, f4, f5, rfl, rfl, rfl, f24, f25, f35, f36, f37⟩
          · rw [if_neg (fun h => hl0 h.1)]
            repeat (first | refine qqn rfl ?_ | ((first | (refine WK.rgn ?_ ?_; kernel_rfl) | refine AtCall.now ?_); simp (config := {maxSteps:=999999}) only [SS, qx11, forall_const, vun, Int.reduceEq, Int.reduceNeg, Nat.reduceGT, Nat.reduceLT, Nat.reduceLeDiff, Nat.reduceEqDiff, ↓reduceIte, reduceCtorEq, Int.reduceToNat, Int.reduceLE, Int.reduceLT, Nat.reduceAdd, Nat.reduceMul, f0, f3, f4, f5, f24, f25, f35, f36, f37, hl0, hb4, it2, ff_48]) | refine qqj rfl ?_ | refine qqk rfl ?_)
            exact WK.skipNil ⟨rfl, rfl, rfl, f0, f3, f4, f5, rfl, rfl, rfl, f24, f25, f35, f36, f37⟩
        clear f0 f3 f4 f5 f24 f25 f35 f36 f37
        rintro ⟨f, n4, H5⟩ ⟨rfl, rfl, f0, f3, f4, f5, f7, f8, f9, f24, f25, f35, f36, f37⟩
        simp only at f0 f3 f4 f5 f7 f8 f9 f24 f25 f35 f36 f37 ho4 hy4 hb4 hM4 kx4
        obtain ⟨ppq, hppq, hlrq⟩ := hsr _ hqs
        have hlokq := hk.2 _ _ (List.getElem?_eq_getElem hqs)
        have hllq := small_okL hlokq st.rl st.r8 (by omega)
        have hneed1 : need1 g (cF co) sets M3 xj = needP g (cF co) M3 (lft g xj.1) xj.2.2 (sets[xj.2.2].take sets[xj.2.2].length) (need0 g xj) := by
          unfold need1
          rw [getD_at hqs, List.take_length]
        generalize hlq : sets[xj.2.2] = lq at *
        repeat (first | refine qqn rfl ?_ | ((first | (refine WK.rgn ?_ ?_; kernel_rfl) | refine AtCall.now ?_); simp (config := {maxSteps:=999999}) only [SS, qx11, forall_const, vun, Int.reduceEq, Int.reduceNeg, Nat.reduceGT, Nat.reduceLT, Nat.reduceLeDiff, Nat.reduceEqDiff, ↓reduceIte, reduceCtorEq, Int.reduceToNat, Int.reduceLE, Int.reduceLT, Nat.reduceAdd, Nat.reduceMul, f0, f3, f4, f5, f7, f8, f9, f24, f25, f35, f36, f37, hb4, it2, ho4, ch6, hy4, hppq, hqs, aop_nc, tnc, ff_48]) | refine qqj rfl ?_ | refine qqk rfl ?_)
        have hsmx := okI.small (x := xj) ⟨hq1, hq2, hq3⟩ st.rl st.r8 (by omega)
        have hfar : farN = 1073741824 := rfl
        refine WK.loop (fun k4 s => ∃ q : Nat, Kp n H s.n s.H ∧ s.H n = MN M3 ∧ s.H n3 = .cells (itC xj) 74 true ∧ s.f 0 = .pointer (some ⟨o, 0, none⟩) ∧ s.f 3 = .map (some n) ∧ s.f 4 = .bool b3 ∧ s.f 5 = .int .i64 (a : Nat) ∧ s.f 7 = .pointer (some ⟨n3, 0, none⟩) ∧ s.f 8 = .int .i64 (needP g (cF co) M3 (lft g xj.1) xj.2.2 (lq.take q) (need0 g xj) : Nat) ∧ s.f 9 = .int .i64 (lft g xj.1) ∧ s.f 24 = .int .i64 (sets.length : Nat) ∧ s.f 25 = .int .i64 (a : Nat) ∧ s.f 35 = .slice (some ⟨zp, 0, none⟩) l.length l.length ∧ s.f 36 = .int .i64 (l.length : Nat) ∧ s.f 37 = .int .i64 (j : Nat) ∧ s.f 66 = .slice ppq lq.length lq.length ∧ s.f 67 = .int .i64 (lq.length : Nat) ∧ s.f 68 = .int .i64 (q : Nat) ∧ q ≤ lq.length ∧ k4 = lq.length - q) lq.length ?_ ?_
        · exact ⟨0, kx4, hM4, hb4, f0, f3, f4, f5, f7, f8, f9, f24, f25, f35, f36, f37, rfl, rfl, rfl, Nat.zero_le _, rfl⟩
        clear f0 f3 f4 f5 f7 f8 f9 f24 f25 f35 f36 f37
        rintro k3 ⟨f, n5, H5⟩ ⟨q, kx5, hM5, hb5, f0, f3, f4, f5, f7, f8, f9, f24, f25, f35, f36, f37, f66, f67, f68, hql, rfl⟩ ih4
        simp only at f0 f3 f4 f5 f7 f8 f9 f24 f25 f35 f36 f37 f66 f67 f68 kx5 hM5 hb5 ih4
        have hw5 := kx5.wf hw
        have hn5 : n < n5 := Classical.byContradiction fun hc => by rw [hw5 n (by omega)] at hM5; unfold MN at hM5; cases hM5
        have hn35 : n3 < n5 := Classical.byContradiction fun hc => by rw [hw5 n3 (by omega)] at hb5; cases hb5
        have ho5 := (kx5.keep o hon).trans ho
        have hS5 := hS.kp hw kx5
        have hnl := needP_le (g := g) (c := cF co) (M := M3) (left := lft g xj.1) (frm := xj.2.2) (lq.take q) (need0 g xj) (need0_le g xj)
        by_cases hq : q < lq.length
        · obtain ⟨zq, oq, rfl, hzq, e5, e6⟩ := (hlrq.rk (kx5.rk hw)).at hq
          obtain ⟨hr1, hr2, hr3'⟩ := hlokq.ok _ (List.getElem_mem hq)
          have hsn := needP_snoc (g := g) (c := cF co) (M := M3) (left := lft g xj.1) (frm := xj.2.2) (n := need0 g xj) hq
          generalize needP g (cF co) M3 (lft g xj.1) xj.2.2 (lq.take q) (need0 g xj) = nn at *
          generalize lq[q] = pq at *
          have hk6 := Kp.new n5 H5 (.cells (itC pq) 74 true)
          have hb6 := hset_at H5 n5 (.cells (itC pq) 74 true)
          have hc6 := (hk6.keep n3 hn35).trans hb5
          have hM6 := (hk6.keep n hn5).trans hM5
          have ho6 := (hk6.keep o (by omega)).trans ho5
          have hS6 := hS5.kp hw5 hk6
          have hw6 := hk6.wf hw5
          have kx6 := kx5.trans hk6
          generalize hE6 : hset H5 n5 (.cells (itC pq) 74 true) = H6 at *
          have hwq : IntKind.wrap .i64 ((q : Int) + 1) = ((q + 1 : Nat) : Int) := by rw [wrap_in (by omega) (by omega)]; rfl
          have hsmp := okI.small (x := pq) ⟨hr1, hr2, hr3'⟩ st.rl st.r8 (by omega)
          repeat (first | refine qqn rfl ?_ | ((first | (refine WK.rgn ?_ ?_; kernel_rfl) | refine AtCall.now ?_); simp (config := {maxSteps:=999999}) only [SS, qx11, forall_const, vun, Int.reduceEq, Int.reduceNeg, Nat.reduceGT, Nat.reduceLT, Nat.reduceLeDiff, Nat.reduceEqDiff, ↓reduceIte, reduceCtorEq, Int.reduceToNat, Int.reduceLE, Int.reduceLT, Nat.reduceAdd, Nat.reduceMul, f0, f3, f4, f5, f7, f8, f9, f24, f25, f35, f36, f37, f66, f67, f68, hq, hzq, e5, e6, itvc, itone, itsp, itle, ittk, itag, hb6, hE6, ff_48]) | refine qqj rfl ?_ | refine qqk rfl ?_)
          refine AtCall.by (next_gives st hw6 hS6 ho6 hr1 hr2) ?_
          rintro wq n7 H7 hk7 rfl
          have hb7 := (hk7.keep n5 (by omega)).trans hb6
          have hc7 := (hk7.keep n3 (by omega)).trans hc6
          have hM7 := (hk7.keep n (by omega)).trans hM6
          have kx7 := kx6.trans hk7
          have hw7 := hk7.wf hw6
          have ho7 := (kx7.keep o hon).trans ho
          have hS7 := hS6.kp hw6 hk7
          unfold needS at hsn
          cases hn : nx g pq with
          | none =>
            rw [hn, if_neg (by simp)] at hsn
            simp (config := {maxSteps:=999999}) only [SS, qx11, forall_const, vun, Int.reduceEq, Int.reduceNeg, Nat.reduceGT, Nat.reduceLT, Nat.reduceLeDiff, Nat.reduceEqDiff, ↓reduceIte, reduceCtorEq, Int.reduceToNat, Int.reduceLE, Int.reduceLT, Nat.reduceAdd, Nat.reduceMul, ff_48]
            repeat (first | refine qqn rfl ?_ | ((first | (refine WK.rgn ?_ ?_; kernel_rfl) | refine AtCall.now ?_); simp (config := {maxSteps:=999999}) only [SS, qx11, forall_const, vun, Int.reduceEq, Int.reduceNeg, Nat.reduceGT, Nat.reduceLT, Nat.reduceLeDiff, Nat.reduceEqDiff, ↓reduceIte, reduceCtorEq, Int.reduceToNat, Int.reduceLE, Int.reduceLT, Nat.reduceAdd, Nat.reduceMul, f0, f3, f4, f5, f7, f8, f9, f24, f25, f35, f36, f37, f66, f67, f68, Option.isSome_none, hwq, ff_48]) | refine qqj rfl ?_ | refine qqk rfl ?_)
            refine ih4 (lq.length - (q + 1)) (by omega) _ ?_
            refine ⟨q + 1, kx7, hM7, hc7, f0, f3, f4, f5, f7, ?_, f9, f24, f25, f35, f36, f37, f66, f67, rfl, hq, rfl⟩
            rw [hsn]; exact f8
          | some y0 =>
            rw [hn] at hsn
            by_cases he : y0 = lft g xj.1
            · rw [if_pos (by rw [he])] at hsn
              have hlk := look_sp hM7 (x := (xj.2.2, pq)) ⟨by show xj.2.2 ≤ 1000000; omega, by show pq.1 ≤ 1000000; omega, by show pq.2.1 ≤ 1000000; omega, by show pq.2.2 ≤ 1000000; omega⟩
              cases hg : getM M3 (xj.2.2, pq) with
              | none =>
                rw [hg] at hsn hlk
                simp (config := {maxSteps:=999999}) only [SS, qx11, forall_const, vun, Int.reduceEq, Int.reduceNeg, Nat.reduceGT, Nat.reduceLT, Nat.reduceLeDiff, Nat.reduceEqDiff, ↓reduceIte, reduceCtorEq, Int.reduceToNat, Int.reduceLE, Int.reduceLT, Nat.reduceAdd, Nat.reduceMul, ff_48]
                repeat (first | refine qqn rfl ?_ | ((first | (refine WK.rgn ?_ ?_; kernel_rfl) | refine AtCall.now ?_); simp (config := {maxSteps:=999999}) only [SS, qx11, forall_const, vun, Int.reduceEq, Int.reduceNeg, Nat.reduceGT, Nat.reduceLT, Nat.reduceLeDiff, Nat.reduceEqDiff, ↓reduceIte, reduceCtorEq, Int.reduceToNat, Int.reduceLE, Int.reduceLT, Nat.reduceAdd, Nat.reduceMul, f0, f3, f4, f5, f7, f8, f9, f24, f25, f35, f36, f37, f66, f67, f68, Option.isSome_some, Option.getD_some, Option.isSome_none, he, hb7, hc7, it0, it1, it2, ittk, itle, itag, itvc, itone, aop_look, itC_len, not_true_eq_false, Option.map_some, spsp, spag, hlk, hwq, ff_48]) | refine qqj rfl ?_ | refine qqk rfl ?_)
                refine ih4 (lq.length - (q + 1)) (by omega) _ ?_
                refine ⟨q + 1, kx7, hM7, hc7, f0, f3, f4, f5, f7, ?_, f9, f24, f25, f35, f36, f37, f66, f67, rfl, hq, rfl⟩
                rw [hsn]; exact f8
              | some m =>
                rw [hg] at hsn hlk
                have hmb := hokM3 _ _ hg
                have hrb := restN_le g (cF co) pq (pq.2.1 + 1)
                have hwd : IntKind.wrap .i64 ((pq.2.1 : Int) + 1) = ((pq.2.1 + 1 : Nat) : Int) := by rw [wrap_in (by omega) (by omega)]; rfl
                simp (config := {maxSteps:=999999}) only [SS, qx11, forall_const, vun, Int.reduceEq, Int.reduceNeg, Nat.reduceGT, Nat.reduceLT, Nat.reduceLeDiff, Nat.reduceEqDiff, ↓reduceIte, reduceCtorEq, Int.reduceToNat, Int.reduceLE, Int.reduceLT, Nat.reduceAdd, Nat.reduceMul, ff_48]
                repeat (first | refine qqn rfl ?_ | ((first | (refine WK.rgn ?_ ?_; kernel_rfl) | refine AtCall.now ?_); simp (config := {maxSteps:=999999}) only [SS, qx11, forall_const, vun, Int.reduceEq, Int.reduceNeg, Nat.reduceGT, Nat.reduceLT, Nat.reduceLeDiff, Nat.reduceEqDiff, ↓reduceIte, reduceCtorEq, Int.reduceToNat, Int.reduceLE, Int.reduceLT, Nat.reduceAdd, Nat.reduceMul, f0, f3, f4, f5, f7, f8, f9, f24, f25, f35, f36, f37, f66, f67, f68, Option.isSome_some, Option.getD_some, he, hb7, hc7, it0, it1, it2, ittk, itle, itag, itvc, itone, aop_look, itC_len, not_true_eq_false, Option.map_some, spsp, spag, hlk, hwd, ff_48]) | refine qqj rfl ?_ | refine qqk rfl ?_)
                have hrt : (rgt g pq.1).length ≤ 8 := by rw [rgt_at hr1]; exact st.r8 _ (List.getElem_mem hr1)
                refine AtCall.by (rest_gives (d := pq.2.1 + 1) st hro hw7 hS7 ho7 hr1 (nx_lt hn) hcap) ?_
                rintro wq n8 H8 hk8 rfl
                have hc8 := (hk8.keep n3 (by have := hk7.le; omega)).trans hc7
                have hM8 := (hk8.keep n (by have := hk7.le; omega)).trans hM7
                have kx8 := kx7.trans hk8
                simp only at hsn
                generalize restN g (cF co) pq (pq.2.1 + 1) = r at *
                have hadd : IntKind.wrap .i64 ((m : Int) + (r : Int)) = ((m + r : Nat) : Int) := by rw [wrap_in (by omega) (by omega)]; rfl
                have hmin : (if m + r < nn then ((m + r : Nat) : Int) else (nn : Int)) = ((min nn (m + r) : Nat) : Int) := by split <;> omega
                simp (config := {maxSteps:=999999}) only [SS, qx11, forall_const, vun, Int.reduceEq, Int.reduceNeg, Nat.reduceGT, Nat.reduceLT, Nat.reduceLeDiff, Nat.reduceEqDiff, ↓reduceIte, reduceCtorEq, Int.reduceToNat, Int.reduceLE, Int.reduceLT, Nat.reduceAdd, Nat.reduceMul, f8, hadd, aop_min, tmm, Bool.false_eq_true, hmin, ff_48]
                repeat (first | refine qqn rfl ?_ | ((first | (refine WK.rgn ?_ ?_; kernel_rfl) | refine AtCall.now ?_); simp (config := {maxSteps:=999999}) only [SS, qx11, forall_const, vun, Int.reduceEq, Int.reduceNeg, Nat.reduceGT, Nat.reduceLT, Nat.reduceLeDiff, Nat.reduceEqDiff, ↓reduceIte, reduceCtorEq, Int.reduceToNat, Int.reduceLE, Int.reduceLT, Nat.reduceAdd, Nat.reduceMul, f0, f3, f4, f5, f7, f8, f9, f24, f25, f35, f36, f37, f66, f67, f68, hadd, aop_min, tmm, Bool.false_eq_true, hmin, hwq, ff_48]) | refine qqj rfl ?_ | refine qqk rfl ?_)
                refine ih4 (lq.length - (q + 1)) (by omega) _ ?_
                refine ⟨q + 1, kx8, hM8, hc8, f0, f3, f4, f5, f7, ?_, f9, f24, f25, f35, f36, f37, f66, f67, rfl, hq, rfl⟩
                rw [hsn]; rfl
            · rw [if_neg (by simp [he])] at hsn
              simp (config := {maxSteps:=999999}) only [SS, qx11, forall_const, vun, Int.reduceEq, Int.reduceNeg, Nat.reduceGT, Nat.reduceLT, Nat.reduceLeDiff, Nat.reduceEqDiff, ↓reduceIte, reduceCtorEq, Int.reduceToNat, Int.reduceLE, Int.reduceLT, Nat.reduceAdd, Nat.reduceMul, ff_48]
              repeat (first | refine qqn rfl ?_ | ((first | (refine WK.rgn ?_ ?_; kernel_rfl) | refine AtCall.now ?_); simp (config := {maxSteps:=999999}) only [SS, qx11, forall_const, vun, Int.reduceEq, Int.reduceNeg, Nat.reduceGT, Nat.reduceLT, Nat.reduceLeDiff, Nat.reduceEqDiff, ↓reduceIte, reduceCtorEq, Int.reduceToNat, Int.reduceLE, Int.reduceLT, Nat.reduceAdd, Nat.reduceMul, f0, f3, f4, f5, f7, f8, f9, f24, f25, f35, f36, f37, f66, f67, f68, Option.isSome_some, Option.getD_some, he, hwq, ff_48]) | refine qqj rfl ?_ | refine qqk rfl ?_)
              refine ih4 (lq.length - (q + 1)) (by omega) _ ?_
              refine ⟨q + 1, kx7, hM7, hc7, f0, f3, f4, f5, f7, ?_, f9, f24, f25, f35, f36, f37, f66, f67, rfl, hq, rfl⟩
              rw [hsn]; exact f8
        · have hqe : q = lq.length := by omega
          rw [hqe, ← hneed1] at f8
          rw [hqe, ← hneed1] at hnl
          unfold upd1 at hrs
          simp only at hrs
          generalize need1 g (cF co) sets M3 xj = nn at *
          have hwj : IntKind.wrap .i64 ((j : Int) + 1) = ((j + 1 : Nat) : Int) := by rw [wrap_in (by omega) (by omega)]; rfl
          have hsm : smS (a, xj) := ⟨by show a ≤ 1000000; omega, by show xj.1 ≤ 1000000; omega, by show xj.2.1 ≤ 1000000; omega, by show xj.2.2 ≤ 1000000; omega⟩
          have hlk := look_sp hM5 hsm
          have hst := set_sp hM5 hsm nn
          have hM9 := hset_at H5 n (MN (setM M3 (a, xj) nn))
          have kx9 := kx5.set (x := n) (MN (setM M3 (a, xj) nn)) (Nat.le_refl _) hn5
          have okn : nn < farN → okM (setM M3 (a, xj) nn) := fun h s k e => by
            rw [getM_setM] at e
            split at e
            · cases e; exact h
            · exact hokM3 s k e
          by_cases hnf : nn < farN
          · have hnf' : ((nn : Nat) : Int) < 1073741824 := by omega
            cases hg : getM M3 (a, xj) with
            | none =>
              rw [hg] at hlk hrs
              rw [if_pos ⟨hnf, rfl⟩] at hrs
              repeat (first | refine qqn rfl ?_ | ((first | (refine WK.rgn ?_ ?_; kernel_rfl) | refine AtCall.now ?_); simp (config := {maxSteps:=999999}) only [SS, qx11, forall_const, vun, Int.reduceEq, Int.reduceNeg, Nat.reduceGT, Nat.reduceLT, Nat.reduceLeDiff, Nat.reduceEqDiff, ↓reduceIte, reduceCtorEq, Int.reduceToNat, Int.reduceLE, Int.reduceLT, Nat.reduceAdd, Nat.reduceMul, f0, f3, f4, f5, f7, f8, f9, f24, f25, f35, f36, f37, f66, f67, f68, hq, hb5, ittk, itle, itag, itvc, itone, aop_look, aop_mapset, itC_len, not_true_eq_false, Option.map_some, spsp, spag, hlk, hst, hnf', Option.isSome_none, Option.getD_none, hwj, ff_48]) | refine qqj rfl ?_ | refine qqk rfl ?_)
              refine ih3 (l.length - (j + 1)) (by omega) _ ?_
              refine ⟨j + 1, setM M3 (a, xj) nn, true, kx9, hn5, hM9, okn hnf, f0, f3, rfl, f5, f24, f25, f35, f36, rfl, hj, hrs.symm, rfl⟩
            | some m =>
              rw [hg] at hlk hrs
              by_cases hnm : nn < m
              · have hnm' : ((nn : Nat) : Int) < (m : Nat) := by omega
                rw [if_pos ⟨hnf, by simp [lessO, hnm]⟩] at hrs
                repeat (first | refine qqn rfl ?_ | ((first | (refine WK.rgn ?_ ?_; kernel_rfl) | refine AtCall.now ?_); simp (config := {maxSteps:=999999}) only [SS, qx11, forall_const, vun, Int.reduceEq, Int.reduceNeg, Nat.reduceGT, Nat.reduceLT, Nat.reduceLeDiff, Nat.reduceEqDiff, ↓reduceIte, reduceCtorEq, Int.reduceToNat, Int.reduceLE, Int.reduceLT, Nat.reduceAdd, Nat.reduceMul, f0, f3, f4, f5, f7, f8, f9, f24, f25, f35, f36, f37, f66, f67, f68, hq, hb5, ittk, itle, itag, itvc, itone, aop_look, aop_mapset, itC_len, not_true_eq_false, Option.map_some, spsp, spag, hlk, hst, hnf', hnm', Option.isSome_some, Option.getD_some, hwj, ff_48]) | refine qqj rfl ?_ | refine qqk rfl ?_)
                refine ih3 (l.length - (j + 1)) (by omega) _ ?_
                refine ⟨j + 1, setM M3 (a, xj) nn, true, kx9, hn5, hM9, okn hnf, f0, f3, rfl, f5, f24, f25, f35, f36, rfl, hj, hrs.symm, rfl⟩
              · have hnm' : ¬ ((nn : Nat) : Int) < (m : Nat) := by omega
                rw [if_neg (fun h => hnm (by simpa [lessO] using h.2))] at hrs
                repeat (first | refine qqn rfl ?_ | ((first | (refine WK.rgn ?_ ?_; kernel_rfl) | refine AtCall.now ?_); simp (config := {maxSteps:=999999}) only [SS, qx11, forall_const, vun, Int.reduceEq, Int.reduceNeg, Nat.reduceGT, Nat.reduceLT, Nat.reduceLeDiff, Nat.reduceEqDiff, ↓reduceIte, reduceCtorEq, Int.reduceToNat, Int.reduceLE, Int.reduceLT, Nat.reduceAdd, Nat.reduceMul, f0, f3, f4, f5, f7, f8, f9, f24, f25, f35, f36, f37, f66, f67, f68, hq, hb5, ittk, itle, itag, itvc, itone, aop_look, itC_len, not_true_eq_false, Option.map_some, spsp, spag, hlk, hnf', hnm', Option.isSome_some, Option.getD_some, hwj, ff_48]) | refine qqj rfl ?_ | refine qqk rfl ?_)
                refine ih3 (l.length - (j + 1)) (by omega) _ ?_
                refine ⟨j + 1, M3, b3, kx5, hn5, hM5, hokM3, f0, f3, f4, f5, f24, f25, f35, f36, rfl, hj, hrs.symm, rfl⟩
          · have hnf' : ¬ ((nn : Nat) : Int) < 1073741824 := by omega
            rw [if_neg (fun h => hnf h.1)] at hrs
            repeat (first | refine qqn rfl ?_ | ((first | (refine WK.rgn ?_ ?_; kernel_rfl) | refine AtCall.now ?_); simp (config := {maxSteps:=999999}) only [SS, qx11, forall_const, vun, Int.reduceEq, Int.reduceNeg, Nat.reduceGT, Nat.reduceLT, Nat.reduceLeDiff, Nat.reduceEqDiff, ↓reduceIte, reduceCtorEq, Int.reduceToNat, Int.reduceLE, Int.reduceLT, Nat.reduceAdd, Nat.reduceMul, f0, f3, f4, f5, f7, f8, f9, f24, f25, f35, f36, f37, f66, f67, f68, hq, hb5, ittk, itle, itag, itvc, itone, aop_look, itC_len, not_true_eq_false, Option.map_some, spsp, spag, hlk, hnf', hwj, ff_48]) | refine qqj rfl ?_ | refine qqk rfl ?_)
            refine ih3 (l.length - (j + 1)) (by omega) _ ?_
            refine ⟨j + 1, M3, b3, kx5, hn5, hM5, hokM3, f0, f3, f4, f5, f24, f25, f35, f36, rfl, hj, hrs.symm, rfl⟩
      · have hje : j = l.length := by omega
        have hwa : IntKind.wrap .i64 ((a : Int) + 1) = ((a + 1 : Nat) : Int) := by rw [wrap_in (by omega) (by omega)]; rfl
        repeat (first | refine qqn rfl ?_ | ((first | (refine WK.rgn ?_ ?_; kernel_rfl) | refine AtCall.now ?_); simp (config := {maxSteps:=999999}) only [SS, qx11, forall_const, vun, Int.reduceEq, Int.reduceNeg, Nat.reduceGT, Nat.reduceLT, Nat.reduceLeDiff, Nat.reduceEqDiff, ↓reduceIte, reduceCtorEq, Int.reduceToNat, Int.reduceLE, Int.reduceLT, Nat.reduceAdd, Nat.reduceMul, f0, f3, f4, f5, f24, f25, f35, f36, f37, hj, hwa, ff_48]) | refine qqj rfl ?_ | refine qqk rfl ?_)
        refine ih2 (sets.length - (a + 1)) (by omega) _ ?_
        refine ⟨a + 1, M3, b3, kx3, hn3, hM3, hokM3, f0, f3, f4, f24, ?_, hlt, ?_, rfl⟩
        · simp only [packed, fset_apply, Nat.reduceEqDiff, ↓reduceIte, List.getD_cons_zero, List.getD_cons_succ, f25, hwa, ff_48]
        · rw [hsucc, hr3, hje, List.take_length]
    · have hae : a = sets.length := by omega
      rw [hae] at hr2
      repeat (first | refine qqn rfl ?_ | ((first | (refine WK.rgn ?_ ?_; kernel_rfl) | refine AtCall.now ?_); simp (config := {maxSteps:=999999}) only [SS, qx11, forall_const, vun, Int.reduceEq, Int.reduceNeg, Nat.reduceGT, Nat.reduceLT, Nat.reduceLeDiff, Nat.reduceEqDiff, ↓reduceIte, reduceCtorEq, Int.reduceToNat, Int.reduceLE, Int.reduceLT, Nat.reduceAdd, Nat.reduceMul, f0, f3, f4, f24, f25, hlt, ff_48]) | refine qqj rfl ?_ | refine qqk rfl ?_)
      cases b2 with
      | false =>
        have he := needL_end hmu (by rw [← hr2])
        refine ih 0 (by omega) _ ⟨M2, false, kx2, hn2, hM2, hokM2, f0, f3, f4, (fun h => by cases h), fun _ => ?_⟩
        rw [← hneed, he, ← hr2]
      | true =>
        obtain ⟨k', h1, h2, h3⟩ := needL_mono k0 M hmu (by rw [← hr2])
        rw [← hr2] at h2 h3
        exact ih k' h1 _ ⟨M2, true, kx2, hn2, hM2, hokM2, f0, f3, f4, fun _ => ⟨h2, by rw [← h3]; exact hneed⟩, fun h => by cases h⟩
end Go.Proofs.Ytpdlmpbhohinpaa

namespace Go.Proofs.Ytpdlmpbhohinpaa
open Go.AM Go.RowKit
set_option maxRecDepth 100000
theorem needL_ok {g : Gram} {c : Nat → Nat} {sets : List (List It)} : ∀ (k : Nat) (M : List (Sp × Nat)), okM M → okM (needL g c sets k M) := by
  intro k
  induction k with
  | zero => intro M h; exact h
  | succ k ih =>
    intro M h
    have hs := roundN_step (g := g) (c := c) (sets := sets) (st := (M, false)) sets.length (Nat.le_refl _)
    unfold needL
    split
    · exact ih _ (hs.ok h)
    · exact hs.ok h
theorem needs_ok {g : Gram} {c : Nat → Nat} {sets : List (List It)} : okM (needs g c sets) := needL_ok _ _ okM.nil
theorem shortS_snoc {g : Gram} {c : Nat → Nat} {a j n : Nat} {M : List (Sp × Nat)} {l : List It} (hj : j < l.length) : (l.take (j + 1)).foldl (shortS g c a M) n = shortS g c a M ((l.take j).foldl (shortS g c a M) n) l[j] := by
  rw [List.take_succ_eq_append_getElem hj, List.foldl_append]
  rfl
set_option maxHeartbeats 16000000 in
theorem shortm_gives {S H : Heap} {N o y x n : Nat} {pt pv pr pg pe pc : Option Addr} {g : Gram} {gd em : List Bool} {co : List Nat} {sets : List (List It)} {w : List Int} (st : Stat S N pr pg pe pc g gd em co) (hro : RRO S pr g.rules) (hw : WF n H) (hS : Sub S H)
    (hc : CHR H N o y x pt pv pr pg pe pc g gd em co sets w) (hk : okS g sets) (ha : sets.length ≤ 4000) (hcap : ∀ k ∈ co, k ≤ farN) :
    Gives Try.prog 22 [.pointer (some ⟨o, 0, none⟩)] n H fun v _ _ => v = .int .i64 (shortL g (cF co) sets : Nat) := by
  refine Gives.of orders ok22 (Nat.le_of_ble_eq_true rfl) ?_
  obtain ⟨c, wv, cs, ho, hyN, hy, hyl, hsr, hwv⟩ := id hc
  have low : ∀ {z cs ty own}, H z = .cells cs ty own → z < n := fun {z cs ty own} e => Classical.byContradiction fun hc => by rw [hw z (by omega)] at e; cases e
  have hon := low ho
  have hyn := low hy
  have hs0 := List.length_pos_iff.2 hk.1
  have hsl : sets.length - 1 < sets.length := by omega
  obtain ⟨pp, hpp, hlr⟩ := hsr _ hsl
  have hlast : lastS sets = sets[sets.length - 1] := by unfold lastS; rw [List.getD_eq_getElem?_getD, List.getElem?_eq_getElem hsl]; rfl
  have hlok := lastS_ok hk
  have hsh : shortL g (cF co) sets = ((lastS sets).take (lastS sets).length).foldl (shortS g (cF co) (sets.length - 1) (needs g (cF co) sets)) farN := by unfold shortL; rw [List.take_length]
  rw [← hlast] at hpp hlr
  rw [hsh]
  have hMok := needs_ok (g := g) (c := cF co) (sets := sets)
  generalize hps : lastS sets = ps at *
  have hpl := small_okL hlok st.rl st.r8 (by omega)
  repeat (first | refine qqn rfl ?_)
  have hsub : IntKind.wrap .i64 ((sets.length : Int) - 1) = ((sets.length - 1 : Nat) : Int) := by rw [wrap_in (by omega) (by omega)]; omega
  repeat (first | refine qqn rfl ?_ | ((first | (refine WK.rgn ?_ ?_; kernel_rfl) | refine AtCall.now ?_); simp (config := {maxSteps:=999999}) only [SS, qx13, forall_const, Int.reduceEq, Int.reduceNeg, Nat.reduceGT, Nat.reduceLT, Nat.reduceLeDiff, Nat.reduceEqDiff, ↓reduceIte, reduceCtorEq, Int.reduceToNat, Int.reduceLE, Int.reduceLT, Nat.reduceAdd, Nat.reduceMul, ho, ch6, aop_nc, tnc, ff_22]) | refine qqj rfl ?_ | refine qqk rfl ?_)
  refine AtCall.by (needs_gives st hro hw hS hc hk ha hcap) ?_
  rintro v n1 H1 hk1 ⟨rfl, hn1, hM1⟩
  have ho1 := (hk1.keep o hon).trans ho
  have hy1 := (hk1.keep y hyn).trans hy
  have hlr1 := hlr.rk (hk1.rk hw)
  generalize needs g (cF co) sets = M at *
  simp (config := {maxSteps:=999999}) only [SS, qx13, forall_const, Int.reduceEq, Int.reduceNeg, Nat.reduceGT, Nat.reduceLT, Nat.reduceLeDiff, Nat.reduceEqDiff, ↓reduceIte, reduceCtorEq, Int.reduceToNat, Int.reduceLE, Int.reduceLT, Nat.reduceAdd, Nat.reduceMul, ff_22]
  repeat (first | refine qqn rfl ?_ | ((first | (refine WK.rgn ?_ ?_; kernel_rfl) | refine AtCall.now ?_); simp (config := {maxSteps:=999999}) only [SS, qx13, forall_const, Int.reduceEq, Int.reduceNeg, Nat.reduceGT, Nat.reduceLT, Nat.reduceLeDiff, Nat.reduceEqDiff, ↓reduceIte, reduceCtorEq, Int.reduceToNat, Int.reduceLE, Int.reduceLT, Nat.reduceAdd, Nat.reduceMul, ho1, ch6, hsub, hsl, hy1, hpp, aop_nc, tnc, ff_22]) | refine qqj rfl ?_ | refine qqk rfl ?_)
  refine WK.loop (fun k2 s => ∃ j : Nat, Kp n H s.n s.H ∧ s.H n = MN M ∧ s.f 0 = .pointer (some ⟨o, 0, none⟩) ∧ s.f 3 = .map (some n) ∧ s.f 4 = .int .i64 ((sets.length - 1 : Nat) : Int) ∧ s.f 5 = .int .i64 ((ps.take j).foldl (shortS g (cF co) (sets.length - 1) M) farN : Nat) ∧ s.f 25 = .slice pp ps.length ps.length ∧ s.f 26 = .int .i64 (ps.length : Nat) ∧ s.f 27 = .int .i64 (j : Nat) ∧ j ≤ ps.length ∧ k2 = ps.length - j) ps.length ?_ ?_
  · exact ⟨0, hk1, hM1, rfl, rfl, rfl, rfl, rfl, rfl, rfl, Nat.zero_le _, rfl⟩
  rintro kk ⟨f, n3, H3⟩ ⟨j, kx, hM3, f0, f3, f4, f5, f25, f26, f27, hj, rfl⟩ ih
  simp only at f0 f3 f4 f5 f25 f26 f27 kx hM3 ih
  have hw3 := kx.wf hw
  have hS3 := hS.kp hw kx
  have ho3 := (kx.keep o hon).trans ho
  have hn3 : n < n3 := Classical.byContradiction fun hc => by rw [hw3 n (by omega)] at hM3; unfold MN at hM3; cases hM3
  have hfar : farN = 1073741824 := rfl
  by_cases hlt : j < ps.length
  · obtain ⟨zp, op, rfl, hzp, e3, e4⟩ := (hlr.rk (kx.rk hw)).at hlt
    obtain ⟨hq1, hq2, hq3⟩ := hlok.ok _ (List.getElem_mem hlt)
    have hsn := shortS_snoc (g := g) (c := cF co) (a := sets.length - 1) (n := farN) (M := M) hlt
    have hnl := shortS_le (g := g) (c := cF co) (a := sets.length - 1) (M := M) (ps.take j) farN (Nat.le_refl _)
    generalize (ps.take j).foldl (shortS g (cF co) (sets.length - 1) M) farN = nn at *
    generalize ps[j] = xj at *
    have hsmx := okI.small (x := xj) ⟨hq1, hq2, hq3⟩ st.rl st.r8 (by omega)
    have hk4 := Kp.new n3 H3 (.cells (itC xj) 74 true)
    have hb4 := hset_at H3 n3 (.cells (itC xj) 74 true)
    have ho4 := (hk4.keep o (by omega)).trans ho3
    have hM4 := (hk4.keep n hn3).trans hM3
    have hS4 := hS3.kp hw3 hk4
    have hw4 := hk4.wf hw3
    have kx4 := kx.trans hk4
    generalize hE : hset H3 n3 (.cells (itC xj) 74 true) = H4 at *
    have hwj : IntKind.wrap .i64 ((j : Int) + 1) = ((j + 1 : Nat) : Int) := by rw [wrap_in (by omega) (by omega)]; rfl
    have hsm : smS (sets.length - 1, xj) := ⟨by show sets.length - 1 ≤ 1000000; omega, by show xj.1 ≤ 1000000; omega, by show xj.2.1 ≤ 1000000; omega, by show xj.2.2 ≤ 1000000; omega⟩
    have hlk := look_sp hM4 hsm
    rw [show shortS g (cF co) (sets.length - 1) M nn xj = (match getM M (sets.length - 1, xj) with | some m => min nn (m + restN g (cF co) xj xj.2.1) | none => nn) from rfl] at hsn
    cases hg : getM M (sets.length - 1, xj) with
    | none =>
      rw [hg] at hsn hlk
      repeat (first | refine qqn rfl ?_ | ((first | (refine WK.rgn ?_ ?_; kernel_rfl) | refine AtCall.now ?_); simp (config := {maxSteps:=999999}) only [SS, qx13, forall_const, Int.reduceEq, Int.reduceNeg, Nat.reduceGT, Nat.reduceLT, Nat.reduceLeDiff, Nat.reduceEqDiff, ↓reduceIte, reduceCtorEq, Int.reduceToNat, Int.reduceLE, Int.reduceLT, Nat.reduceAdd, Nat.reduceMul, f0, f3, f4, f5, f25, f26, f27, hlt, hzp, e3, e4, itvc, itone, itsp, itle, ittk, itag, hb4, hE, aop_look, itC_len, not_true_eq_false, Option.map_some, spsp, spag, hlk, Option.isSome_none, Option.getD_none, hwj, ff_22]) | refine qqj rfl ?_ | refine qqk rfl ?_)
      refine ih (ps.length - (j + 1)) (by omega) _ ?_
      refine ⟨j + 1, kx4, hM4, f0, f3, f4, ?_, f25, f26, rfl, hlt, rfl⟩
      rw [hsn]; exact f5
    | some m =>
      rw [hg] at hsn hlk
      have hmb := hMok _ _ hg
      have hrb := restN_le g (cF co) xj xj.2.1
      have hrt : (rgt g xj.1).length ≤ 8 := by rw [rgt_at hq1]; exact st.r8 _ (List.getElem_mem hq1)
      repeat (first | refine qqn rfl ?_ | ((first | (refine WK.rgn ?_ ?_; kernel_rfl) | refine AtCall.now ?_); simp (config := {maxSteps:=999999}) only [SS, qx13, forall_const, Int.reduceEq, Int.reduceNeg, Nat.reduceGT, Nat.reduceLT, Nat.reduceLeDiff, Nat.reduceEqDiff, ↓reduceIte, reduceCtorEq, Int.reduceToNat, Int.reduceLE, Int.reduceLT, Nat.reduceAdd, Nat.reduceMul, f0, f3, f4, f5, f25, f26, f27, hlt, hzp, e3, e4, itvc, itone, itsp, itle, ittk, itag, it0, it1, it2, hb4, hE, aop_look, itC_len, not_true_eq_false, Option.map_some, spsp, spag, hlk, Option.isSome_some, Option.getD_some, hwj, ff_22]) | refine qqj rfl ?_ | refine qqk rfl ?_)
      refine AtCall.by (rest_gives (d := xj.2.1) st hro hw4 hS4 ho4 hq1 hq2 hcap) ?_
      rintro wq n8 H8 hk8 rfl
      have hM8 := (hk8.keep n (by omega)).trans hM4
      have kx8 := kx4.trans hk8
      simp only at hsn
      generalize restN g (cF co) xj xj.2.1 = r at *
      have hadd : IntKind.wrap .i64 ((m : Int) + (r : Int)) = ((m + r : Nat) : Int) := by rw [wrap_in (by omega) (by omega)]; rfl
      have hmin : (if m + r < nn then ((m + r : Nat) : Int) else (nn : Int)) = ((min nn (m + r) : Nat) : Int) := by split <;> omega
      simp (config := {maxSteps:=999999}) only [SS, qx13, forall_const, Int.reduceEq, Int.reduceNeg, Nat.reduceGT, Nat.reduceLT, Nat.reduceLeDiff, Nat.reduceEqDiff, ↓reduceIte, reduceCtorEq, Int.reduceToNat, Int.reduceLE, Int.reduceLT, Nat.reduceAdd, Nat.reduceMul, f5, hadd, aop_min, tmm, Bool.false_eq_true, hmin, ff_22]
      repeat (first | refine qqn rfl ?_ | ((first | (refine WK.rgn ?_ ?_; kernel_rfl) | refine AtCall.now ?_); simp (config := {maxSteps:=999999}) only [SS, qx13, forall_const, Int.reduceEq, Int.reduceNeg, Nat.reduceGT, Nat.reduceLT, Nat.reduceLeDiff, Nat.reduceEqDiff, ↓reduceIte, reduceCtorEq, Int.reduceToNat, Int.reduceLE, Int.reduceLT, Nat.reduceAdd, Nat.reduceMul, f0, f3, f4, f5, f25, f26, f27, hadd, aop_min, tmm, Bool.false_eq_true, hmin, hwj, ff_22]) | refine qqj rfl ?_ | refine qqk rfl ?_)
      refine ih (ps.length - (j + 1)) (by omega) _ ?_
      refine ⟨j + 1, kx8, hM8, f0, f3, f4, ?_, f25, f26, rfl, hlt, rfl⟩
      rw [hsn]; rfl
  · have hje : j = ps.length := by omega
    repeat (first | refine qqn rfl ?_ | ((first | (refine WK.rgn ?_ ?_; kernel_rfl) | refine AtCall.now ?_); simp (config := {maxSteps:=999999}) only [SS, qx13, forall_const, Int.reduceEq, Int.reduceNeg, Nat.reduceGT, Nat.reduceLT, Nat.reduceLeDiff, Nat.reduceEqDiff, ↓reduceIte, reduceCtorEq, Int.reduceToNat, Int.reduceLE, Int.reduceLT, Nat.reduceAdd, Nat.reduceMul, f0, f3, f4, f5, f25, f26, f27, hlt, ff_22]) | refine qqj rfl ?_ | refine qqk rfl ?_)
    (first | refine WK.retNil ⟨Or.inr rfl, _, rfl, ?_, ?_⟩ | refine WK.skipNil ⟨Or.inl rfl, _, rfl, ?_, ?_⟩)
    · exact kx.keep
    · simp only [packed, fset_apply, Nat.reduceEqDiff, ↓reduceIte, List.getD_cons_zero, List.getD_cons_succ, f5, ff_22]
      rw [hje]
end Go.Proofs.Ytpdlmpbhohinpaa
