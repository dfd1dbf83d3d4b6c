/- A part of a proof. Its conditions: none. -/
import Derived.Test.YtfbdababcdfjfaaAmNAtMv
import Derived.Test.YtfbdababcdfjfaaAmNAtClose
import Derived.Test.YtfbdababcdfjfaaAmNInsC
import Derived.Test.YtfbdababcdfjfaaAmNFacts
import Derived.Test.YtfbdababcdfjfaaAmC
import Derived.Test.YtfbdababcdfjfaaAmD
set_option linter.all false
namespace Go.Proofs.Ytfbdababcdfjfaa
open Go.AM
set_option maxRecDepth 100000
theorem spk_kx {n n' y : Nat} {H H' : Heap} {cs : List Value} (hw : WF n H) (hy : H y = .cells cs 47 true) (k : Kx (fun z => z = y) n H n' H') : SpK H H' := fun z _ _ hz => (k.keep z (live_lt hw (live_of hz)) (by rintro rfl; rw [hy] at hz; simp at hz)).trans hz
set_option maxHeartbeats 16000000 in
theorem move_givesE {nn n cc : Nat} {H : Heap} {t : Int} {p : Option Addr} {L : List CA} {pt pv pr : Option Addr} {g : Gram} {cl : List (Option Addr × List (Int × Int))} (hw : WF n H) (ne : NE H nn pt pv pr g cc cl) (ok : RightOK g) (hL : L ≠ [] → RN 4 ccell H p L) (hx : ∀ z ∈ L, XC H z) (hv : ∀ x ∈ L, GC g x.1) (hl : L.length ≤ 65536) (hls : ∀ z ∈ L, z.1.stack.length ≤ 65536) :
    Gives Try.prog 21 [.pointer (some ⟨nn, 0, none⟩), .slice p L.length L.length, .int .i64 t] n H fun w _ H' => ∃ p' M, w = .slice p' M.length M.length ∧ RN 4 ccell H' p' M ∧ M.map (·.1) = moveL g t (L.map (·.1)) ∧ ∀ z ∈ M, XC H' z := by
  have hi := ok.inG
  have hgl : g.terms.length ≤ 64 ∧ g.vars.length ≤ 64 := ⟨ok.terms, ok.vars⟩
  have hlen : ∀ r ∈ g.rules, r.right.length ≤ 24 := fun r hr => by
    obtain ⟨i, hi, rfl⟩ := List.getElem_of_mem hr
    exact (ok.rule i hi).len
  refine Gives.of orders ok21 (Nat.le_of_ble_eq_true rfl) ?_
  have v1 : ∀ s, vcells (.agg (ccell s).toArray) = ccell s := fun _ => rfl
  have v2 : ∀ s, (ccell s).all one = true := fun _ => rfl
  have v0 : ∀ s, (ccell s)[0]? = some (.int .i64 s.1.alt) := fun _ => rfl
  have v3 : ∀ s, (ccell s)[1]? = some (.int .i64 s.1.rule) := fun _ => rfl
  have v8 : ∀ s, (ccell s)[2]? = some (.int .i64 s.1.dot) := fun _ => rfl
  have v4 : ∀ s, (ccell s)[3]? = some (.slice s.2 s.1.stack.length s.1.stack.length) := fun _ => rfl
  have v5 : ∀ s, (ccell s).length = 4 := fun _ => rfl
  have v6 : ∀ s, ((ccell s).drop 0).take 4 = ccell s := fun _ => rfl
  have hs4 : ∀ (a b c d : Value) (x : CA), AM.splice [a, b, c, d] 0 (ccell x) = ccell x := fun _ _ _ _ _ => rfl
  repeat (first | refine qqm rfl ?_ | ((first | refine qqr ?_ | refine qqt ?_); simp only [SS, qx34, simprocAttr, ff_21]))
  refine WK.loop (fun kk s => ∃ (i y : Nat) (M : List CA), Kp n H s.n s.H ∧ s.f 0 = .pointer (some ⟨nn, 0, none⟩) ∧ s.f 2 = .int .i64 t ∧ s.f 10 = .slice p L.length L.length ∧ s.f 11 = .int .i64 (L.length : Nat) ∧ s.f 12 = .int .i64 (i : Nat) ∧ s.f 7 = sl y M.length ∧ (M ≠ [] → n ≤ y ∧ y < s.n ∧ s.H y = .cells (M.flatMap ccell) 47 true) ∧ (∀ z ∈ M, XC s.H z) ∧ i ≤ L.length ∧ M.length ≤ i ∧
      M.map (·.1) = moveL g t ((L.take i).map (·.1)) ∧ kk = L.length - i) L.length ?_ ?_
  · exact ⟨0, 0, [], Kp.refl _ _, rfl, rfl, rfl, rfl, rfl, rfl, fun h => absurd rfl h, fun z hz => (by cases hz), Nat.zero_le _, Nat.zero_le _, rfl, rfl⟩
  rintro kk ⟨f, n5, H5⟩ ⟨i, y, M, k5, f0, f2, f10, f11, f12, f7, hy, hMx, hil, hMl, hMm, rfl⟩ ih
  simp only at k5 f0 f2 f10 f11 f12 f7 hy hMx ih
  have hle5 := k5.le
  have hw5 := k5.wf hw
  by_cases hlt : i < L.length
  · have hiw : IntKind.i64.wrap ((i : Int) + 1) = ((i + 1 : Nat) : Int) := by rw [wrap_in (by omega) (by omega)]; rfl
    have hmt := moveL_take (g := g) (t := t) hlt
    have hmem := List.getElem_mem hlt
    obtain ⟨u, k0, cs, ty, own, q1, q2, q3, q4⟩ := ((hL (by intro e; rw [e] at hlt; exact Nat.not_lt_zero _ hlt)).mono hw k5).at ccell_len hlt
    subst q1
    have hun := live_lt hw5 (live_of q2)
    have kn := Kp.new n5 H5 (.cells (ccell L[i]) 47 true)
    have k5n := k5.trans kn
    by_cases ht0 : 0 ≤ t
    · repeat (first | refine qqm rfl ?_ | ((first | refine qqr ?_ | refine qqt ?_); simp only [SS, qx34, simprocAttr, f0, f2, f10, f11, f12, hlt, q2, q3, q4, v1, v2, v5, v6, hs4, ht0, decide_true, hset_at, ff_21]))
      have hnn := hset_at H5 n5 (.cells (ccell L[i]) 47 true)
      generalize hset H5 n5 (.cells (ccell L[i]) 47 true) = H6 at *
      have hw6 := kn.wf hw5
      refine AtCall.by (next_gives hw k5n ne hi hgl hlen (hv _ hmem).1.1 (fun r h0 hr => (hv _ hmem).1.2 r h0 hr)) ?_
      rintro _ n7 H7 k7 rfl
      have hw7 := k7.wf hw6
      have hle7 := k7.le
      have k57 := k5n.trans k7
      have kn7 := kn.trans k7
      have hnn7 := (k7.keep n5 (by omega)).trans hnn
      by_cases hnx : nextL g L[i].1 = t
      · rw [if_pos ⟨ht0, hnx⟩] at hmt
        obtain ⟨ru, r0, hr1, d0, d1⟩ := next_dot (hv _ hmem) ht0 hnx
        have hd24 := hlen ru (List.mem_of_getElem? hr1)
        have hdw : IntKind.i64.wrap (L[i].1.dot + 1) = L[i].1.dot + 1 := wrap_in (by omega) (by omega)
        have hxc : XC H7 L[i] := (hx _ hmem).keep (Kp.spk hw k57)
        have hzl := hls _ hmem
        simp only [SS, qx34, simprocAttr, hnx, f2, decide_true, ff_21]
        repeat (first | refine qqm rfl ?_ | ((first | refine qqr ?_ | refine qqt ?_); simp only [SS, qx34, simprocAttr, f7, hnn7, v0, v3, v4, v5, v8, hdw, ff_21]))
        refine AtCall.by (clone_gives hw7 hxc (by omega)) ?_
        rintro _ n8 H8 k8 ⟨pc, rfl, hpc⟩
        have hw8 := k8.wf hw7
        have hle8 := k8.le
        have hnew := hpc.xc L[i].1.alt L[i].1.rule (L[i].1.dot + 1)
        have kn8 := kn7.trans k8
        have k58 := k57.trans k8
        generalize hz : L[i] = z at *
        by_cases hM0 : M = []
        · subst hM0
          have f7' : f 7 = .slice none 0 0 := f7
          simp only [SS, qx34, simprocAttr, f7', ff_21]
          repeat (first | refine qqm rfl ?_ | ((first | refine qqr ?_ | refine qqt ?_); simp only [SS, qx34, simprocAttr, f12, hiw, ff_21]))
          have k8p : ∀ A C, Kp n8 H8 (n8 + 1 + 1) (hset (hset H8 n8 A) (n8 + 1) C) := fun A C => (Kp.new n8 H8 A).trans (Kp.new (n8 + 1) _ C)
          refine ih (L.length - (i + 1)) (by omega) _ ?_
          refine ⟨i + 1, n8 + 1, [(mvC z.1, pc)], k58.trans (k8p _ _), f0, f2, f10, f11, rfl, rfl, fun _ => ⟨by omega, Nat.lt_succ_self _, hset_at _ _ _⟩, fun q hq => ?_, hlt, by simp, ?_, rfl⟩
          · rw [List.mem_singleton] at hq
            rw [hq]
            exact hnew.keep (Kp.spk hw8 (k8p _ _))
          · rw [hmt, ← hMm]; rfl
        · obtain ⟨hy0, hyn, hyc⟩ := hy hM0
          have hM1 : 0 < M.length := List.length_pos_iff.2 hM0
          have hsl0 : sl y M.length = .slice (some ⟨y, 0, none⟩) M.length M.length := sl_pos (by omega)
          have hyc8 := (kn8.keep y (by omega)).trans hyc
          have hy7 : ∀ o, hset H8 n8 o y = _ := fun o => (hset_ne _ _ _ (by omega)).trans hyc8
          have bl : M.length + 1 ≤ bigN := by unfold bigN; omega
          have hct : [n8].contains y = false := by simp; omega
          have hfl : (M.flatMap ccell).length = M.length * 4 := fm_len ccell_len _
          have htk : (M.flatMap ccell).take (M.length * 4) = M.flatMap ccell := List.take_of_length_le (by omega)
          simp only [SS, qx34, simprocAttr, f7, hsl0, hy7, bl, hct, hfl, htk, hset_at, Nat.le_refl, List.drop_zero, ff_21]
          repeat (first | refine qqm rfl ?_ | ((first | refine qqr ?_ | refine qqt ?_); simp only [SS, qx34, simprocAttr, f12, hiw, hy7, bl, hct, hfl, htk, hset_at, Nat.le_refl, List.drop_zero, ff_21]))
          have k8x : ∀ A C, Kx (fun z => z = y) n8 H8 (n8 + 1 + 1) (hset (hset (hset H8 n8 A) y .dead) (n8 + 1) C) := fun A C => (((Kp.new n8 H8 A).kx (X := fun z => z = y)).set (x := y) .dead (.inl rfl) (by omega)).trans (Kp.new (n8 + 1) _ C).kx
          refine ih (L.length - (i + 1)) (by omega) _ ?_
          have k8y := k8x (.cells (ccell (mvC z.1, pc)) 47 true) (.cells (M.flatMap ccell ++ ccell (mvC z.1, pc)) 47 true)
          refine ⟨i + 1, n8 + 1, M ++ [(mvC z.1, pc)], ⟨by show n ≤ n8 + 1 + 1; omega, fun q hq => (k8y.keep q (by omega) (by omega)).trans (k58.keep q hq), fun h => k8y.wf (k58.wf h)⟩, f0, f2, f10, f11, rfl, ?_, fun _ => ⟨by omega, Nat.lt_succ_self _, ?_⟩, fun q hq => ?_, hlt, by simp; omega, ?_, rfl⟩
          · rw [List.length_append, List.length_singleton, sl_pos (by omega)]; rfl
          · rw [List.flatMap_append, List.flatMap_singleton]; exact hset_at _ _ _
          · rcases List.mem_append.1 hq with hq | hq
            · exact ((hMx q hq).keep (Kp.spk hw5 kn8)).keep (spk_kx hw8 hyc8 k8y)
            · rw [List.mem_singleton] at hq
              rw [hq]
              exact hnew.keep (spk_kx hw8 hyc8 k8y)
          · rw [List.map_append, hMm, hmt]; rfl
      · rw [if_neg (fun h => hnx h.2), List.append_nil] at hmt
        simp only [SS, qx34, simprocAttr, hnx, f2, decide_false, ff_21]
        repeat (first | refine qqm rfl ?_ | ((first | refine qqr ?_ | refine qqt ?_); simp only [SS, qx34, simprocAttr, f12, hiw, ff_21]))
        refine ih (L.length - (i + 1)) (by omega) _ ?_
        exact ⟨i + 1, y, M, k57, f0, f2, f10, f11, rfl, f7, fun h => ⟨(hy h).1, by have := (hy h).2.1; show _ < n7; omega, (kn7.keep y (hy h).2.1).trans (hy h).2.2⟩, fun z hz => (hMx z hz).keep (Kp.spk hw5 kn7), hlt, by omega, by rw [hmt]; exact hMm, rfl⟩
    · rw [if_neg (fun h => ht0 h.1), List.append_nil] at hmt
      repeat (first | refine qqm rfl ?_ | ((first | refine qqr ?_ | refine qqt ?_); simp only [SS, qx34, simprocAttr, f0, f2, f10, f11, f12, hlt, q2, q3, q4, v1, v2, v5, v6, hs4, ht0, decide_false, hset_at, hiw, ff_21]))
      refine ih (L.length - (i + 1)) (by omega) _ ?_
      exact ⟨i + 1, y, M, k5n, f0, f2, f10, f11, rfl, f7, fun h => ⟨(hy h).1, by have := (hy h).2.1; show _ < n5 + 1; omega, (kn.keep y (hy h).2.1).trans (hy h).2.2⟩, fun z hz => (hMx z hz).keep (Kp.spk hw5 kn), hlt, by omega, by rw [hmt]; exact hMm, rfl⟩
  · obtain rfl : i = L.length := by omega
    rw [List.take_length] at hMm
    rw [sl_eq] at f7
    repeat (first | refine qqm rfl ?_ | ((first | refine qqr ?_ | refine qqt ?_); simp only [SS, qx34, simprocAttr, f7, f11, f12, hlt, ff_21]))
    first | refine qqf ?_ ?_ | refine qqg ?_ ?_
    · exact k5.keep
    · simp only [packed, qv, Nat.reduceEqDiff, ↓reduceIte, ff_21]
      refine ⟨slp y M.length, M, rfl, ?_, hMm, hMx⟩
      by_cases hM0 : M = []
      · subst hM0; exact .inl ⟨rfl, rfl⟩
      · obtain ⟨_, _, hyc⟩ := hy hM0
        have hM1 : 0 < M.length := List.length_pos_iff.2 hM0
        rw [slp_pos (by omega)]
        exact .inr ⟨y, 0, _, _, true, rfl, hyc, by rw [fm_len ccell_len]; omega, by rw [List.drop_zero]; exact List.take_of_length_le (by rw [fm_len ccell_len]; omega)⟩
end Go.Proofs.Ytfbdababcdfjfaa

namespace Go.Proofs.Ytfbdababcdfjfaa
open Go.AM
set_option maxRecDepth 100000
set_option maxHeartbeats 4000000 in
theorem index_gives {n : Nat} {H : Heap} {p : Option Addr} {R : List Int} {a : Int} (hw : WF n H) (hR : RA (Value.int .i64) H p R) (hl : R.length ≤ 65536) :
  Gives Try.prog 73 [.slice p R.length R.length, .int .i64 a] n H fun v n' H' => ∃ z : Int, v = .int .i64 z ∧ (0 ≤ z ↔ a ∈ R) ∧ n' = n ∧ H' = H := by
 refine Gives.of orders ok73 (Nat.le_of_ble_eq_true rfl) ?_
 repeat (first | refine qqm rfl ?_ | ((first | refine qqr ?_ | refine qqt ?_); simp only [SS, qx6, simprocAttr, ff_73]))
 refine WK.loop (fun kk s => ∃ i : Nat, s.n = n ∧ s.H = H ∧ s.f 0 = .slice p R.length R.length ∧ s.f 1 = .int .i64 a ∧ s.f 7 = .int .i64 (R.length : Nat) ∧ s.f 8 = .int .i64 (i : Nat) ∧ i ≤ R.length ∧ a ∉ R.take i ∧ kk = R.length - i) R.length ?_ ?_
 ·exact ⟨0, rfl, rfl, rfl, rfl, rfl, rfl, Nat.zero_le _, by simp, rfl⟩
 rintro kk ⟨f, n1, H1⟩ ⟨i, e1, e2, f0, f1, f7, f8, hil, hni, rfl⟩ ih
 simp only at e1 e2 f0 f1 f7 f8 ih
 subst e1 e2
 by_cases hlt : i < R.length
 ·have hiw : IntKind.i64.wrap ((i : Int) + 1) = ((i + 1 : Nat) : Int) := by rw [wrap_in (by omega) (by omega)]; rfl
  obtain ⟨z, kz, ds, tz, oz, e0, hz, e⟩ := hR.at hlt
  subst e0
  by_cases he : a = R[i]
  ·have he' : (a = R[i]) = True := eq_true he
   repeat (first | refine qqm rfl ?_ | ((first | refine qqr ?_ | refine qqt ?_); simp only [SS, qx6, simprocAttr, f0, f1, f7, f8, hlt, hz, e, he', decide_true, ff_73]))
   first | refine qqf ?_ ?_ | refine qqg ?_ ?_
   ·exact fun _ _ => rfl
   ·simp only [packed, qv, Nat.reduceEqDiff, ↓reduceIte, ff_73]
    exact ⟨_, rfl, ⟨fun _ => by rw [he]; exact List.getElem_mem hlt, fun _ => by omega⟩, trivial, trivial⟩
  ·repeat (first | refine qqm rfl ?_ | ((first | refine qqr ?_ | refine qqt ?_); simp only [SS, qx6, simprocAttr, f0, f1, f7, f8, hlt, hz, e, he, decide_false, hiw, ff_73]))
   refine ih (R.length - (i + 1)) (by omega) _ ?_
   refine ⟨i + 1, rfl, rfl, f0, f1, f7, rfl, hlt, ?_, rfl⟩
   rw [List.take_add_one, List.getElem?_eq_getElem hlt, List.mem_append]
   rintro (h | h)
   ·exact hni h
   ·simp at h; exact he h
 ·obtain rfl : i = R.length := by omega
  rw [List.take_length] at hni
  repeat (first | refine qqm rfl ?_ | ((first | refine qqr ?_ | refine qqt ?_); simp only [SS, qx6, simprocAttr, f7, f8, hlt, ff_73]))
  first | refine qqf ?_ ?_ | refine qqg ?_ ?_
  ·exact fun _ _ => rfl
  ·simp only [packed, qv, Nat.reduceEqDiff, ↓reduceIte, ff_73]
   exact ⟨_, rfl, ⟨fun h => absurd h (by decide), fun h => absurd h hni⟩, trivial, trivial⟩
theorem contains_gives {n : Nat} {H : Heap} {p : Option Addr} {R : List Int} {a : Int} (hw : WF n H) (hR : RA (Value.int .i64) H p R) (hl : R.length ≤ 65536) :
  Gives Try.prog 45 [.slice p R.length R.length, .int .i64 a] n H fun v n' H' => v = .bool (decide (a ∈ R)) ∧ n' = n ∧ H' = H := by
 refine Gives.of orders ok45 (Nat.le_of_ble_eq_true rfl) ?_
 repeat (first | refine qqm rfl ?_ | ((first | refine qqr ?_ | refine qqt ?_); simp only [SS, qx17, simprocAttr]))
 refine AtCall.by (index_gives hw hR hl) ?_
 rintro v n1 H1 k1 ⟨z, rfl, hz, hn1, hH⟩
 subst hn1
 obtain rfl := hH.symm
 have hz' : (0 ≤ z) = (a ∈ R) := propext hz
 simp only [SS, qx17, simprocAttr]
 repeat (first | refine qqm rfl ?_ | ((first | refine qqr ?_ | refine qqt ?_); simp only [SS, qx17, simprocAttr]))
 first | refine qqf ?_ ?_ | refine qqg ?_ ?_
 ·exact fun _ _ => rfl
 ·simp only [packed, qv, Nat.reduceEqDiff, ↓reduceIte, hz']
  exact ⟨trivial, trivial, trivial⟩
theorem rise_len {N : Int} : ∀ (l : List Int) (a : Int), l.Pairwise (· < ·) → (∀ x ∈ l, a ≤ x ∧ x < N) → (l.length : Int) ≤ N - a ∨ l = []
 | [], _, _, _ => .inr rfl
 | x :: l, a, hp, h => by
  obtain ⟨h1, h2⟩ := List.pairwise_cons.1 hp
  have hx := h x (List.mem_cons_self ..)
  rcases rise_len l (x + 1) h2 (fun z hz => ⟨by have := h1 z hz; omega, (h z (List.mem_cons_of_mem _ hz)).2⟩) with h3 | h3
  ·left; rw [List.length_cons]; omega
  ·left; rw [h3]; simp; omega
theorem cmpC_alt {a b : Cfg} (h : cmpC a b < 0) : a.alt ≤ b.alt := by
 rw [cmpC_X] at h
 split at h
 ·omega
 ·unfold cmpI at h
  split at h
  ·omega
  ·split at h <;> omega
def AltsL (l : List Cfg) (R : List Int) : Prop := R.Pairwise (· < ·) ∧ ∀ a, a ∈ R ↔ a ∈ l.map (·.alt)
set_option maxHeartbeats 8000000 in
theorem alts_gives {n : Nat} {H : Heap} {p : Option Addr} {L : List CA} (hw : WF n H) (hL : RN 4 ccell H p L) (hs : Srt L) (hal : ∀ x ∈ L, 0 ≤ x.1.alt ∧ x.1.alt < 48) (hl : L.length ≤ 65536) :
    Gives Try.prog 16 [.slice p L.length L.length] n H fun v _ H' => ∃ p' R, v = .slice p' R.length R.length ∧ RA (Value.int .i64) H' p' R ∧ AltsL (L.map (·.1)) R := by
  refine Gives.of orders ok16 (Nat.le_of_ble_eq_true rfl) ?_
  have v1 : ∀ s, vcells (.agg (ccell s).toArray) = ccell s := fun _ => rfl
  have v2 : ∀ s, (ccell s).all one = true := fun _ => rfl
  have v0 : ∀ s, (ccell s)[0]? = some (.int .i64 s.1.alt) := fun _ => rfl
  have v5 : ∀ s, (ccell s).length = 4 := fun _ => rfl
  have v6 : ∀ s, ((ccell s).drop 0).take 4 = ccell s := fun _ => rfl
  have hs4 : ∀ (a b c d : Value) (x : CA), AM.splice [a, b, c, d] 0 (ccell x) = ccell x := fun _ _ _ _ _ => rfl
  repeat (first | refine qqm rfl ?_ | ((first | refine qqr ?_ | refine qqt ?_); simp only [SS, qx23, vun, simprocAttr, ff_16]))
  refine WK.loop (fun kk s => ∃ (i y : Nat) (R : List Int), Kp n H s.n s.H ∧ s.f 6 = .slice p L.length L.length ∧ s.f 7 = .int .i64 (L.length : Nat) ∧ s.f 8 = .int .i64 (i : Nat) ∧ s.f 3 = sl y R.length ∧ (R ≠ [] → n ≤ y ∧ y < s.n ∧ s.H y = .cells (R.map (Value.int .i64)) 3 true) ∧ i ≤ L.length ∧ R.length ≤ i ∧ AltsL ((L.take i).map (·.1)) R ∧ kk = L.length - i) L.length ?_ ?_
  · exact ⟨0, 0, [], Kp.refl _ _, rfl, rfl, rfl, rfl, fun h => absurd rfl h, Nat.zero_le _, Nat.zero_le _, ⟨List.Pairwise.nil, by simp⟩, rfl⟩
  rintro kk ⟨f, n5, H5⟩ ⟨i, y, R, k5, f6, f7, f8, f3, hy, hil, hRl, hR, rfl⟩ ih
  simp only at k5 f6 f7 f8 f3 hy ih
  have hle5 := k5.le
  have hw5 := k5.wf hw
  have hRA : RA (Value.int .i64) H5 (slp y R.length) R := by
    by_cases h0 : R = []
    · subst h0; exact fun h => absurd rfl h
    · obtain ⟨_, _, hyc⟩ := hy h0
      have h1 : 0 < R.length := List.length_pos_iff.2 h0
      rw [slp_pos (by omega)]
      exact fun _ => ⟨y, 0, _, _, true, rfl, hyc, fun i a e => by rw [Nat.zero_add, List.getElem?_map, e]; rfl⟩
  by_cases hlt : i < L.length
  · have hiw : IntKind.i64.wrap ((i : Int) + 1) = ((i + 1 : Nat) : Int) := by rw [wrap_in (by omega) (by omega)]; rfl
    obtain ⟨u, k0, cs, ty, own, q1, q2, q3, q4⟩ := (hL.mono hw k5).at ccell_len hlt
    subst q1
    have hun := live_lt hw5 (live_of q2)
    have kn := Kp.new n5 H5 (.cells (ccell L[i]) 47 true)
    have k5n := k5.trans kn
    have f3' := f3
    rw [sl_eq] at f3'
    have htk : (L.take (i + 1)).map (·.1) = (L.take i).map (·.1) ++ [L[i].1] := by
      rw [List.take_add_one, List.getElem?_eq_getElem hlt, List.map_append]; rfl
    repeat (first | refine qqm rfl ?_ | ((first | refine qqr ?_ | refine qqt ?_); simp only [SS, qx23, vun, simprocAttr, f3', f6, f7, f8, hlt, q2, q3, q4, v0, v1, v2, v5, v6, hs4, hset_at, ff_16]))
    have hnn := hset_at H5 n5 (.cells (ccell L[i]) 47 true)
    generalize hset H5 n5 (.cells (ccell L[i]) 47 true) = H6 at *
    refine AtCall.by (contains_gives (kn.wf hw5) (hRA.mono hw5 kn) (by omega)) ?_
    rintro v n7 H7 k7 ⟨rfl, hn7, hH7⟩
    subst hn7
    obtain rfl := hH7.symm
    by_cases hin : L[i].1.alt ∈ R
    · simp only [SS, qx23, vun, simprocAttr, hin, decide_true, Bool.not_true, ff_16]
      repeat (first | refine qqm rfl ?_ | ((first | refine qqr ?_ | refine qqt ?_); simp only [SS, qx23, vun, simprocAttr, f8, hiw, ff_16]))
      refine ih (L.length - (i + 1)) (by omega) _ ?_
      refine ⟨i + 1, y, R, k5n, f6, f7, rfl, f3, fun h => ⟨(hy h).1, by have := (hy h).2.1; show _ < n5 + 1; omega, (kn.keep y (hy h).2.1).trans (hy h).2.2⟩, hlt, by omega, ⟨hR.1, fun a => ?_⟩, rfl⟩
      rw [hR.2, htk, List.map_append, List.mem_append]
      constructor
      · exact .inl
      · rintro (h | h)
        · exact h
        · simp at h; rw [h]; exact (hR.2 _).1 hin
    · have hR' : AltsL ((L.take (i + 1)).map (·.1)) (R ++ [L[i].1.alt]) := by
        refine ⟨?_, fun a => ?_⟩
        · rw [List.pairwise_append]
          refine ⟨hR.1, List.pairwise_singleton _ _, fun r hr b hb => ?_⟩
          rw [List.mem_singleton] at hb
          rw [hb]
          have hr' := (hR.2 r).1 hr
          rw [List.map_map] at hr'
          obtain ⟨z, hz, rfl⟩ := List.mem_map.1 hr'
          obtain ⟨j, hj, rfl⟩ := List.getElem_of_mem hz
          rw [List.length_take] at hj
          have hle := cmpC_alt (hs.lt hlt (by omega : j < i))
          have e : (L.take i)[j]'(by rw [List.length_take]; omega) = L[j]'(by omega) := List.getElem_take
          have hne : ((L.take i)[j]'(by rw [List.length_take]; omega)).1.alt ≠ L[i].1.alt := fun e' => hin (by rw [← e']; exact hr)
          simp only [Function.comp]
          rw [e] at hne ⊢
          omega
        · rw [htk, List.map_append, List.mem_append, List.mem_append, hR.2]
          simp
      have hz : L[i].1 = L[i].1 := rfl
      generalize L[i] = z at *
      by_cases hR0 : R = []
      · subst hR0
        have hsl0 : slp y ([] : List Int).length = none := rfl
        simp only [SS, qx23, vun, simprocAttr, hin, decide_false, Bool.not_false, ff_16]
        repeat (first | refine qqm rfl ?_ | ((first | refine qqr ?_ | refine qqt ?_); simp only [SS, qx23, vun, simprocAttr, f3, f8, hnn, v0, v5, hiw, hsl0, ff_16]))
        have k6p : ∀ A C, Kp (n5 + 1) H6 (n5 + 1 + 1 + 1) (hset (hset H6 (n5 + 1) A) (n5 + 1 + 1) C) := fun A C => (Kp.new (n5 + 1) H6 A).trans (Kp.new (n5 + 1 + 1) _ C)
        refine ih (L.length - (i + 1)) (by omega) _ ?_
        exact ⟨i + 1, n5 + 1 + 1, [z.1.alt], k5n.trans (k6p _ _), f6, f7, rfl, rfl, fun _ => ⟨by omega, Nat.lt_succ_self _, hset_at _ _ _⟩, hlt, by simp, hR', rfl⟩
      · obtain ⟨hy0, hyn, hyc⟩ := hy hR0
        have hR1 : 0 < R.length := List.length_pos_iff.2 hR0
        rw [sl_pos (by omega)] at f3
        have hyc6 := (kn.keep y hyn).trans hyc
        have hy7 : ∀ o, hset H6 (n5 + 1) o y = _ := fun o => (hset_ne _ _ _ (by omega)).trans hyc6
        have bl : R.length + 1 ≤ bigN := by unfold bigN; omega
        have hct : [n5 + 1].contains y = false := by simp; omega
        have hfl : (R.map (Value.int .i64)).length = R.length := List.length_map _
        have htk2 : (R.map (Value.int .i64)).take R.length = R.map (Value.int .i64) := List.take_of_length_le (by omega)
        simp only [SS, qx23, vun, simprocAttr, hin, decide_false, Bool.not_false, ff_16]
        repeat (first | refine qqm rfl ?_ | ((first | refine qqr ?_ | refine qqt ?_); simp only [SS, qx23, vun, simprocAttr, f3, f8, hnn, v0, v5, hiw, hy7, bl, hct, hfl, htk2, hset_at, Nat.le_refl, List.drop_zero, Nat.mul_one, ff_16]))
        have k6x : ∀ A C, Kx (fun z => z = y) (n5 + 1) H6 (n5 + 1 + 1 + 1) (hset (hset (hset H6 (n5 + 1) A) y .dead) (n5 + 1 + 1) C) := fun A C => (((Kp.new (n5 + 1) H6 A).kx (X := fun z => z = y)).set (x := y) .dead (.inl rfl) (by omega)).trans (Kp.new (n5 + 1 + 1) _ C).kx
        refine ih (L.length - (i + 1)) (by omega) _ ?_
        have k6y := k6x (.cells [.int .i64 z.1.alt] 3 true) (.cells (R.map (Value.int .i64) ++ [.int .i64 z.1.alt]) 3 true)
        refine ⟨i + 1, n5 + 1 + 1, R ++ [z.1.alt], ⟨by show n ≤ n5 + 1 + 1 + 1; omega, fun q hq => (k6y.keep q (by omega) (by omega)).trans (k5n.keep q hq), fun h => k6y.wf (k5n.wf h)⟩, f6, f7, rfl, ?_, fun _ => ⟨by omega, Nat.lt_succ_self _, ?_⟩, hlt, by simp; omega, hR', rfl⟩
        · rw [List.length_append, List.length_singleton, sl_pos (by omega)]; rfl
        · rw [List.map_append]; exact hset_at _ _ _
  · obtain rfl : i = L.length := by omega
    rw [List.take_length] at hR
    repeat (first | refine qqm rfl ?_ | ((first | refine qqr ?_ | refine qqt ?_); simp only [SS, qx23, vun, simprocAttr, f3, f6, f7, f8, hlt, ff_16]))
    have hsort : le2 R := hR.1.imp fun h => Int.le_of_lt h
    by_cases hR0 : R = []
    · subst hR0
      refine AtCall.by (sort0_gives _ _) ?_
      rintro v n6 H6 k6 ⟨hn6, hH6⟩
      subst hn6
      obtain rfl := hH6.symm
      simp only [SS, qx23, vun, simprocAttr, ff_16]
      repeat (first | refine qqm rfl ?_ | ((first | refine qqr ?_ | refine qqt ?_); simp only [SS, qx23, vun, simprocAttr, f3, ff_16]))
      first | refine qqf ?_ ?_ | refine qqg ?_ ?_
      · exact k5.keep
      · simp only [packed, qv, Nat.reduceEqDiff, ↓reduceIte, ff_16]
        exact ⟨none, [], rfl, fun h => absurd rfl h, hR⟩
    · obtain ⟨hy0, hyn, hyc⟩ := hy hR0
      have hR1 : 0 < R.length := List.length_pos_iff.2 hR0
      have hsl0 : sl y R.length = .slice (some ⟨y, 0, none⟩) R.length R.length := sl_pos (by omega)
      have hend : ∀ J : Heap, J y = .cells (R.map (Value.int .i64)) 3 true → RA (Value.int .i64) J (some ⟨y, 0, none⟩) R := fun J hJ _ => ⟨y, 0, _, _, true, rfl, hJ, fun i a e => by rw [Nat.zero_add, List.getElem?_map, e]; rfl⟩
      rw [hsl0] at f3 ⊢
      by_cases h12 : R.length ≤ 12
      · refine AtCall.byX (sort_gives hyc hyn h12) ?_
        rintro v n6 H6 k6 ⟨hn6, hne6, l', hl', hperm, hle⟩
        obtain rfl : l' = R := sorted_eq hperm hle hsort
        simp only [SS, qx23, vun, simprocAttr, ff_16]
        repeat (first | refine qqm rfl ?_ | ((first | refine qqr ?_ | refine qqt ?_); simp only [SS, qx23, vun, simprocAttr, f3, ff_16]))
        first | refine qqf ?_ ?_ | refine qqg ?_ ?_
        · exact fun q hq => (k6.keep q (by omega) (by omega)).trans (k5.keep q hq)
        · simp only [packed, qv, Nat.reduceEqDiff, ↓reduceIte, ff_16]
          exact ⟨some ⟨y, 0, none⟩, _, rfl, hend _ hl', hR⟩
      · have hlen : R.length < 50 := by
          rcases rise_len (N := 48) R 0 hR.1 (fun a ha => by
            have := (hR.2 a).1 ha
            rw [List.map_map] at this
            obtain ⟨z, hz, rfl⟩ := List.mem_map.1 this
            exact hal z hz) with h | h
          · omega
          · exact absurd h hR0
        refine AtCall.by (sortS_gives hw5 hyc (by omega) hlen hsort) ?_
        rintro v n6 H6 k6 _
        simp only [SS, qx23, vun, simprocAttr, ff_16]
        repeat (first | refine qqm rfl ?_ | ((first | refine qqr ?_ | refine qqt ?_); simp only [SS, qx23, vun, simprocAttr, f3, ff_16]))
        first | refine qqf ?_ ?_ | refine qqg ?_ ?_
        · exact (k5.trans k6).keep
        · simp only [packed, qv, Nat.reduceEqDiff, ↓reduceIte, ff_16]
          exact ⟨some ⟨y, 0, none⟩, _, rfl, hend _ ((k6.keep y hyn).trans hyc), hR⟩
end Go.Proofs.Ytfbdababcdfjfaa

namespace Go.Proofs.Ytfbdababcdfjfaa
open Go.AM
set_option maxRecDepth 100000
end Go.Proofs.Ytfbdababcdfjfaa

namespace Go.Proofs.Ytfbdababcdfjfaa
open Go.AM
set_option maxRecDepth 100000
def few (g : Gram) : Bool := decide (g.vars.length ≤ 8) && decide (g.terms.length ≤ 6) && decide (g.rules.length ≤ 24) && g.rules.all fun r => decide (r.right.length ≤ 8)
theorem few_gives {v : Value} {g : Gram} {n : Nat} {H : Heap} (hw : WF n H) (hg : RG H v g) (wg : WG g) :
  Gives Try.prog 32 [v] n H fun v _ _ => v = .bool (few g) := by
 obtain ⟨pt, pv, pr, rfl, ht, hv, hr⟩ := hg
 refine Gives.of orders ok32 (Nat.le_of_ble_eq_true rfl) ?_
 have hk := Kp.new n H (.cells (gcells pt pv pr g) 25 true)
 replace hr := hr.mono hw hk
 have hb := hset_at H n (.cells (gcells pt pv pr g) 25 true)
 repeat refine qqn rfl ?_
 (refine qqr ?_; simp only [SS, qx0, simprocAttr, abox, box_cells, box_one, ff_32])
 repeat refine qqn rfl ?_
 generalize hset H n (.cells (gcells pt pv pr g) 25 true) = H1 at *
 by_cases h1 : (8 : Int) < g.vars.length
 ·repeat (first | refine qqm rfl ?_ | ((first | refine qqr ?_ | refine qqt ?_); simp only [SS, qx0, simprocAttr, hb, h1, gc_1, ff_32]))
  first | refine qqf ?_ ?_ | refine qqg ?_ ?_
  ·exact hk.keep
  ·simp only [packed, qv, Nat.reduceEqDiff, ↓reduceIte, few, ff_32]
   simp; omega
 by_cases h2 : (6 : Int) < g.terms.length
 ·repeat (first | refine qqm rfl ?_ | ((first | refine qqr ?_ | refine qqt ?_); simp only [SS, qx0, simprocAttr, hb, h1, h2, gc_1, gc_0, ff_32]))
  first | refine qqf ?_ ?_ | refine qqg ?_ ?_
  ·exact hk.keep
  ·simp only [packed, qv, Nat.reduceEqDiff, ↓reduceIte, few, ff_32]
   simp; omega
 by_cases h3 : (24 : Int) < g.rules.length
 ·repeat (first | refine qqm rfl ?_ | ((first | refine qqr ?_ | refine qqt ?_); simp only [SS, qx0, simprocAttr, hb, h1, h2, h3, gc_1, gc_0, gc_2, ff_32]))
  first | refine qqf ?_ ?_ | refine qqg ?_ ?_
  ·exact hk.keep
  ·simp only [packed, qv, Nat.reduceEqDiff, ↓reduceIte, few, ff_32]
   simp; omega
 repeat (first | refine qqm rfl ?_ | ((first | refine qqr ?_ | refine qqt ?_); simp only [SS, qx0, simprocAttr, hb, h1, h2, h3, gc_1, gc_0, gc_2, ff_32]))
 refine WK.loop (fun k s => ∃ i, s.n = n + 1 ∧ s.H = H1 ∧ s.f 1 = .pointer (some ⟨n, 0, none⟩) ∧ s.f 3 = .int .i64 (i : Nat) ∧ i ≤ g.rules.length ∧ k = g.rules.length - i ∧ ∀ r ∈ g.rules.take i, r.right.length ≤ 8) g.rules.length ?_ ?_
 ·exact ⟨0, rfl, rfl, rfl, rfl, Nat.zero_le _, rfl, by simp⟩
 rintro k ⟨f, n', H'⟩ ⟨i, rfl, rfl, f1, f3, hi, rfl, hall⟩ ih
 simp only at f1 f3 ih hr hb
 by_cases hir : i < g.rules.length
 ·obtain ⟨x, k, cs, ty, own, p, rfl, hx, c0, c1, c2, hp⟩ := hr.at hir
  by_cases h8 : (8 : Int) < g.rules[i].right.length
  ·repeat (first | refine qqm rfl ?_ | ((first | refine qqr ?_ | refine qqt ?_); simp only [SS, qx0, simprocAttr, f1, f3, hb, gc_2, hir, hx, c1, h8, ff_32]))
   first | refine qqf ?_ ?_ | refine qqg ?_ ?_
   ·exact hk.keep
   ·simp only [packed, qv, Nat.reduceEqDiff, ↓reduceIte, few, ff_32]
    have : g.rules.all (fun r => decide (r.right.length ≤ 8)) = false := by
     rw [List.all_eq_false]; exact ⟨g.rules[i], List.getElem_mem hir, by simp; omega⟩
    rw [this]; simp
  ·repeat (first | refine qqm rfl ?_ | ((first | refine qqr ?_ | refine qqt ?_); simp only [SS, qx0, simprocAttr, f1, f3, hb, gc_2, hir, hx, c1, h8, ff_32]))
   refine ih (g.rules.length - (i + 1)) (by omega) _ ⟨i + 1, rfl, rfl, f1, ?_, hir, rfl, ?_⟩
   ·simp only [packed, qv, Nat.reduceEqDiff, ↓reduceIte, ff_32]
    have := wg.rules; unfold maxL at this
    rw [wrap_in (by omega) (by omega)]; rfl
   ·intro r hr'
    rw [List.take_succ_eq_append_getElem hir, List.mem_append] at hr'
    rcases hr' with hr' | hr'
    ·exact hall r hr'
    ·simp at hr'; subst hr'; omega
 ·repeat (first | refine qqm rfl ?_ | ((first | refine qqr ?_ | refine qqt ?_); simp only [SS, qx0, simprocAttr, f1, f3, hb, gc_2, hir, ff_32]))
  first | refine qqf ?_ ?_ | refine qqg ?_ ?_
  ·exact hk.keep
  ·simp only [packed, qv, Nat.reduceEqDiff, ↓reduceIte, few, ff_32]
   rw [List.take_of_length_le (by omega)] at hall
   have : g.rules.all (fun r => decide (r.right.length ≤ 8)) = true := by
    rw [List.all_eq_true]; exact fun r hr => by simpa using hall r hr
   rw [this]; simp; omega
end Go.Proofs.Ytfbdababcdfjfaa

namespace Go.Proofs.Ytfbdababcdfjfaa
open Go.AM
set_option maxRecDepth 100000
def kpB (us ws : List Bool) (r : GRule) : Bool := us.getD r.left.toNat false && prdB r.right ws
end Go.Proofs.Ytfbdababcdfjfaa
