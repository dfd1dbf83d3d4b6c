/- A part of a proof. Its conditions: none. -/
import Derived.Test.YtemkglelfeidhaaAmJChClose
import Derived.Test.YtemkglelfeidhaaAmC
set_option linter.all false
namespace Go.Proofs.Ytemkglelfeidhaa
open Go.AM Go.RowKit
set_option maxRecDepth 100000
def WV (H : Heap) (N x : Nat) (v : Value) (w : List Int) : Prop := (w = [] ∧ v = .slice none 0 0) ∨ ∃ c cs, v = .slice (some ⟨x, 0, none⟩) w.length c ∧ N ≤ x ∧ H x = .cells cs 3 true ∧ w.length ≤ cs.length ∧ cs.take w.length = w.map (.int .i64)
def CHR (H : Heap) (N o y x : Nat) (pt pv pr pg pe pc : Option Addr) (g : Gram) (gd em : List Bool) (co : List Nat) (sets : List (List It)) (w : List Int) : Prop :=
 ∃ c wv cs, H o = .cells (chC pt pv pr pg pe pc g gd em co (.slice (some ⟨y, 0, none⟩) sets.length c) wv) 101 true ∧ N ≤ y ∧ H y = .cells cs 108 true ∧ sets.length * 2 ≤ cs.length ∧ SR H cs sets ∧ WV H N x wv w
theorem sub_kxo {S H H' : Heap} {N n n' o : Nat} (h : Sub S H) (hw : WF N S) (hso : S o = .dead) (k : Kx (fun z => z = o ∨ N ≤ z) n H n' H') (hn : N ≤ n) : Sub S H' := fun x hx => by
 have hlt : x < N := Classical.byContradiction fun hc => hx (hw x (by omega))
 have hno : ¬ (x = o ∨ N ≤ x) := by
  rintro (rfl | hc)
  ·exact hx hso
  ·omega
 exact (k.keep x (by omega) hno).trans (h x hx)
theorem WV.rc {P : Nat → Prop} {H H' : Heap} {N x : Nat} {v : Value} {w : List Int} (h : WV H N x v w) (k : RC P H H') (hx : ∀ cs, H x = .cells cs 3 true → ¬ P x) : WV H' N x v w := by
 rcases h with h | ⟨c, cs, a, b, d, e⟩
 ·exact .inl h
 ·exact .inr ⟨c, cs, a, b, k.2 x _ _ _ (hx _ d) d, e⟩
section
variable {pt pv pr pg pe pc : Option Addr} {g : Gram} {gd em : List Bool} {co : List Nat} {sv wv : Value}
theorem chs6 (v : Value) : (chC pt pv pr pg pe pc g gd em co sv wv).set 6 v = chC pt pv pr pg pe pc g gd em co v wv := rfl
theorem chs7 (v : Value) : (chC pt pv pr pg pe pc g gd em co sv wv).set 7 v = chC pt pv pr pg pe pc g gd em co sv v := rfl
end
theorem RC.fresh {P : Nat → Prop} {n q : Nat} {H H1 H2 : Heap} (r1 : RC P H H1) (hw : WF n H) (hq : n ≤ q) (r : RC (· = q) H1 H2) : RC P H H2 := ⟨r1.1.trans r.1, fun z cs ty own hp e => by
 have hz : z < n := Classical.byContradiction fun hc => by rw [hw z (by omega)] at e; cases e
 exact r.2 z cs ty own (by omega) (r1.2 z cs ty own hp e)⟩
theorem RC.kx {Pk P : Nat → Prop} {n n' : Nat} {H H' : Heap} (k : Kx Pk n H n' H') (hw : WF n H) (h : ∀ z, Pk z → P z ∧ ∃ cs ty own, H z = .cells cs ty own) : RC P H H' := by
 have lt : ∀ {z o}, H z = o → o ≠ .dead → z < n := fun {z o} e ho => Classical.byContradiction fun hc => by rw [hw z (by omega)] at e; exact ho e.symm
 refine ⟨fun z cs ty own e => ⟨own, (k.keep z (lt e (by intro h; cases h)) fun hp => ?_).trans e⟩, fun z cs ty own hp e => (k.keep z (lt e (by intro h; cases h)) fun hk => hp (h z hk).1).trans e⟩
 obtain ⟨_, cs, ty, own, e2⟩ := h z hp
 rw [e] at e2; cases e2
theorem LV.kx {Pk : Nat → Prop} {n n' N : Nat} {H H' : Heap} {v : Value} {l : List It} (h : LV H N v l) (k : Kx Pk n H n' H') (hw : WF n H) (hp : ∀ z, Pk z → ∃ cs ty own, H z = .cells cs ty own) : LV H' N v l := by
 rcases h with h | ⟨h0, z, e1, e2, e3⟩
 ·exact .inl h
 ·refine .inr ⟨h0, z, e1, e2, (k.keep z (Classical.byContradiction fun hc => by rw [hw z (by omega)] at e3; cases e3) fun hk => ?_).trans e3⟩
  obtain ⟨cs, ty, own, e⟩ := hp z hk
  rw [e3] at e; cases e
theorem push_fin {S H3 HF : Heap} {N o y x m q x' n3 nF : Nat} {Pk : Nat → Prop} {pt pv pr pg pe pc pl : Option Addr} {g : Gram} {gd em : List Bool} {co : List Nat} {sets : List (List It)} {L : List It} {w' : List Int} {cs : List Value} {wv' : Value} (st : Stat S N pr pg pe pc g gd em co) (hso : S o = .dead) (hw3 : WF n3 H3) (hS3 : Sub S H3) (hN : N ≤ n3) (hoN : o < N)
  (hk : ∀ i s, sets[i]? = some s → okL g i s) (hL : okL g sets.length L) (ha : sets.length ≤ 4000) (hsr : SR H3 cs sets) (hyl : sets.length * 2 ≤ cs.length) (hm : N ≤ m) (hmo : H3 m = MO L) (hlv : LV H3 N (.slice pl L.length L.length) L) (hq : n3 ≤ q)
  (kF : Kx Pk n3 H3 nF HF) (hPk : ∀ z, Pk z → (z = o ∨ z = y ∨ z = x) ∧ (z = o ∨ N ≤ z) ∧ ∃ cs ty own, H3 z = .cells cs ty own)
  (oF : HF o = .cells (chC pt pv pr pg pe pc g gd em co (.slice (some ⟨q, 0, none⟩) (sets.length + 1) (sets.length + 1)) wv') 101 true) (yF : HF q = .cells (cs.take (sets.length * 2) ++ [.slice pl L.length L.length, .map (some m)]) 108 true) (hwv : WV HF N x' wv' w') (hxq : x' ≠ q) :
  GivesX Try.prog (fun z => N ≤ z) 64 [.pointer (some ⟨o, 0, none⟩), .int .i64 (sets.length : Nat)] nF HF fun _ _ H' => RC (fun z => z = o ∨ z = y ∨ z = x) H3 H' ∧ CHR H' N o q x' pt pv pr pg pe pc g gd em co (sets ++ [closeL g gd em sets sets.length L]) w' := by
 have hwF := kF.wf hw3
 have hSF : Sub S HF := sub_kxo hS3 st.wf hso (kF.mono fun z _ h => (hPk z h).2.1) hN
 have rc3 : RC (fun z => z = o ∨ z = y ∨ z = x) H3 HF := .kx kF hw3 fun z h => ⟨(hPk z h).1, (hPk z h).2.2⟩
 have hcl : ∀ z, Pk z → ∃ cs ty own, H3 z = .cells cs ty own := fun z h => (hPk z h).2.2
 have hmF : HF m = MO L := by
  refine (kF.keep m (Classical.byContradiction fun hc => by rw [hw3 m (by omega)] at hmo; unfold MO at hmo; cases hmo) fun hp => ?_).trans hmo
  obtain ⟨cs, ty, own, e⟩ := hcl m hp
  rw [hmo] at e; unfold MO at e; cases e
 have htl : (cs.take (sets.length * 2)).length = sets.length * 2 := by rw [List.length_take]; omega
 generalize hct : cs.take (sets.length * 2) = ct at *
 have g0 : (ct ++ [Value.slice pl L.length L.length, .map (some m)])[sets.length * 2]? = some (.slice pl L.length L.length) := by rw [List.getElem?_append_right (by omega), htl, Nat.sub_self]; rfl
 have g1 : (ct ++ [Value.slice pl L.length L.length, .map (some m)])[sets.length * 2 + 1]? = some (.map (some m)) := by rw [List.getElem?_append_right (by omega), htl, Nat.add_sub_cancel_left]; rfl
 have hlow : ∀ i, i < sets.length → (ct ++ [Value.slice pl L.length L.length, .map (some m)])[i * 2]? = cs[i * 2]? := fun i hi => by rw [List.getElem?_append_left (by omega), ← hct, List.getElem?_take, if_pos (by omega)]
 have hsF : SC HF N (ct ++ [Value.slice pl L.length L.length, .map (some m)]) (sets.length * 2) L := ⟨_, m, g0, g1, hm, hmF, hlv.kx kF hw3 hcl⟩
 have hsrF : SR HF (ct ++ [Value.slice pl L.length L.length, .map (some m)]) sets := fun i hi => by
  obtain ⟨pp, a, b⟩ := hsr i hi
  exact ⟨pp, (hlow i hi).trans a, b.rk rc3.1⟩
 obtain ⟨v, n', H', a, kx, b⟩ := close_gives (at_ := sets.length) (c := sets.length + 1) st hwF hSF (Nat.le_trans hN kF.le) hoN (Nat.le_trans hN hq) oF yF hsF hL ha rfl hsrF hk
 refine ⟨v, n', H', a, kx, rc3.fresh hw3 hq b.1, ?_⟩
 obtain ⟨rc, v', hy', hs'⟩ := b
 have hoF : o < nF := Classical.byContradiction fun hc => by rw [hwF o (by omega)] at oF; cases oF
 refine ⟨sets.length + 1, wv', _, ?_, Nat.le_trans hN hq, hy', ?_, ?_, hwv.rc rc fun cs e h => hxq h⟩
 ·rw [List.length_append]
  exact (kx.keep o hoF (by omega)).trans oF
 ·simp only [List.length_append, List.length_set, List.length_cons, List.length_nil, htl]; omega
 ·intro i hi
  rw [List.length_append, List.length_singleton] at hi
  rcases Nat.lt_or_ge i sets.length with h | h
  ·obtain ⟨pp, c1, c2⟩ := hsrF i h
   refine ⟨pp, ?_, ?_⟩
   ·rw [List.getElem?_set, if_neg (by omega), List.getElem_append_left h]; exact c1
   ·rw [List.getElem_append_left h]; exact c2.rk rc.1
  ·have : i = sets.length := by omega
   subst this
   obtain ⟨pp, c1, c2⟩ := hs'.lr
   refine ⟨pp, ?_, ?_⟩
   ·rw [c1]; simp
   ·simpa using c2
set_option maxHeartbeats 8000000 in
theorem push_gives {S H : Heap} {N o y x n : Nat} {pt pv pr pg pe pc : Option Addr} {g : Gram} {gd em : List Bool} {co : List Nat} {sets : List (List It)} {w : List Int} {t : Int} (st : Stat S N pr pg pe pc g gd em co) (hso : S o = .dead) (hw : WF n H) (hS : Sub S H) (hN : N ≤ n) (hoN : o < N)
  (hc : CHR H N o y x pt pv pr pg pe pc g gd em co sets w) (hk : okS g sets) (ha : sets.length ≤ 4000) (hwl : w.length ≤ 4000) (ht : inI t) :
  GivesX Try.prog (fun z => z = o ∨ N ≤ z) 39 [.pointer (some ⟨o, 0, none⟩), .int .i64 t] n H fun v _ H' => v = .bool (pushS g gd em sets t).isSome ∧ RC (fun z => z = o ∨ z = y ∨ z = x) H H' ∧
   ∃ y' x', CHR H' N o y' x' pt pv pr pg pe pc g gd em co ((pushS g gd em sets t).getD sets) (if (pushS g gd em sets t).isSome then w ++ [t] else w) ∧ (y' = y ∨ n ≤ y') ∧ (x' = x ∨ n ≤ x') := by
 refine GivesX.of orders ok39 (Nat.le_of_ble_eq_true rfl) ?_
 obtain ⟨c, wv, cs, ho, hyN, hy, hyl, hsr, hwv⟩ := id hc
 have hon : o < n := by omega
 have hyn : y < n := Classical.byContradiction fun hc => by rw [hw y (by omega)] at hy; cases hy
 have hs0 := List.length_pos_iff.2 hk.1
 have hsl : sets.length - 1 < sets.length := by omega
 obtain ⟨pp, hpp, hlr⟩ := hsr _ hsl
 have hlast : lastS sets = sets[sets.length - 1] := by unfold lastS; rw [List.getD_eq_getElem?_getD, List.getElem?_eq_getElem hsl]; rfl
 have hlok := lastS_ok hk
 rw [← hlast] at hpp hlr
 generalize hps : lastS sets = ps at *
 have k1 := Kp.new n H (MO [])
 have b1 := hset_at H n (MO [])
 have w1 := k1.wf hw
 have hmk := make_it n
 generalize hE1 : hset H n (MO []) = H1 at *
 have k2 := Kp.new (n + 1) H1 (.cells [.slice none 0 0, .map (some n)] 108 true)
 have b2 := hset_at H1 (n + 1) (.cells [.slice none 0 0, .map (some n)] 108 true)
 have b12 := (k2.keep n (by omega)).trans b1
 have w2 := k2.wf w1
 have kk := k1.trans k2
 have ho2 := (kk.keep o hon).trans ho
 have hy2 := (kk.keep y hyn).trans hy
 have hlr2 := hlr.rk (kk.rk hw)
 have hS2 := hS.kp hw kk
 generalize hE2 : hset H1 (n + 1) (.cells [.slice none 0 0, .map (some n)] 108 true) = H2 at *
 have hspl : Go.AM.splice [Value.slice none 0 0, Value.map none] 0 (Go.AM.splice [Value.slice none 0 0, Value.map none] 1 (vcells (Value.map (some n)))) = [.slice none 0 0, .map (some n)] := rfl
 repeat refine qqn rfl ?_
 have hsub : IntKind.wrap .i64 ((sets.length : Int) - 1) = ((sets.length - 1 : Nat) : Int) := by rw [wrap_in (by omega) (by omega)]; omega
 repeat (first | refine qqm rfl ?_ | ((first | refine qqr ?_ | refine qqt ?_); simp only [SS, qx12, vun, simprocAttr, -Int.reduceOfNat, -List.reduceReplicate, aop_makemap, hmk, hE1, hspl, hE2, ho2, ch6, hy2, hsub, hsl, hpp, aop_nc, tnc, ff_39]))
 have hg2 : Grown N (n + 1) 0 [.slice none 0 0, .map (some n)] H2 H2 [] := .refl b2 ⟨_, n, rfl, rfl, hN, b12, .inl ⟨rfl, rfl⟩⟩
 have k2x : Kx (fun z => N ≤ z) n H (n + 1 + 1) H2 := kk.kx
 refine WK.loop (fun k2 s => ∃ j : Nat, Kx (fun z => N ≤ z) n H s.n s.H ∧ n + 1 + 1 ≤ s.n ∧ s.f 0 = .pointer (some ⟨o, 0, none⟩) ∧ s.f 1 = .int .i64 t ∧ s.f 4 = .bool false ∧ s.f 5 = .pointer (some ⟨n + 1, 0, none⟩) ∧ s.f 24 = .slice pp ps.length ps.length ∧ s.f 25 = .int .i64 (ps.length : Nat) ∧ s.f 26 = .int .i64 (j : Nat) ∧ j ≤ ps.length ∧ Grown N (n + 1) 0 [.slice none 0 0, .map (some n)] H2 s.H (pushL g (ps.take j) t) ∧ k2 = ps.length - j) ps.length ?_ ?_
 ·exact ⟨0, k2x, Nat.le_refl _, rfl, rfl, rfl, rfl, rfl, rfl, rfl, Nat.zero_le _, by rw [List.take_zero]; exact hg2, rfl⟩
 rintro kk ⟨f, n3, H3⟩ ⟨j, kx, hn3, f0, f1, f4, f5, f24, f25, f26, hj, hg3, rfl⟩ ih
 simp only at f0 f1 f4 f5 f24 f25 f26 kx hg3 ih hn3
 have hw3 := kx.wf hw
 have hS3 := hS.kx st.wf kx hN
 have ho3 := (kx.keep o hon (by omega)).trans ho
 have hpl := hlok.len
 have hB := bndI_le (at_ := sets.length - 1) st.rl st.r8
 by_cases hlt : j < ps.length
 ·obtain ⟨zp, op, rfl, hzp, e3, e4⟩ := (hlr2.rk hg3.1.1).at hlt
  have hk4 := Kp.new n3 H3 (.cells (itC ps[j]) 113 true)
  have hb4 := hset_at H3 n3 (.cells (itC ps[j]) 113 true)
  have ho4 := (hk4.keep o (by omega)).trans ho3
  have hS4 := hS3.kp hw3 hk4
  have hw4 := hk4.wf hw3
  have hg4 := hg3.kp hw3 hk4
  have kx4 := kx.trans hk4.kx
  generalize hE : hset H3 n3 (.cells (itC ps[j]) 113 true) = H4 at *
  repeat (first | refine qqm rfl ?_ | ((first | refine qqr ?_ | refine qqt ?_); simp only [SS, qx12, vun, simprocAttr, -Int.reduceOfNat, -List.reduceReplicate, f0, f1, f4, f5, f24, f25, f26, hlt, hzp, e3, e4, itvc, itone, itsp, itle, ittk, itag, hb4, hE, ff_39]))
  obtain ⟨hq1, hq2, hq3⟩ := hlok.ok _ (List.getElem_mem hlt)
  have hsm : ps[j].1 < 24 ∧ ps[j].2.1 ≤ 8 ∧ ps[j].2.2 ≤ 4000 := okI.small ⟨hq1, hq2, hq3⟩ st.rl st.r8 (by omega)
  have hsm1 : ps[j].2.1 ≤ 1000 := by omega
  refine AtCall.by (next_gives st hw4 hS4 ho4 hq1 hq2) ?_
  rintro wq n5 H5 hk5 rfl
  have hb5 := (hk5.keep n3 (by omega)).trans hb4
  have hg5 := hg4.kp hw4 hk5
  have kx5 := kx4.trans hk5.kx
  have hn5 : n + 1 + 1 ≤ n5 := by have := hk5.le; omega
  have hwj : IntKind.wrap .i64 ((j : Int) + 1) = ((j + 1 : Nat) : Int) := by rw [wrap_in (by omega) (by omega)]; rfl
  have hsn := pushL_snoc (g := g) (t := t) hlt
  cases hn : nx g ps[j] with
  | none =>
   rw [hn, if_neg (by simp)] at hsn
   simp only [SS, qx12, vun, simprocAttr, -Int.reduceOfNat, -List.reduceReplicate, ff_39]
   repeat (first | refine qqm rfl ?_ | ((first | refine qqr ?_ | refine qqt ?_); simp only [SS, qx12, vun, simprocAttr, -Int.reduceOfNat, -List.reduceReplicate, f0, f1, f4, f5, f24, f25, f26, Option.isSome_none, hwj, ff_39]))
   refine ih (ps.length - (j + 1)) (by omega) _ ⟨j + 1, kx5, hn5, f0, f1, f4, f5, f24, f25, rfl, hlt, ?_, rfl⟩
   rw [hsn]; exact hg5
  | some y0 =>
   rw [hn] at hsn
   have hnt := bnot_i64 ht.1 ht.2
   by_cases h0 : 0 ≤ t
   ·by_cases he : y0 = -t - 1
    ·rw [if_pos ⟨h0, by rw [he]⟩] at hsn
     simp only [SS, qx12, vun, simprocAttr, -Int.reduceOfNat, -List.reduceReplicate, ff_39]
     repeat (first | refine qqm rfl ?_ | ((first | refine qqr ?_ | refine qqt ?_); simp only [SS, qx12, vun, simprocAttr, -Int.reduceOfNat, -List.reduceReplicate, f0, f1, f4, f5, f24, f25, f26, h0, he, hnt, hb5, Option.isSome_some, Option.getD_some, it0, it1, it2, itup _ hsm1, ff_39]))
     refine AtCall.byX (add_grown (x := upI ps[j]) (kx5.wf hw) (by omega) (by omega) hg5 ⟨by show ps[j].1 ≤ 1000000; omega, by show ps[j].2.1 + 1 ≤ 1000000; omega, by show ps[j].2.2 ≤ 1000000; omega⟩ (small_okL (pushL_ok (ps.take j) (fun p hp => hlok.ok p (List.mem_of_mem_take hp))) st.rl st.r8 (by omega))) ?_
     rintro wq n6 H6 kx6 ⟨_, hg6⟩
     simp only [SS, qx12, vun, simprocAttr, -Int.reduceOfNat, -List.reduceReplicate, ff_39]
     repeat (first | refine qqm rfl ?_ | ((first | refine qqr ?_ | refine qqt ?_); simp only [SS, qx12, vun, simprocAttr, -Int.reduceOfNat, -List.reduceReplicate, f26, hwj, ff_39]))
     refine ih (ps.length - (j + 1)) (by omega) _ ⟨j + 1, kx5.trans kx6, Nat.le_trans hn5 kx6.le, f0, f1, f4, f5, f24, f25, rfl, hlt, ?_, rfl⟩
     rw [hsn]; exact hg6
    ·rw [if_neg (by simp [he])] at hsn
     simp only [SS, qx12, vun, simprocAttr, -Int.reduceOfNat, -List.reduceReplicate, ff_39]
     repeat (first | refine qqm rfl ?_ | ((first | refine qqr ?_ | refine qqt ?_); simp only [SS, qx12, vun, simprocAttr, -Int.reduceOfNat, -List.reduceReplicate, f0, f1, f4, f5, f24, f25, f26, h0, he, hnt, Option.isSome_some, Option.getD_some, hwj, ff_39]))
     refine ih (ps.length - (j + 1)) (by omega) _ ⟨j + 1, kx5, hn5, f0, f1, f4, f5, f24, f25, rfl, hlt, ?_, rfl⟩
     rw [hsn]; exact hg5
   ·rw [if_neg (fun h => h0 h.1)] at hsn
    simp only [SS, qx12, vun, simprocAttr, -Int.reduceOfNat, -List.reduceReplicate, ff_39]
    repeat (first | refine qqm rfl ?_ | ((first | refine qqr ?_ | refine qqt ?_); simp only [SS, qx12, vun, simprocAttr, -Int.reduceOfNat, -List.reduceReplicate, f0, f1, f4, f5, f24, f25, f26, h0, Option.isSome_some, Option.getD_some, hwj, ff_39]))
    refine ih (ps.length - (j + 1)) (by omega) _ ⟨j + 1, kx5, hn5, f0, f1, f4, f5, f24, f25, rfl, hlt, ?_, rfl⟩
    rw [hsn]; exact hg5
 ·have hjl : j = ps.length := by omega
  rw [hjl, List.take_length] at hg3
  generalize hL : pushL g ps t = L at *
  obtain ⟨rc3, v3, b3, s3⟩ := id hg3
  obtain ⟨pl, hpl2, hlL⟩ := s3.lr
  have hv3 : v3 = .slice pl L.length L.length := by simpa using hpl2
  subst hv3
  have rcF : RC (fun _ => False) H H3 := .fresh (rc_kp kk hw) hw (by omega) hg3.1
  have hy3 := rcF.2 y _ _ _ id hy
  have hwv3 := hwv.rc rcF fun _ _ => id
  have hbl : (([Value.slice none 0 0, .map (some n)] : List Value).set 0 (.slice pl L.length L.length))[0]? = some (.slice pl L.length L.length) := rfl
  have hne0 : ¬ ((j : Int) < (ps.length : Int)) := by omega
  cases L with
  | nil =>
   simp only [List.length_nil] at b3 hbl
   have h00 : (((0 : Nat) : Int) = 0) = True := by simp
   repeat (first | refine qqm rfl ?_ | ((first | refine qqr ?_ | refine qqt ?_); simp only [SS, qx12, vun, simprocAttr, -Int.reduceOfNat, -List.reduceReplicate, f0, f1, f4, f5, f24, f25, f26, hlt, b3, hbl, h00, ff_39]))
   have hpn : pushS g gd em sets t = none := by unfold pushS; rw [hps, hL]
   (first | refine WK.retNil ⟨Or.inr rfl, _, rfl, ?_, ?_⟩ | refine WK.skipNil ⟨Or.inl rfl, _, rfl, ?_, ?_⟩)
   ·exact fun z hz hX => kx.keep z hz fun h => hX (.inr h)
   ·simp only [packed, fset_apply, Nat.reduceEqDiff, ↓reduceIte, List.getD_cons_zero, List.getD_cons_succ, f4, ff_39]
    rw [hpn]
    exact ⟨rfl, rcF.mono fun _ _ _ _ _ h => h.elim, y, x, ⟨c, wv, cs, ho3, hyN, hy3, hyl, hsr.rk rcF, hwv3⟩, .inl rfl, .inl rfl⟩
  | cons x0 L' =>
   generalize hLL : x0 :: L' = L at *
   have hL0 : L.length ≠ 0 := by rw [← hLL]; simp
   have hL0' : ((L.length : Int) = 0) = False := propext ⟨fun h => hL0 (by omega), False.elim⟩
   repeat refine qqn rfl ?_
   (refine qqr ?_; simp only [SS, qx12, vun, simprocAttr, -Int.reduceOfNat, -List.reduceReplicate, f25, f26, hlt, ff_39])
   repeat refine qqn rfl ?_
   refine qqm rfl ?_
   repeat refine qqn rfl ?_
   (refine qqr ?_; simp only [SS, qx12, vun, simprocAttr, -Int.reduceOfNat, -List.reduceReplicate, f5, b3, hbl, hL0', ff_39])
   repeat refine qqn rfl ?_
   refine qqm rfl ?_
   repeat refine qqn rfl ?_
   have hps2 : pushS g gd em sets t = some (sets ++ [closeL g gd em sets sets.length L]) := by unfold pushS; rw [hps, hL, ← hLL]
   have hyn3 : y < n3 := by omega
   have kA := Kp.new n3 H3 (.cells [.slice pl L.length L.length, .map (some n)] 108 true)
   have bA := hset_at H3 n3 (.cells [.slice pl L.length L.length, .map (some n)] 108 true)
   have yA := (kA.keep y hyn3).trans hy3
   have oA := (kA.keep o (by omega)).trans ho3
   have v1 : sets.length + 1 ≤ bigN := by unfold bigN; omega
   have v2 : [n3].contains y = false := by simp; omega
   generalize hA : hset H3 n3 (.cells [.slice pl L.length L.length, .map (some n)] 108 true) = HA at *
   have b3' : H3 (n + 1) = .cells [.slice pl L.length L.length, .map (some n)] 108 true := b3
   have e1 : ([Value.slice pl L.length L.length, .map (some n)] : List Value).take 2 = [.slice pl L.length L.length, .map (some n)] := rfl
   have e2 : (2 : Nat) ≤ ([Value.slice pl L.length L.length, .map (some n)] : List Value).length := Nat.le_refl _
   have e3 : vcells (Value.agg #[.slice pl L.length L.length, .map (some n)]) = [.slice pl L.length L.length, .map (some n)] := rfl
   have e4 : ([Value.slice pl L.length L.length, .map (some n)] : List Value).length = 2 := rfl
   have e5 : ([Value.slice pl L.length L.length, .map (some n)] : List Value).all one = true := rfl
   have e6 : Go.AM.splice [Value.slice none 0 0, Value.map none] 0 [Value.slice pl L.length L.length, .map (some n)] = [Value.slice pl L.length L.length, .map (some n)] := rfl
   have k3 : Kx (fun z => z = o ∨ z = y ∨ (z = x ∧ N ≤ x ∧ ∃ cx, H3 x = .cells cx 3 true)) n3 H3 (n3 + 1) HA := kA.kx
   have k4 := k3.set (x := y) .dead (.inl (.inr (.inl rfl))) (by omega)
   have oB1 := (hset_ne HA y .dead (x := o) (by omega)).trans oA
   generalize hB1 : hset HA y .dead = HB1 at *
   have kB := Kp.new (n3 + 1) HB1 (.cells (cs.take (sets.length * 2) ++ [.slice pl L.length L.length, .map (some n)]) 108 true)
   have bB := hset_at HB1 (n3 + 1) (.cells (cs.take (sets.length * 2) ++ [.slice pl L.length L.length, .map (some n)]) 108 true)
   have oB := (kB.keep o (by omega)).trans oB1
   have k5 := k4.trans kB.kx
   generalize hB : hset HB1 (n3 + 1) (.cells (cs.take (sets.length * 2) ++ [.slice pl L.length L.length, .map (some n)]) 108 true) = HB at *
   have kC := Kp.new (n3 + 1 + 1) HB (.cells [.int .i64 t] 3 true)
   have bC := hset_at HB (n3 + 1 + 1) (.cells [.int .i64 t] 3 true)
   have oC := (kC.keep o (by omega)).trans oB
   have qC := (kC.keep (n3 + 1) (by omega)).trans bB
   have k6 := k5.trans kC.kx
   generalize hC : hset HB (n3 + 1 + 1) (.cells [.int .i64 t] 3 true) = HC at *
   have u1 : vcells (Value.int .i64 t) = [Value.int .i64 t] := rfl
   have u2 : ([Value.int .i64 t] : List Value).length = 1 := rfl
   have u3 : ([Value.int .i64 t] : List Value).all one = true := rfl
   have u4 : Go.AM.splice [Value.int IntKind.i64 (Int.ofNat 0)] 0 [Value.int .i64 t] = [Value.int .i64 t] := rfl
   have u5 : ([Value.int .i64 t] : List Value).take 1 = [Value.int .i64 t] := rfl
   have hsub2 : IntKind.wrap .i64 (((sets.length + 1 : Nat) : Int) - 1) = (sets.length : Int) := by rw [wrap_in (by omega) (by omega)]; omega
   have hPk : ∀ z, (z = o ∨ z = y ∨ (z = x ∧ N ≤ x ∧ ∃ cx, H3 x = .cells cx 3 true)) → (z = o ∨ z = y ∨ z = x) ∧ (z = o ∨ N ≤ z) ∧ ∃ cs ty own, H3 z = .cells cs ty own := by
    rintro z (rfl | rfl | ⟨rfl, h1, cx, h2⟩)
    ·exact ⟨.inl rfl, .inl rfl, _, _, _, ho3⟩
    ·exact ⟨.inr (.inl rfl), .inr hyN, _, _, _, hy3⟩
    ·exact ⟨.inr (.inr rfl), .inr h1, _, _, _, h2⟩
   have hLok : okL g sets.length L := by rw [← hL]; exact pushL_ok ps (fun p hp => (hlok.up (Nat.sub_le _ _)).ok p hp)
   have hsr3 : SR H3 cs sets := hsr.rk rcF
   obtain ⟨vq, mq, q0, q1, q2, hmo, hlv3⟩ := s3
   have hq0 : Value.slice pl L.length L.length = vq := by simpa using q0
   have hq1 : n = mq := by simpa using q1
   subst hq0; subst hq1
   have chl7 : ∀ v w, 7 ≤ (chC pt pv pr pg pe pc g gd em co v w).length := fun v w => by rw [chl]; omega
   have chl8 : ∀ v w, 8 ≤ (chC pt pv pr pg pe pc g gd em co v w).length := fun v w => Nat.le_of_eq chl.symm
   rcases hwv3 with ⟨rfl, rfl⟩ | ⟨cw, cx, rfl, hxN, hx3, hxl, hxt⟩
   ·have kD := Kp.new (n3 + 1 + 1 + 1) HC (.cells [.int .i64 t] 3 true)
    have bD := hset_at HC (n3 + 1 + 1 + 1) (.cells [.int .i64 t] 3 true)
    have oD := (kD.keep o (by omega)).trans oC
    have qD := (kD.keep (n3 + 1) (by omega)).trans qC
    have k7 := k6.trans kD.kx
    generalize hD : hset HC (n3 + 1 + 1 + 1) (.cells [.int .i64 t] 3 true) = HD at *
    have oE := hset_at HD o (.cells (chC pt pv pr pg pe pc g gd em co (.slice (some ⟨n3 + 1, 0, none⟩) (sets.length + 1) (sets.length + 1)) (.slice none 0 0)) 101 true)
    have k8 := k7.set (x := o) (.cells (chC pt pv pr pg pe pc g gd em co (.slice (some ⟨n3 + 1, 0, none⟩) (sets.length + 1) (sets.length + 1)) (.slice none 0 0)) 101 true) (.inl (.inl rfl)) (by omega)
    have nE := fun z (hz : z ≠ o) => hset_ne HD o (.cells (chC pt pv pr pg pe pc g gd em co (.slice (some ⟨n3 + 1, 0, none⟩) (sets.length + 1) (sets.length + 1)) (.slice none 0 0)) 101 true) hz
    generalize hE : hset HD o (.cells (chC pt pv pr pg pe pc g gd em co (.slice (some ⟨n3 + 1, 0, none⟩) (sets.length + 1) (sets.length + 1)) (.slice none 0 0)) 101 true) = HE at *
    have oF := hset_at HE o (.cells (chC pt pv pr pg pe pc g gd em co (.slice (some ⟨n3 + 1, 0, none⟩) (sets.length + 1) (sets.length + 1)) (.slice (some ⟨n3 + 1 + 1 + 1, 0, none⟩) 1 1)) 101 true)
    have k9 := k8.set (x := o) (.cells (chC pt pv pr pg pe pc g gd em co (.slice (some ⟨n3 + 1, 0, none⟩) (sets.length + 1) (sets.length + 1)) (.slice (some ⟨n3 + 1 + 1 + 1, 0, none⟩) 1 1)) 101 true) (.inl (.inl rfl)) (by omega)
    have nF := fun z (hz : z ≠ o) => hset_ne HE o (.cells (chC pt pv pr pg pe pc g gd em co (.slice (some ⟨n3 + 1, 0, none⟩) (sets.length + 1) (sets.length + 1)) (.slice (some ⟨n3 + 1 + 1 + 1, 0, none⟩) 1 1)) 101 true) hz
    generalize hF : hset HE o (.cells (chC pt pv pr pg pe pc g gd em co (.slice (some ⟨n3 + 1, 0, none⟩) (sets.length + 1) (sets.length + 1)) (.slice (some ⟨n3 + 1 + 1 + 1, 0, none⟩) 1 1)) 101 true) = HF at *
    (refine WK.rgl [(8, 12)] (by kernel_rfl) ?_; simp only [wl, wl1_false, wl1_true, wl2_none, wl2_some, wl3_some, wl3_none, SS, forall_const, wx, tguard, acallee, top, tval, fput, tor, vsh, vbin, vun, tload, tload2, tload3, tstore, tstore2, tstore3, Go.AM.splice, one, tidx, tidx2, tidx3, tfa, tfa2, tlen2, tlen3, tpick, textr, talloc, still, still1, flat1, tbuild, afill, tbs, tbs2, tap, tap2, tap3, tap4, tsrc, tsrc2, simprocAttr, -Int.reduceOfNat, -List.reduceReplicate, f0, f1, f5, b3', e1, e2, e3, e4, e5, e6, hA, bA, ho3, oA, ch6, ch7, yA, hyl, v1, v2, hB1, hB, bB, oB, hC, oC, bC, u1, u2, u3, u4, u5, List.drop_zero, aop_nc, tnc, oD, hD, chl7, chl8, chs6, chs7, hE, oE, hF, ff_39])
    refine ⟨light_cons rfl rfl (lapart_wr (by simp; omega)) light_nil, ?_⟩
    repeat (first | refine qqm rfl ?_ | ((first | refine qqr ?_ | refine qqt ?_); simp only [SS, qx12, vun, simprocAttr, -Int.reduceOfNat, -List.reduceReplicate, f0, oF, ch6, aop_nc, tnc, hsub2, ff_39]))
    refine AtCall.byX (push_fin (m := n) (q := n3 + 1) (x' := n3 + 1 + 1 + 1) (y := y) (x := x) (w' := [t]) st hso hw3 hS3 (by omega) hoN hk.2 hLok ha hsr3 hyl hN hmo hlv3 (by omega) k9 hPk oF ((nF _ (by omega)).trans ((nE _ (by omega)).trans qD)) (.inr ⟨1, _, rfl, by omega, (nF _ (by omega)).trans ((nE _ (by omega)).trans bD), by simp, rfl⟩) (by omega)) ?_
    rintro wq n4 H4 kx4 ⟨rc4, hc4⟩
    simp only [SS, qx12, vun, simprocAttr, -Int.reduceOfNat, -List.reduceReplicate, ff_39]
    repeat (first | refine qqm rfl ?_ | ((first | refine qqr ?_ | refine qqt ?_); simp only [SS, qx12, vun, simprocAttr, -Int.reduceOfNat, -List.reduceReplicate, ff_39]))
    have kxA : Kx (fun z => z = o ∨ N ≤ z) n H n4 H4 := ((kx.mono fun z _ h => .inr h).trans (k9.mono fun z _ h => (hPk z h).2.1)).trans (kx4.mono fun z _ h => .inr h)
    (first | refine WK.retNil ⟨Or.inr rfl, _, rfl, ?_, ?_⟩ | refine WK.skipNil ⟨Or.inl rfl, _, rfl, ?_, ?_⟩)
    ·exact kxA.keep
    ·simp only [packed, fset_apply, Nat.reduceEqDiff, ↓reduceIte, List.getD_cons_zero, List.getD_cons_succ, ff_39]
     rw [hps2]
     exact ⟨rfl, ⟨rcF.1.trans rc4.1, fun z cs ty own hp e => rc4.2 z cs ty own hp (rcF.2 z cs ty own id e)⟩, n3 + 1, n3 + 1 + 1 + 1, hc4, .inr (by omega), .inr (by omega)⟩
   ·have hxy : x ≠ y := by rintro rfl; rw [hy3] at hx3; cases hx3
    have hxn3 : x < n3 := Classical.byContradiction fun hc => by rw [hw3 x (by omega)] at hx3; cases hx3
    have xC : HC x = .cells cx 3 true := ((kC.keep x (by omega)).trans ((kB.keep x (by omega)).trans ((hB1 ▸ hset_ne HA y .dead hxy).trans ((kA.keep x hxn3))))).trans hx3
    have z1 : w.length + 1 ≤ bigN := by unfold bigN; omega
    have z2 : [n3 + 1 + 1].contains x = false := by simp; omega
    have oD1 := (hset_ne HC x .dead (x := o) (by omega)).trans oC
    have qD1 := (hset_ne HC x .dead (x := n3 + 1) (by omega)).trans qC
    have k61 := k6.set (x := x) .dead (.inl (.inr (.inr ⟨rfl, hxN, _, hx3⟩))) (by omega)
    generalize hD1 : hset HC x .dead = HD1 at *
    have kD := Kp.new (n3 + 1 + 1 + 1) HD1 (.cells (w.map (.int .i64) ++ [.int .i64 t]) 3 true)
    have bD := hset_at HD1 (n3 + 1 + 1 + 1) (.cells (w.map (.int .i64) ++ [.int .i64 t]) 3 true)
    have oD := (kD.keep o (by omega)).trans oD1
    have qD := (kD.keep (n3 + 1) (by omega)).trans qD1
    have k7 := k61.trans kD.kx
    generalize hD : hset HD1 (n3 + 1 + 1 + 1) (.cells (w.map (.int .i64) ++ [.int .i64 t]) 3 true) = HD at *
    have oE := hset_at HD o (.cells (chC pt pv pr pg pe pc g gd em co (.slice (some ⟨n3 + 1, 0, none⟩) (sets.length + 1) (sets.length + 1)) (.slice (some ⟨x, 0, none⟩) w.length cw)) 101 true)
    have k8 := k7.set (x := o) (.cells (chC pt pv pr pg pe pc g gd em co (.slice (some ⟨n3 + 1, 0, none⟩) (sets.length + 1) (sets.length + 1)) (.slice (some ⟨x, 0, none⟩) w.length cw)) 101 true) (.inl (.inl rfl)) (by omega)
    have nE := fun z (hz : z ≠ o) => hset_ne HD o (.cells (chC pt pv pr pg pe pc g gd em co (.slice (some ⟨n3 + 1, 0, none⟩) (sets.length + 1) (sets.length + 1)) (.slice (some ⟨x, 0, none⟩) w.length cw)) 101 true) hz
    generalize hE : hset HD o (.cells (chC pt pv pr pg pe pc g gd em co (.slice (some ⟨n3 + 1, 0, none⟩) (sets.length + 1) (sets.length + 1)) (.slice (some ⟨x, 0, none⟩) w.length cw)) 101 true) = HE at *
    have oF := hset_at HE o (.cells (chC pt pv pr pg pe pc g gd em co (.slice (some ⟨n3 + 1, 0, none⟩) (sets.length + 1) (sets.length + 1)) (.slice (some ⟨n3 + 1 + 1 + 1, 0, none⟩) (w.length + 1) (w.length + 1))) 101 true)
    have k9 := k8.set (x := o) (.cells (chC pt pv pr pg pe pc g gd em co (.slice (some ⟨n3 + 1, 0, none⟩) (sets.length + 1) (sets.length + 1)) (.slice (some ⟨n3 + 1 + 1 + 1, 0, none⟩) (w.length + 1) (w.length + 1))) 101 true) (.inl (.inl rfl)) (by omega)
    have nF := fun z (hz : z ≠ o) => hset_ne HE o (.cells (chC pt pv pr pg pe pc g gd em co (.slice (some ⟨n3 + 1, 0, none⟩) (sets.length + 1) (sets.length + 1)) (.slice (some ⟨n3 + 1 + 1 + 1, 0, none⟩) (w.length + 1) (w.length + 1))) 101 true) hz
    generalize hF : hset HE o (.cells (chC pt pv pr pg pe pc g gd em co (.slice (some ⟨n3 + 1, 0, none⟩) (sets.length + 1) (sets.length + 1)) (.slice (some ⟨n3 + 1 + 1 + 1, 0, none⟩) (w.length + 1) (w.length + 1))) 101 true) = HF at *
    (refine WK.rgl [(8, 12)] (by kernel_rfl) ?_; simp only [wl, wl1_false, wl1_true, wl2_none, wl2_some, wl3_some, wl3_none, SS, forall_const, wx, tguard, acallee, top, tval, fput, tor, vsh, vbin, vun, tload, tload2, tload3, tstore, tstore2, tstore3, Go.AM.splice, one, tidx, tidx2, tidx3, tfa, tfa2, tlen2, tlen3, tpick, textr, talloc, still, still1, flat1, tbuild, afill, tbs, tbs2, tap, tap2, tap3, tap4, tsrc, tsrc2, simprocAttr, -Int.reduceOfNat, -List.reduceReplicate, f0, f1, f5, b3', e1, e2, e3, e4, e5, e6, hA, bA, ho3, oA, ch6, ch7, yA, hyl, v1, v2, hB1, hB, bB, oB, hC, oC, bC, u1, u2, u3, u4, u5, List.drop_zero, aop_nc, tnc, xC, hxl, hxt, z1, z2, hD1, oD, hD, chl7, chl8, chs6, chs7, hE, oE, hF, ff_39])
    refine ⟨light_cons rfl rfl (lapart_wr (by simp; omega)) light_nil, ?_⟩
    repeat (first | refine qqm rfl ?_ | ((first | refine qqr ?_ | refine qqt ?_); simp only [SS, qx12, vun, simprocAttr, -Int.reduceOfNat, -List.reduceReplicate, f0, oF, ch6, aop_nc, tnc, hsub2, ff_39]))
    refine AtCall.byX (push_fin (m := n) (q := n3 + 1) (x' := n3 + 1 + 1 + 1) (y := y) (x := x) (w' := w ++ [t]) st hso hw3 hS3 (by omega) hoN hk.2 hLok ha hsr3 hyl hN hmo hlv3 (by omega) k9 hPk oF ((nF _ (by omega)).trans ((nE _ (by omega)).trans qD)) (.inr ⟨w.length + 1, _, by rw [List.length_append]; rfl, by omega, (nF _ (by omega)).trans ((nE _ (by omega)).trans bD), by simp, by rw [List.take_of_length_le (by simp)]; simp⟩) (by omega)) ?_
    rintro wq n4 H4 kx4 ⟨rc4, hc4⟩
    simp only [SS, qx12, vun, simprocAttr, -Int.reduceOfNat, -List.reduceReplicate, ff_39]
    repeat (first | refine qqm rfl ?_ | ((first | refine qqr ?_ | refine qqt ?_); simp only [SS, qx12, vun, simprocAttr, -Int.reduceOfNat, -List.reduceReplicate, ff_39]))
    have kxA : Kx (fun z => z = o ∨ N ≤ z) n H n4 H4 := ((kx.mono fun z _ h => .inr h).trans (k9.mono fun z _ h => (hPk z h).2.1)).trans (kx4.mono fun z _ h => .inr h)
    (first | refine WK.retNil ⟨Or.inr rfl, _, rfl, ?_, ?_⟩ | refine WK.skipNil ⟨Or.inl rfl, _, rfl, ?_, ?_⟩)
    ·exact kxA.keep
    ·simp only [packed, fset_apply, Nat.reduceEqDiff, ↓reduceIte, List.getD_cons_zero, List.getD_cons_succ, ff_39]
     rw [hps2]
     exact ⟨rfl, ⟨rcF.1.trans rc4.1, fun z cs ty own hp e => rc4.2 z cs ty own hp (rcF.2 z cs ty own id e)⟩, n3 + 1, n3 + 1 + 1 + 1, hc4, .inr (by omega), .inr (by omega)⟩
end Go.Proofs.Ytemkglelfeidhaa

namespace Go.Proofs.Ytemkglelfeidhaa
open Go.AM Go.RowKit
set_option maxRecDepth 100000
set_option maxHeartbeats 4000000 in
theorem good1_gives {H : Heap} {n x y : Nat} {s : Int} {hs : List Bool} (hy : H y = .cells [.slice (some ⟨x, 0, none⟩) hs.length hs.length] 97 true) (hx : H x = .cells (hs.map .bool) 4 true) (hs' : s < hs.length) :
  Gives Try.prog 62 [.int .i64 s, .pointer (some ⟨y, 0, none⟩)] n H fun v _ _ => v = .bool (!(decide (s < 0) || hs.getD s.toNat false)) := by
 refine Gives.of orders ok62 (Nat.le_of_ble_eq_true rfl) ?_
 repeat refine qqn rfl ?_
 repeat (first | refine qqm rfl ?_ | ((first | refine qqr ?_ | refine qqt ?_); simp only [SS, qx45, vun, simprocAttr, ff_62]))
 refine AtCall.by (isVar_gives _ _ _) ?_
 rintro v n2 H2 hk2 ⟨rfl, rfl, rfl⟩
 by_cases h0 : 0 ≤ s
 ·obtain ⟨j, rfl⟩ := Int.eq_ofNat_of_zero_le h0
  have hj : j < hs.length := by omega
  have hg : (hs.map Value.bool)[j]? = some (.bool hs[j]) := by rw [List.getElem?_map, List.getElem?_eq_getElem hj]; rfl
  simp only [SS, qx45, vun, simprocAttr, hy, hx, h0, hj, hg, ff_62]
  repeat (first | refine qqm rfl ?_ | ((first | refine qqr ?_ | refine qqt ?_); simp only [SS, qx45, vun, simprocAttr, ff_62]))
  (first | refine WK.retNil ⟨Or.inr rfl, _, rfl, ?_, ?_⟩ | refine WK.skipNil ⟨Or.inl rfl, _, rfl, ?_, ?_⟩)
  ·exact fun _ _ => rfl
  ·simp only [packed, fset_apply, Nat.reduceEqDiff, ↓reduceIte, List.getD_cons_zero, List.getD_cons_succ, ff_62]
   have : ¬ ((j : Int) < 0) := by omega
   simp [this, hj]
 ·simp only [SS, qx45, vun, simprocAttr, h0, ff_62]
  repeat (first | refine qqm rfl ?_ | ((first | refine qqr ?_ | refine qqt ?_); simp only [SS, qx45, vun, simprocAttr, ff_62]))
  (first | refine WK.retNil ⟨Or.inr rfl, _, rfl, ?_, ?_⟩ | refine WK.skipNil ⟨Or.inl rfl, _, rfl, ?_, ?_⟩)
  ·exact fun _ _ => rfl
  ·simp only [packed, fset_apply, Nat.reduceEqDiff, ↓reduceIte, List.getD_cons_zero, List.getD_cons_succ, ff_62]
   have : s < 0 := by omega
   simp [this]
set_option maxHeartbeats 4000000 in
theorem index_gives {F n : Nat} {H : Heap} {captured : List Value} {p : Int → Bool} {l : List Int} {a : Option Addr} (hl : l.length ≤ maxL) (hw : WF n H) (ha : RA (Value.int .i64) H a l)
  (hp : ∀ s ∈ l, ∀ n1 H1, Kp n H n1 H1 → Gives Try.prog F (.int .i64 s :: captured) n1 H1 fun v _ _ => v = .bool (p s)) :
  Gives Try.prog 80 [.slice a l.length l.length, .func (.func F) #[] captured.toArray] n H fun v _ _ => ∃ i : Int, v = .int .i64 i ∧ (0 ≤ i ↔ l.any p = true) := by
 refine Gives.of orders ok80 (Nat.le_of_ble_eq_true rfl) ?_
 unfold maxL at hl
 repeat refine qqn rfl ?_
 repeat (first | refine qqm rfl ?_ | ((first | refine qqr ?_ | refine qqt ?_); simp only [SS, qx20, simprocAttr, ff_80]))
 refine WK.loop (fun k s => ∃ j : Nat, Kp n H s.n s.H ∧ s.f 0 = .slice a l.length l.length ∧ s.f 1 = .func (.func F) #[] captured.toArray ∧ s.f 7 = .int .i64 (l.length : Nat) ∧ s.f 8 = .int .i64 (j : Nat) ∧ j ≤ l.length ∧ (l.take j).any p = false ∧ k = l.length - j) l.length ?_ ?_
 ·exact ⟨0, .refl n H, rfl, rfl, rfl, rfl, Nat.zero_le _, rfl, rfl⟩
 rintro kk ⟨f, n1, H1⟩ ⟨j, hk, f0, f1, f7, f8, hj, hn, rfl⟩ ih
 simp only at f0 f1 f7 f8 hk ih
 by_cases hlt : j < l.length
 ·obtain ⟨z, kz, ds, tz, oz, rfl, hz, e⟩ := (ha.mono hw hk).at hlt
  have htj : l.take (j + 1) = l.take j ++ [l[j]] := List.take_succ_eq_append_getElem hlt
  repeat (first | refine qqm rfl ?_ | ((first | refine qqr ?_ | refine qqt ?_); simp only [SS, qx20, simprocAttr, f0, f1, f7, f8, hlt, hz, e, ff_80]))
  refine AtCall.by (hp _ (List.getElem_mem hlt) n1 H1 hk) ?_
  rintro v n2 H2 hk2 rfl
  cases hb : p l[j] with
  | true =>
   simp only [SS, qx20, simprocAttr, ff_80]
   repeat (first | refine qqm rfl ?_ | ((first | refine qqr ?_ | refine qqt ?_); simp only [SS, qx20, simprocAttr, ff_80]))
   (first | refine WK.retNil ⟨Or.inr rfl, _, rfl, ?_, ?_⟩ | refine WK.skipNil ⟨Or.inl rfl, _, rfl, ?_, ?_⟩)
   ·exact (hk.trans hk2).keep
   ·simp only [packed, fset_apply, Nat.reduceEqDiff, ↓reduceIte, List.getD_cons_zero, List.getD_cons_succ, ff_80]
    exact ⟨_, rfl, fun _ => List.any_eq_true.2 ⟨_, List.getElem_mem hlt, hb⟩, fun _ => by omega⟩
  | false =>
   simp only [SS, qx20, simprocAttr, ff_80]
   repeat (first | refine qqm rfl ?_ | ((first | refine qqr ?_ | refine qqt ?_); simp only [SS, qx20, simprocAttr, f8, ff_80]))
   refine ih (l.length - (j + 1)) (by omega) _ ⟨j + 1, hk.trans hk2, f0, f1, f7, ?_, hlt, ?_, rfl⟩
   ·simp only [packed, fset_apply, Nat.reduceEqDiff, ↓reduceIte, List.getD_cons_zero, List.getD_cons_succ, f8, ff_80]
    rw [wrap_in (by omega) (by omega)]; rfl
   ·rw [htj, List.any_append, hn]; simp [hb]
 ·repeat (first | refine qqm rfl ?_ | ((first | refine qqr ?_ | refine qqt ?_); simp only [SS, qx20, simprocAttr, f0, f1, f7, f8, hlt, ff_80]))
  (first | refine WK.retNil ⟨Or.inr rfl, _, rfl, ?_, ?_⟩ | refine WK.skipNil ⟨Or.inl rfl, _, rfl, ?_, ?_⟩)
  ·exact hk.keep
  ·simp only [packed, fset_apply, Nat.reduceEqDiff, ↓reduceIte, List.getD_cons_zero, List.getD_cons_succ, ff_80]
   rw [List.take_of_length_le (by omega)] at hn
   exact ⟨-1, rfl, fun h => absurd h (by omega), fun h => by rw [hn] at h; cases h⟩
set_option maxHeartbeats 4000000 in
theorem contains_gives {F n : Nat} {H : Heap} {captured : List Value} {p : Int → Bool} {l : List Int} {a : Option Addr} (hl : l.length ≤ maxL) (hw : WF n H) (ha : RA (Value.int .i64) H a l)
  (hp : ∀ s ∈ l, ∀ n1 H1, Kp n H n1 H1 → Gives Try.prog F (.int .i64 s :: captured) n1 H1 fun v _ _ => v = .bool (p s)) :
  Gives Try.prog 61 [.slice a l.length l.length, .func (.func F) #[] captured.toArray] n H fun v _ _ => v = .bool (l.any p) := by
 refine Gives.of orders ok61 (Nat.le_of_ble_eq_true rfl) ?_
 repeat refine qqn rfl ?_
 repeat (first | refine qqm rfl ?_ | ((first | refine qqr ?_ | refine qqt ?_); simp only [SS, qx21, simprocAttr]))
 refine AtCall.by (index_gives hl hw ha hp) ?_
 rintro v n2 H2 hk2 ⟨i, rfl, hi⟩
 simp only [SS, qx21, simprocAttr]
 repeat (first | refine qqm rfl ?_ | ((first | refine qqr ?_ | refine qqt ?_); simp only [SS, qx21, simprocAttr]))
 (first | refine WK.retNil ⟨Or.inr rfl, _, rfl, ?_, ?_⟩ | refine WK.skipNil ⟨Or.inl rfl, _, rfl, ?_, ?_⟩)
 ·exact hk2.keep
 ·simp only [packed, fset_apply, Nat.reduceEqDiff, ↓reduceIte, List.getD_cons_zero, List.getD_cons_succ]
  cases hb : l.any p with
  | true => rw [hb] at hi; simp [hi.2 rfl]
  | false => rw [hb] at hi; simp at hi; simp; omega
end Go.Proofs.Ytemkglelfeidhaa
