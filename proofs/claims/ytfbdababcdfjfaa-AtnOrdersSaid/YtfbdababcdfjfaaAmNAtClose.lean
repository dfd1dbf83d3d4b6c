/- A part of a proof. Its conditions: none. -/
import Derived.Test.YtfbdababcdfjfaaAmNAtClo
import Derived.Test.YtfbdababcdfjfaaAmNAtDel2
set_option linter.all false
namespace Go.Proofs.Ytfbdababcdfjfaa
open Go.AM
set_option maxRecDepth 100000
set_option maxHeartbeats 16000000 in
theorem close_gives {nn n cc deep most : Nat} {H : Heap} {p : Option Addr} {L : List CA} {pt pv pr : Option Addr} {g : Gram} {cl : List (Option Addr × List (Int × Int))} (hw : WF n H) (ne : NE H nn pt pv pr g cc cl) (ok : RightOK g) (hgl : g.terms.length ≤ 64 ∧ g.vars.length ≤ 64)
    (hlen : ∀ r ∈ g.rules, r.right.length ≤ 24) (hL : RN 4 ccell H p L) (hx : ∀ x ∈ L, XC H x) (hv : ∀ x ∈ L, GC g x.1) (hm : most ≤ 65536) (hdm : deep ≤ 65536) (hl : L.length ≤ 65536) (hxs : ∀ x ∈ L, x.1.stack.length ≤ 65536) :
    Gives Try.prog 13 [.pointer (some ⟨nn, 0, none⟩), .slice p L.length L.length, .int .i64 (deep : Nat), .int .i64 (most : Nat)] n H fun v n' H' => ∃ b S, Clo g (cl.map (·.2)) deep most (L.map (·.1)) b S ∧
      ((b = false ∧ v = .tuple #[.slice none 0 0, .bool false]) ∨ (b = true ∧ Srt S ∧ S.length ≤ most ∧ (∀ x ∈ S, x.1.stack.length ≤ deep) ∧ (∀ x ∈ S, GC g x.1) ∧ ∃ p' R, R = S.filter (fun x => !idle g x.1) ∧ v = .tuple #[.slice p' R.length R.length, .bool true] ∧ RN 4 ccell H' p' R ∧ ∀ x ∈ R, XC H' x)) := by
  have hi := ok.inG
  have hclV : ∀ x ∈ cl.map (·.2), ∀ s ∈ x, VS g s := fun x hx => by
    obtain ⟨y, hy, rfl⟩ := List.mem_map.1 hx
    exact ne.ok y hy
  refine Gives.of orders ok13 (Nat.le_of_ble_eq_true rfl) ?_
  have v1 : ∀ s, vcells (.agg (ccell s).toArray) = ccell s := fun _ => rfl
  have v2 : ∀ s, (ccell s).all one = true := fun _ => rfl
  have v5 : ∀ s, (ccell s).length = 4 := fun _ => rfl
  have v6 : ∀ s, ((ccell s).drop 0).take 4 = ccell s := fun _ => rfl
  have v7 : ∀ a b c d s, AM.splice [a, b, c, d] 0 (ccell s) = ccell s := fun _ _ _ _ _ => rfl
  have k1 := Kp.new n H (.cells [.pointer (some ⟨nn, 0, none⟩)] 29 true)
  have hb := hset_at H n (.cells [.pointer (some ⟨nn, 0, none⟩)] 29 true)
  repeat (first | apply WK.seq | apply WK.block | apply WK.skipSeq | apply WK.skipBlock | apply WK.retSeq | apply WK.retBlock | apply WK.exitSeq | apply WK.exitHere | refine WK.exitOn rfl ?_)
  (refine WK.rgn ?_ ?_; kernel_rfl; simp (config := { maxSteps := 1000000 }) only [SS, forall_const, wx, tguard, acallee, top, tval, fput, tor, vsh, vbin, vun, tload, tload2, tload3, tstore, tstore2, tstore3, Go.AM.splice, one, tidx, tidx2, tidx3, tfa, tfa2, tlen2, tlen3, tbox, talloc, still, still1, flat1, tbuild, afill, tsl, tsl2, tsl3, tsl4, tsl5, Go.AM.bound, Int.reduceEq, Int.reduceNeg, Nat.reduceGT, Nat.reduceLT, Nat.reduceLeDiff, Nat.reduceEqDiff, ↓reduceIte, reduceCtorEq, Int.reduceToNat, Int.reduceLE, Int.reduceLT, Nat.reduceAdd, Nat.reduceMul, abox, ff_13])
  generalize hset H n (.cells [.pointer (some ⟨nn, 0, none⟩)] 29 true) = H1 at *
  have hw1 := k1.wf hw
  have ne1 := ne.mono hw k1
  have hL1 := hL.mono hw k1
  have hx1 : ∀ x ∈ L, XC H1 x := fun x h => (hx x h).keep (Kp.spk hw k1)
  clear hL hx ne
  repeat (first | apply WK.seq | apply WK.block | apply WK.skipSeq | apply WK.skipBlock | apply WK.retSeq | apply WK.retBlock | apply WK.exitSeq | apply WK.exitHere | refine WK.exitOn rfl ?_)
  (refine WK.rgn ?_ ?_; kernel_rfl; simp (config := { maxSteps := 1000000 }) only [SS, forall_const, wx, tguard, acallee, top, tval, fput, tor, vsh, vbin, vun, tload, tload2, tload3, tstore, tstore2, tstore3, Go.AM.splice, one, tidx, tidx2, tidx3, tfa, tfa2, tlen2, tlen3, tbox, talloc, still, still1, flat1, tbuild, afill, tsl, tsl2, tsl3, tsl4, tsl5, Go.AM.bound, Int.reduceEq, Int.reduceNeg, Nat.reduceGT, Nat.reduceLT, Nat.reduceLeDiff, Nat.reduceEqDiff, ↓reduceIte, reduceCtorEq, Int.reduceToNat, Int.reduceLE, Int.reduceLT, Nat.reduceAdd, Nat.reduceMul, hb, abox, ff_13])
  have k2 := Kp.new (n + 1) H1 (.cells [.pointer (some ⟨nn, 0, none⟩), .slice none 0 0, .slice none 0 0, .int .i64 (deep : Nat), .int .i64 (most : Nat)] 92 true)
  have ho := hset_at H1 (n + 1) (.cells [.pointer (some ⟨nn, 0, none⟩), .slice none 0 0, .slice none 0 0, .int .i64 (deep : Nat), .int .i64 (most : Nat)] 92 true)
  generalize hset H1 (n + 1) (.cells [.pointer (some ⟨nn, 0, none⟩), .slice none 0 0, .slice none 0 0, .int .i64 (deep : Nat), .int .i64 (most : Nat)] 92 true) = H2 at *
  have hco : CO H2 (n + 1) (n + 1) nn 0 [] [] (.slice none 0 0) deep most := ⟨ho, Nat.le_refl _, OC.nil, fun h => absurd rfl h, .inl ⟨rfl, rfl⟩, fun h => absurd rfl h, fun x hx => by simp at hx, List.Pairwise.nil, Nat.zero_le _, Nat.le_refl _, fun x hx => by simp at hx⟩
  repeat (first | apply WK.seq | apply WK.block | apply WK.skipSeq | apply WK.skipBlock | apply WK.retSeq | apply WK.retBlock | apply WK.exitSeq | apply WK.exitHere | refine WK.exitOn rfl ?_ | ((first | (refine WK.rgn ?_ ?_; kernel_rfl) | refine AtCall.now ?_); simp (config := { maxSteps := 1000000 }) only [SS, forall_const, wx, tguard, acallee, top, tval, fput, tor, vsh, vbin, vun, tload, tload2, tload3, tstore, tstore2, tstore3, Go.AM.splice, one, tidx, tidx2, tidx3, tfa, tfa2, tlen2, tlen3, tbox, talloc, still, still1, flat1, tbuild, afill, tsl, tsl2, tsl3, tsl4, tsl5, Go.AM.bound, Int.reduceEq, Int.reduceNeg, Nat.reduceGT, Nat.reduceLT, Nat.reduceLeDiff, Nat.reduceEqDiff, ↓reduceIte, reduceCtorEq, Int.reduceToNat, Int.reduceLE, Int.reduceLT, Nat.reduceAdd, Nat.reduceMul, ff_13]) | (refine WK.condT ?_ ?_; focus (simp only [ev_tmp, ev_const, fset_apply, Nat.reduceEqDiff, ↓reduceIte, decide_true, decide_false, ff_13]; done)) | (refine WK.condF ?_ ?_; focus (simp only [ev_tmp, ev_const, fset_apply, Nat.reduceEqDiff, ↓reduceIte, decide_true, decide_false, ff_13]; done)))
  refine WK.loop (fun kk s => ∃ (i : Nat) (S T : List CA) (ys : Nat) (vt : Value), Kx (fun z => n + 1 ≤ z) (n + 1) H1 s.n s.H ∧ CO s.H (n + 1) (n + 1) nn ys S T vt deep most ∧ Comes deep most [] [] ((L.take i).map (·.1)) true S T ∧
    s.f 4 = .pointer (some ⟨n, 0, none⟩) ∧ s.f 10 = .pointer (some ⟨n + 1, 0, none⟩) ∧ s.f 19 = .slice p L.length L.length ∧ s.f 20 = .int .i64 (L.length : Nat) ∧ s.f 21 = .int .i64 (i : Nat) ∧ i ≤ L.length ∧ kk = L.length - i) L.length ?_ ?_
  · exact ⟨0, [], [], 0, _, k2.kx, hco, .nil _ _, rfl, rfl, rfl, rfl, rfl, Nat.zero_le _, rfl⟩
  clear hco ho k2 H2
  rintro kk ⟨f, n2, H2⟩ ⟨i, S, T, ys, vt, k2, hc, hcs, f4, f10, f19, f20, f21, hiL, rfl⟩ ih
  simp only at k2 hc f4 f10 f19 f20 f21 ih
  have k02 : Kp (n + 1) H1 n2 H2 := k2.kp fun q h1 h2 => by omega
  have hw2 := k02.wf hw1
  have hle2 := k02.le
  by_cases hlt : i < L.length
  · have hiw : IntKind.i64.wrap ((i : Int) + 1) = ((i + 1 : Nat) : Int) := by rw [wrap_in (by omega) (by omega)]; rfl
    have hL2 := hL1.mono hw1 k02
    obtain ⟨z, kz, cs, tz, oz, hp, hz, ez, lz⟩ := hL2.at ccell_len hlt
    rw [hp] at f19
    have hmem := List.getElem_mem hlt
    have htk : L.take (i + 1) = L.take i ++ [L[i]] := List.take_succ_eq_append_getElem hlt
    have hxx := (hx1 _ hmem).keep (Kp.spk hw1 k02)
    have hxl := hxs _ hmem
    generalize L[i] = x at *
    have k3 := Kp.new n2 H2 (.cells (ccell x) 47 true)
    have h3 := hset_at H2 n2 (.cells (ccell x) 47 true)
    repeat (first | apply WK.seq | apply WK.block | apply WK.skipSeq | apply WK.skipBlock | apply WK.retSeq | apply WK.retBlock | apply WK.exitSeq | apply WK.exitHere | refine WK.exitOn rfl ?_)
    (refine WK.rgn ?_ ?_; kernel_rfl; simp (config := { maxSteps := 1000000 }) only [SS, forall_const, wx, tguard, acallee, top, tval, fput, tor, vsh, vbin, vun, tload, tload2, tload3, tstore, tstore2, tstore3, Go.AM.splice, one, tidx, tidx2, tidx3, tfa, tfa2, tlen2, tlen3, tbox, talloc, still, still1, flat1, tbuild, afill, tsl, tsl2, tsl3, tsl4, tsl5, Go.AM.bound, Int.reduceEq, Int.reduceNeg, Nat.reduceGT, Nat.reduceLT, Nat.reduceLeDiff, Nat.reduceEqDiff, ↓reduceIte, reduceCtorEq, Int.reduceToNat, Int.reduceLE, Int.reduceLT, Nat.reduceAdd, Nat.reduceMul, f20, f21, hlt, ff_13])
    repeat (first | apply WK.seq | apply WK.block | apply WK.skipSeq | apply WK.skipBlock | apply WK.retSeq | apply WK.retBlock | apply WK.exitSeq | apply WK.exitHere | refine WK.exitOn rfl ?_)
    first | (refine WK.condT ?_ ?_; focus (simp only [ev_tmp, ev_const, fset_apply, Nat.reduceEqDiff, ↓reduceIte, decide_true, decide_false]; done)) | (refine WK.condF ?_ ?_; focus (simp only [ev_tmp, ev_const, fset_apply, Nat.reduceEqDiff, ↓reduceIte, decide_true, decide_false]; done))
    repeat (first | apply WK.seq | apply WK.block | apply WK.skipSeq | apply WK.skipBlock | apply WK.retSeq | apply WK.retBlock | apply WK.exitSeq | apply WK.exitHere | refine WK.exitOn rfl ?_)
    (refine WK.rgn ?_ ?_; kernel_rfl; simp (config := { maxSteps := 1000000 }) only [SS, forall_const, wx, tguard, acallee, top, tval, fput, tor, vsh, vbin, vun, tload, tload2, tload3, tstore, tstore2, tstore3, Go.AM.splice, one, tidx, tidx2, tidx3, tfa, tfa2, tlen2, tlen3, tbox, talloc, still, still1, flat1, tbuild, afill, tsl, tsl2, tsl3, tsl4, tsl5, Go.AM.bound, Int.reduceEq, Int.reduceNeg, Nat.reduceGT, Nat.reduceLT, Nat.reduceLeDiff, Nat.reduceEqDiff, ↓reduceIte, reduceCtorEq, Int.reduceToNat, Int.reduceLE, Int.reduceLT, Nat.reduceAdd, Nat.reduceMul, f19, f21, hlt, hz, ez, lz, v1, v2, v5, v7, ff_13])
    generalize hset H2 n2 (.cells (ccell x) 47 true) = H3 at *
    have hw3 := k3.wf hw2
    have hcm := come_gives (x := x) hw3 (hc.kp hw2 k3) (hxx.keep (Kp.spk hw2 k3)) (by omega) hm hdm (by omega)
    repeat (first | apply WK.seq | apply WK.block | apply WK.skipSeq | apply WK.skipBlock | apply WK.retSeq | apply WK.retBlock | apply WK.exitSeq | apply WK.exitHere | refine WK.exitOn rfl ?_ | ((first | (refine WK.rgn ?_ ?_; kernel_rfl) | refine AtCall.now ?_); simp (config := { maxSteps := 1000000 }) only [SS, forall_const, wx, tguard, acallee, top, tval, fput, tor, vsh, vbin, vun, tload, tload2, tload3, tstore, tstore2, tstore3, Go.AM.splice, one, tidx, tidx2, tidx3, tfa, tfa2, tlen2, tlen3, tbox, talloc, still, still1, flat1, tbuild, afill, tsl, tsl2, tsl3, tsl4, tsl5, Go.AM.bound, Int.reduceEq, Int.reduceNeg, Nat.reduceGT, Nat.reduceLT, Nat.reduceLeDiff, Nat.reduceEqDiff, ↓reduceIte, reduceCtorEq, Int.reduceToNat, Int.reduceLE, Int.reduceLT, Nat.reduceAdd, Nat.reduceMul, f10, h3, v5, v6, ff_13]) | (refine WK.condT ?_ ?_; focus (simp only [ev_tmp, ev_const, fset_apply, Nat.reduceEqDiff, ↓reduceIte, decide_true, decide_false, f10, h3, v5, v6, ff_13]; done)) | (refine WK.condF ?_ ?_; focus (simp only [ev_tmp, ev_const, fset_apply, Nat.reduceEqDiff, ↓reduceIte, decide_true, decide_false, f10, h3, v5, v6, ff_13]; done)))
    refine AtCall.byX hcm ?_
    rintro v n4 H4 k4 ⟨sp4, _, hres⟩
    rcases hres with ⟨rfl, hbad⟩ | ⟨rfl, ys', S', T', vt', hco, haw, hcome⟩
    · simp (config := { maxSteps := 1000000 }) only [SS, forall_const, wx, tguard, acallee, top, tval, fput, tor, vsh, vbin, vun, tload, tload2, tload3, tstore, tstore2, tstore3, Go.AM.splice, one, tidx, tidx2, tidx3, tfa, tfa2, tlen2, tlen3, tbox, talloc, still, still1, flat1, tbuild, afill, tsl, tsl2, tsl3, tsl4, tsl5, Go.AM.bound, Int.reduceEq, Int.reduceNeg, Nat.reduceGT, Nat.reduceLT, Nat.reduceLeDiff, Nat.reduceEqDiff, ↓reduceIte, reduceCtorEq, Int.reduceToNat, Int.reduceLE, Int.reduceLT, Nat.reduceAdd, Nat.reduceMul, Bool.not_false, ff_13]
      repeat (first | apply WK.seq | apply WK.block | apply WK.skipSeq | apply WK.skipBlock | apply WK.retSeq | apply WK.retBlock | apply WK.exitSeq | apply WK.exitHere | refine WK.exitOn rfl ?_ | ((first | (refine WK.rgn ?_ ?_; kernel_rfl) | refine AtCall.now ?_); simp (config := { maxSteps := 1000000 }) only [SS, forall_const, wx, tguard, acallee, top, tval, fput, tor, vsh, vbin, vun, tload, tload2, tload3, tstore, tstore2, tstore3, Go.AM.splice, one, tidx, tidx2, tidx3, tfa, tfa2, tlen2, tlen3, tbox, talloc, still, still1, flat1, tbuild, afill, tsl, tsl2, tsl3, tsl4, tsl5, Go.AM.bound, Int.reduceEq, Int.reduceNeg, Nat.reduceGT, Nat.reduceLT, Nat.reduceLeDiff, Nat.reduceEqDiff, ↓reduceIte, reduceCtorEq, Int.reduceToNat, Int.reduceLE, Int.reduceLT, Nat.reduceAdd, Nat.reduceMul, ff_13]) | (refine WK.condT ?_ ?_; focus (simp only [ev_tmp, ev_const, fset_apply, Nat.reduceEqDiff, ↓reduceIte, decide_true, decide_false, ff_13]; done)) | (refine WK.condF ?_ ?_; focus (simp only [ev_tmp, ev_const, fset_apply, Nat.reduceEqDiff, ↓reduceIte, decide_true, decide_false, ff_13]; done)))
      (first | refine WK.retNil ⟨Or.inr rfl, _, rfl, ?_, ?_⟩ | refine WK.skipNil ⟨Or.inl rfl, _, rfl, ?_, ?_⟩)
      · exact fun z hz => ((k2.trans (k3.kx.trans k4)).keep z (by omega) (by omega)).trans (k1.keep z hz)
      · simp only [packed, fset_apply, Nat.reduceEqDiff, ↓reduceIte, List.getD_cons_zero, List.getD_cons_succ, ff_13]
        refine ⟨false, S, .fail (T := T) ?_, .inl ⟨rfl, trivial⟩⟩
        have hsp : L = L.take i ++ x :: L.drop (i + 1) := by
          conv => lhs; rw [← List.take_append_drop (i + 1) L, htk]
          simp
        rw [hsp, List.map_append]
        exact hcs.app rfl (.fail hbad)
    · simp (config := { maxSteps := 1000000 }) only [SS, forall_const, wx, tguard, acallee, top, tval, fput, tor, vsh, vbin, vun, tload, tload2, tload3, tstore, tstore2, tstore3, Go.AM.splice, one, tidx, tidx2, tidx3, tfa, tfa2, tlen2, tlen3, tbox, talloc, still, still1, flat1, tbuild, afill, tsl, tsl2, tsl3, tsl4, tsl5, Go.AM.bound, Int.reduceEq, Int.reduceNeg, Nat.reduceGT, Nat.reduceLT, Nat.reduceLeDiff, Nat.reduceEqDiff, ↓reduceIte, reduceCtorEq, Int.reduceToNat, Int.reduceLE, Int.reduceLT, Nat.reduceAdd, Nat.reduceMul, Bool.not_true, ff_13]
      repeat (first | apply WK.seq | apply WK.block | apply WK.skipSeq | apply WK.skipBlock | apply WK.retSeq | apply WK.retBlock | apply WK.exitSeq | apply WK.exitHere | refine WK.exitOn rfl ?_ | ((first | (refine WK.rgn ?_ ?_; kernel_rfl) | refine AtCall.now ?_); simp (config := { maxSteps := 1000000 }) only [SS, forall_const, wx, tguard, acallee, top, tval, fput, tor, vsh, vbin, vun, tload, tload2, tload3, tstore, tstore2, tstore3, Go.AM.splice, one, tidx, tidx2, tidx3, tfa, tfa2, tlen2, tlen3, tbox, talloc, still, still1, flat1, tbuild, afill, tsl, tsl2, tsl3, tsl4, tsl5, Go.AM.bound, Int.reduceEq, Int.reduceNeg, Nat.reduceGT, Nat.reduceLT, Nat.reduceLeDiff, Nat.reduceEqDiff, ↓reduceIte, reduceCtorEq, Int.reduceToNat, Int.reduceLE, Int.reduceLT, Nat.reduceAdd, Nat.reduceMul, f21, hiw, ff_13]) | (refine WK.condT ?_ ?_; focus (simp only [ev_tmp, ev_const, fset_apply, Nat.reduceEqDiff, ↓reduceIte, decide_true, decide_false, f21, hiw, ff_13]; done)) | (refine WK.condF ?_ ?_; focus (simp only [ev_tmp, ev_const, fset_apply, Nat.reduceEqDiff, ↓reduceIte, decide_true, decide_false, f21, hiw, ff_13]; done)))
      exact ih (L.length - (i + 1)) (by omega) _ ⟨i + 1, S', T', ys', vt', k2.trans (k3.kx.trans k4), hco, by rw [htk, List.map_append]; exact hcs.app rfl (.cons hcome (.nil _ _)), f4, f10, by rw [hp]; exact f19, f20, rfl, hlt, rfl⟩
  · rw [List.take_of_length_le (by omega)] at hcs
    repeat (first | apply WK.seq | apply WK.block | apply WK.skipSeq | apply WK.skipBlock | apply WK.retSeq | apply WK.retBlock | apply WK.exitSeq | apply WK.exitHere | refine WK.exitOn rfl ?_ | ((first | (refine WK.rgn ?_ ?_; kernel_rfl) | refine AtCall.now ?_); simp (config := { maxSteps := 1000000 }) only [SS, forall_const, wx, tguard, acallee, top, tval, fput, tor, vsh, vbin, vun, tload, tload2, tload3, tstore, tstore2, tstore3, Go.AM.splice, one, tidx, tidx2, tidx3, tfa, tfa2, tlen2, tlen3, tbox, talloc, still, still1, flat1, tbuild, afill, tsl, tsl2, tsl3, tsl4, tsl5, Go.AM.bound, Int.reduceEq, Int.reduceNeg, Nat.reduceGT, Nat.reduceLT, Nat.reduceLeDiff, Nat.reduceEqDiff, ↓reduceIte, reduceCtorEq, Int.reduceToNat, Int.reduceLE, Int.reduceLT, Nat.reduceAdd, Nat.reduceMul, f20, f21, hlt, ff_13]) | (refine WK.condT ?_ ?_; focus (simp only [ev_tmp, ev_const, fset_apply, Nat.reduceEqDiff, ↓reduceIte, decide_true, decide_false, f20, f21, hlt, ff_13]; done)) | (refine WK.condF ?_ ?_; focus (simp only [ev_tmp, ev_const, fset_apply, Nat.reduceEqDiff, ↓reduceIte, decide_true, decide_false, f20, f21, hlt, ff_13]; done)))
    have hGC := hcs.all (P := GC g) (fun y hy => by simp at hy) fun c hc _ => by
      obtain ⟨y, hy, rfl⟩ := List.mem_map.1 hc
      exact hv y hy
    have hGD := hcs.all (P := fun c => c.stack.length ≤ deep) (fun y hy => by simp at hy) fun c hc h => h
    refine WK.loop (fun kk s => ∃ (S T : List CA) (ys : Nat) (vt : Value), Kx (fun z => n + 1 ≤ z) (n + 1) H1 s.n s.H ∧ CO s.H (n + 1) (n + 1) nn ys S T vt deep most ∧ (∀ y ∈ S ++ T, GC g y.1) ∧ (∀ y ∈ S ++ T, y.1.stack.length ≤ deep) ∧
      (∀ b S', Pops g (cl.map (·.2)) deep most S T b S' → Clo g (cl.map (·.2)) deep most (L.map (·.1)) b S') ∧ s.f 4 = .pointer (some ⟨n, 0, none⟩) ∧ s.f 10 = .pointer (some ⟨n + 1, 0, none⟩) ∧ kk = 2 * (most - S.length) + T.length) _ ⟨S, T, ys, vt, k2, hc, hGC, hGD, fun b S' h => .run hcs h, f4, f10, rfl⟩ ?_
    clear k02 k2 hw2 hle2 hGC hGD hcs hc f4 f10 f19 f20 f21 hlt hiL ih
    rintro kk ⟨f', n3, H3⟩ ⟨S, T, ys, vt, k2, hc, hGC, hGD, hpop, f4, f10, rfl⟩ ih
    simp only at k2 hc f4 f10 ih
    have k02 : Kp (n + 1) H1 n3 H3 := k2.kp fun q h1 h2 => by omega
    have hw3 := k02.wf hw1
    have hle3 := k02.le
    have hSm := hc.len
    have hTS := hc.tl
    have hb3 := (k02.keep n (by omega)).trans hb
    rcases List.eq_nil_or_concat T with rfl | ⟨T0, x, rfl⟩
    · have hvt : ∃ pp, vt = .slice pp 0 0 := by
        rcases hc.todo with ⟨e, _⟩ | ⟨yt, cs, e, _⟩
        · exact ⟨_, e⟩
        · exact ⟨_, e⟩
      obtain ⟨pp, rfl⟩ := hvt
      have hobj := hc.obj
      have hdel := delete_gives hw1 k02 ne1 hi hgl hlen (fun x hx => (hGC x (List.mem_append_left _ hx)).1) hb hc.seen hc.sy (by omega)
      have h00 : ((0 : Int) < ((0 : Nat) : Int)) = False := eq_false (by omega)
      repeat (first | apply WK.seq | apply WK.block | apply WK.skipSeq | apply WK.skipBlock | apply WK.retSeq | apply WK.retBlock | apply WK.exitSeq | apply WK.exitHere | refine WK.exitOn rfl ?_ | ((first | (refine WK.rgn ?_ ?_; kernel_rfl) | refine AtCall.now ?_); simp (config := { maxSteps := 1000000 }) only [SS, forall_const, wx, tguard, acallee, top, tval, fput, tor, vsh, vbin, vun, tload, tload2, tload3, tstore, tstore2, tstore3, Go.AM.splice, one, tidx, tidx2, tidx3, tfa, tfa2, tlen2, tlen3, tbox, talloc, still, still1, flat1, tbuild, afill, tsl, tsl2, tsl3, tsl4, tsl5, Go.AM.bound, Int.reduceEq, Int.reduceNeg, Nat.reduceGT, Nat.reduceLT, Nat.reduceLeDiff, Nat.reduceEqDiff, ↓reduceIte, reduceCtorEq, Int.reduceToNat, Int.reduceLE, Int.reduceLT, Nat.reduceAdd, Nat.reduceMul, f4, f10, hobj, h00, aop_nc, tnc, decide_false, ff_13]) | (refine WK.condT ?_ ?_; focus (simp only [ev_tmp, ev_const, fset_apply, Nat.reduceEqDiff, ↓reduceIte, decide_true, decide_false, f4, f10, hobj, h00, aop_nc, tnc, decide_false, ff_13]; done)) | (refine WK.condF ?_ ?_; focus (simp only [ev_tmp, ev_const, fset_apply, Nat.reduceEqDiff, ↓reduceIte, decide_true, decide_false, f4, f10, hobj, h00, aop_nc, tnc, decide_false, ff_13]; done)))
      refine AtCall.byX hdel ?_
      rintro v n4 H4 k4 ⟨sp4, p', R, rfl, hR, hRN⟩
      have hSp := sp4
      simp (config := { maxSteps := 1000000 }) only [SS, forall_const, wx, tguard, acallee, top, tval, fput, tor, vsh, vbin, vun, tload, tload2, tload3, tstore, tstore2, tstore3, Go.AM.splice, one, tidx, tidx2, tidx3, tfa, tfa2, tlen2, tlen3, tbox, talloc, still, still1, flat1, tbuild, afill, tsl, tsl2, tsl3, tsl4, tsl5, Go.AM.bound, Int.reduceEq, Int.reduceNeg, Nat.reduceGT, Nat.reduceLT, Nat.reduceLeDiff, Nat.reduceEqDiff, ↓reduceIte, reduceCtorEq, Int.reduceToNat, Int.reduceLE, Int.reduceLT, Nat.reduceAdd, Nat.reduceMul, ff_13]
      repeat (first | apply WK.seq | apply WK.block | apply WK.skipSeq | apply WK.skipBlock | apply WK.retSeq | apply WK.retBlock | apply WK.exitSeq | apply WK.exitHere | refine WK.exitOn rfl ?_ | ((first | (refine WK.rgn ?_ ?_; kernel_rfl) | refine AtCall.now ?_); simp (config := { maxSteps := 1000000 }) only [SS, forall_const, wx, tguard, acallee, top, tval, fput, tor, vsh, vbin, vun, tload, tload2, tload3, tstore, tstore2, tstore3, Go.AM.splice, one, tidx, tidx2, tidx3, tfa, tfa2, tlen2, tlen3, tbox, talloc, still, still1, flat1, tbuild, afill, tsl, tsl2, tsl3, tsl4, tsl5, Go.AM.bound, Int.reduceEq, Int.reduceNeg, Nat.reduceGT, Nat.reduceLT, Nat.reduceLeDiff, Nat.reduceEqDiff, ↓reduceIte, reduceCtorEq, Int.reduceToNat, Int.reduceLE, Int.reduceLT, Nat.reduceAdd, Nat.reduceMul, ff_13]) | (refine WK.condT ?_ ?_; focus (simp only [ev_tmp, ev_const, fset_apply, Nat.reduceEqDiff, ↓reduceIte, decide_true, decide_false, ff_13]; done)) | (refine WK.condF ?_ ?_; focus (simp only [ev_tmp, ev_const, fset_apply, Nat.reduceEqDiff, ↓reduceIte, decide_true, decide_false, ff_13]; done)))
      (first | refine WK.retNil ⟨Or.inr rfl, _, rfl, ?_, ?_⟩ | refine WK.skipNil ⟨Or.inl rfl, _, rfl, ?_, ?_⟩)
      · exact fun z hz => ((k2.trans k4).keep z (by omega) (by omega)).trans (k1.keep z hz)
      · simp only [packed, fset_apply, Nat.reduceEqDiff, ↓reduceIte, List.getD_cons_zero, List.getD_cons_succ, ff_13]
        refine ⟨true, S, hpop _ _ (.done S), .inr ⟨rfl, hc.srt, hc.len, hc.dp, fun x hx => hGC x (List.mem_append_left _ hx), p', R, hR, rfl, hRN, fun x hx => ?_⟩⟩
        rw [hR, List.mem_filter] at hx
        exact (hc.st x (List.mem_append_left _ hx.1)).keep sp4
    · rw [List.concat_eq_append] at hc hGC hGD hpop hTS ih
      have hTl : (T0 ++ [x]).length = T0.length + 1 := by simp
      rw [hTl] at ih
      rw [hTl] at hTS
      rcases hc.todo with ⟨_, e⟩ | ⟨yt, cs, rfl, hyN, hyt, hlc, hcs⟩
      · simp at e
      rw [hTl] at hlc hcs
      have hobj := hc.obj
      rw [hTl] at hobj
      have h0 : (0 : Int) < ((T0.length + 1 : Nat) : Int) := by omega
      have hkw : IntKind.i64.wrap (((T0.length + 1 : Nat) : Int) - 1) = (T0.length : Int) := by rw [wrap_in (by omega) (by omega)]; omega
      have hlt : T0.length < T0.length + 1 := Nat.lt_succ_self _
      have hle : T0.length ≤ T0.length + 1 := Nat.le_succ _
      have hfit : T0.length * 4 + 4 ≤ cs.length := by omega
      have hflat : cs.take (T0.length * 4) = T0.flatMap ccell ∧ (cs.drop (T0.length * 4)).take 4 = ccell x := by
        rw [List.flatMap_append, List.flatMap_singleton] at hcs
        have hfl : (T0.flatMap ccell).length = T0.length * 4 := fm_len ccell_len _
        constructor
        · have h := congrArg (List.take (T0.length * 4)) hcs
          rw [List.take_take, Nat.min_eq_left (by omega), List.take_append_of_le_length (by omega)] at h
          exact h.trans (List.take_of_length_le (by omega))
        · have h := congrArg (List.drop (T0.length * 4)) hcs
          have h9 : (T0.flatMap ccell).drop (T0.length * 4) = [] := List.drop_of_length_le (by omega)
          rw [List.drop_take, List.drop_append, h9, hfl, Nat.sub_self, List.nil_append, List.drop_zero, show (T0.length + 1) * 4 - T0.length * 4 = 4 by omega] at h
          exact h
      obtain ⟨htk, hel⟩ := hflat
      have k3 := Kp.new n3 H3 (.cells (ccell x) 47 true)
      have h3 := hset_at H3 n3 (.cells (ccell x) 47 true)
      have hc3 := hc.kp hw3 k3
      repeat (first | apply WK.seq | apply WK.block | apply WK.skipSeq | apply WK.skipBlock | apply WK.retSeq | apply WK.retBlock | apply WK.exitSeq | apply WK.exitHere | refine WK.exitOn rfl ?_)
      (refine WK.rgn ?_ ?_; kernel_rfl; simp (config := { maxSteps := 1000000 }) only [SS, forall_const, wx, tguard, acallee, top, tval, fput, tor, vsh, vbin, vun, tload, tload2, tload3, tstore, tstore2, tstore3, Go.AM.splice, one, tidx, tidx2, tidx3, tfa, tfa2, tlen2, tlen3, tbox, talloc, still, still1, flat1, tbuild, afill, tsl, tsl2, tsl3, tsl4, tsl5, Go.AM.bound, Int.reduceEq, Int.reduceNeg, Nat.reduceGT, Nat.reduceLT, Nat.reduceLeDiff, Nat.reduceEqDiff, ↓reduceIte, reduceCtorEq, Int.reduceToNat, Int.reduceLE, Int.reduceLT, Nat.reduceAdd, Nat.reduceMul, f10, hobj, h0, aop_nc, tnc, ff_13])
      repeat (first | apply WK.seq | apply WK.block | apply WK.skipSeq | apply WK.skipBlock | apply WK.retSeq | apply WK.retBlock | apply WK.exitSeq | apply WK.exitHere | refine WK.exitOn rfl ?_)
      first | (refine WK.condT ?_ ?_; focus (simp only [ev_tmp, ev_const, fset_apply, Nat.reduceEqDiff, ↓reduceIte, decide_true, decide_false, h0, decide_true]; done)) | (refine WK.condF ?_ ?_; focus (simp only [ev_tmp, ev_const, fset_apply, Nat.reduceEqDiff, ↓reduceIte, decide_true, decide_false, h0, decide_true]; done))
      repeat (first | apply WK.seq | apply WK.block | apply WK.skipSeq | apply WK.skipBlock | apply WK.retSeq | apply WK.retBlock | apply WK.exitSeq | apply WK.exitHere | refine WK.exitOn rfl ?_)
      (refine WK.rgn ?_ ?_; kernel_rfl; simp (config := { maxSteps := 1000000 }) only [SS, forall_const, wx, tguard, acallee, top, tval, fput, tor, vsh, vbin, vun, tload, tload2, tload3, tstore, tstore2, tstore3, Go.AM.splice, one, tidx, tidx2, tidx3, tfa, tfa2, tlen2, tlen3, tbox, talloc, still, still1, flat1, tbuild, afill, tsl, tsl2, tsl3, tsl4, tsl5, Go.AM.bound, Int.reduceEq, Int.reduceNeg, Nat.reduceGT, Nat.reduceLT, Nat.reduceLeDiff, Nat.reduceEqDiff, ↓reduceIte, reduceCtorEq, Int.reduceToNat, Int.reduceLE, Int.reduceLT, Nat.reduceAdd, Nat.reduceMul, f10, hobj, hkw, hlt, hyt, hel, hfit, v1, v2, v5, v7, aop_nc, tnc, Nat.zero_add, ff_13])
      generalize hset H3 n3 (.cells (ccell x) 47 true) = H4 at *
      have hobj4 := hc3.obj
      rw [hTl] at hobj4
      have hyt4 := (k3.keep yt (live_lt hw3 (live_of hyt))).trans hyt
      repeat (first | apply WK.seq | apply WK.block | apply WK.skipSeq | apply WK.skipBlock | apply WK.retSeq | apply WK.retBlock | apply WK.exitSeq | apply WK.exitHere | refine WK.exitOn rfl ?_)
      (refine WK.rgn ?_ ?_; kernel_rfl; simp (config := { maxSteps := 1000000 }) only [SS, forall_const, wx, tguard, acallee, top, tval, fput, tor, vsh, vbin, vun, tload, tload2, tload3, tstore, tstore2, tstore3, Go.AM.splice, one, tidx, tidx2, tidx3, tfa, tfa2, tlen2, tlen3, tbox, talloc, still, still1, flat1, tbuild, afill, tsl, tsl2, tsl3, tsl4, tsl5, Go.AM.bound, Int.reduceEq, Int.reduceNeg, Nat.reduceGT, Nat.reduceLT, Nat.reduceLeDiff, Nat.reduceEqDiff, ↓reduceIte, reduceCtorEq, Int.reduceToNat, Int.reduceLE, Int.reduceLT, Nat.reduceAdd, Nat.reduceMul, f10, hobj4, hyt4, hkw, hle, aop_nc, tnc, implies_true, Nat.zero_mul, Nat.add_zero, Nat.sub_zero, ff_13])
      have hw4 := k3.wf hw3
      have k24 := k2.trans k3.kx
      have hcl4 : n + 1 < n3 + 1 := by have := live_lt hw3 (live_of hobj); omega
      have hytn : yt ≠ n + 1 := by intro e; rw [e, hobj4] at hyt4; cases hyt4
      have hysn : S ≠ [] → ys ≠ n + 1 := by
        intro hne e
        obtain ⟨c, hc1, _⟩ := hc3.seen hne
        rw [e, hobj4] at hc1; cases hc1
      have k5 := k24.set (x := n + 1) (.cells [.pointer (some ⟨nn, 0, none⟩), sl ys S.length, .slice (some ⟨yt, 0, none⟩) T0.length T0.length, .int .i64 (deep : Nat), .int .i64 (most : Nat)] 92 true) (.inl (Nat.le_refl _)) hcl4
      have h5 := hset_at H4 (n + 1) (.cells [.pointer (some ⟨nn, 0, none⟩), sl ys S.length, .slice (some ⟨yt, 0, none⟩) T0.length T0.length, .int .i64 (deep : Nat), .int .i64 (most : Nat)] 92 true)
      have h5n : ∀ q, q ≠ n + 1 → hset H4 (n + 1) (.cells [.pointer (some ⟨nn, 0, none⟩), sl ys S.length, .slice (some ⟨yt, 0, none⟩) T0.length T0.length, .int .i64 (deep : Nat), .int .i64 (most : Nat)] 92 true) q = H4 q := fun q hq => hset_ne _ _ _ hq
      generalize hset H4 (n + 1) (.cells [.pointer (some ⟨nn, 0, none⟩), sl ys S.length, .slice (some ⟨yt, 0, none⟩) T0.length T0.length, .int .i64 (deep : Nat), .int .i64 (most : Nat)] 92 true) = H5 at *
      have sp5 : SpK H4 H5 := fun z c own hz => by
        by_cases e : z = n + 1
        · rw [e, hobj4] at hz; cases hz
        · rw [h5n z e]; exact hz
      have hx5 : XC H5 x := (hc3.st x (by simp)).keep sp5
      have hc5 : CO H5 (n + 1) (n + 1) nn ys S T0 (.slice (some ⟨yt, 0, none⟩) T0.length T0.length) deep most := {
        obj := h5
        co := Nat.le_refl _
        seen := hc3.seen.keep fun hne _ => h5n ys (hysn hne)
        sy := hc3.sy
        todo := .inr ⟨yt, cs, rfl, hyN, (h5n yt hytn).trans hyt4, by omega, htk⟩
        ne := fun hne yt' k m c e => by cases e; exact hc3.ne hne yt _ _ _ rfl
        st := fun y hy => (hc3.st y (by
          rcases List.mem_append.1 hy with hy | hy
          · exact List.mem_append_left _ hy
          · exact List.mem_append_right _ (List.mem_append_left _ hy))).keep sp5
        srt := hc3.srt
        len := hc3.len
        tl := by omega
        dp := hc3.dp }
      have h35 := (h5n n3 (by intro e; rw [e, hobj4] at h3; cases h3)).trans h3
      have k05 : Kp (n + 1) H1 (n3 + 1) H5 := k5.kp fun q h1 h2 => by omega
      have hGx := hGC x (by simp)
      have hst := step_gives hw1 k05 ne1 ok hc5 hx5 hm hdm (by have := hGD x (by simp); omega) hGx.1.1 hGx.1.2
      repeat (first | apply WK.seq | apply WK.block | apply WK.skipSeq | apply WK.skipBlock | apply WK.retSeq | apply WK.retBlock | apply WK.exitSeq | apply WK.exitHere | refine WK.exitOn rfl ?_ | ((first | (refine WK.rgn ?_ ?_; kernel_rfl) | refine AtCall.now ?_); simp (config := { maxSteps := 1000000 }) only [SS, forall_const, wx, tguard, acallee, top, tval, fput, tor, vsh, vbin, vun, tload, tload2, tload3, tstore, tstore2, tstore3, Go.AM.splice, one, tidx, tidx2, tidx3, tfa, tfa2, tlen2, tlen3, tbox, talloc, still, still1, flat1, tbuild, afill, tsl, tsl2, tsl3, tsl4, tsl5, Go.AM.bound, Int.reduceEq, Int.reduceNeg, Nat.reduceGT, Nat.reduceLT, Nat.reduceLeDiff, Nat.reduceEqDiff, ↓reduceIte, reduceCtorEq, Int.reduceToNat, Int.reduceLE, Int.reduceLT, Nat.reduceAdd, Nat.reduceMul, f10, h35, v5, v6, ff_13]) | (refine WK.condT ?_ ?_; focus (simp only [ev_tmp, ev_const, fset_apply, Nat.reduceEqDiff, ↓reduceIte, decide_true, decide_false, f10, h35, v5, v6, ff_13]; done)) | (refine WK.condF ?_ ?_; focus (simp only [ev_tmp, ev_const, fset_apply, Nat.reduceEqDiff, ↓reduceIte, decide_true, decide_false, f10, h35, v5, v6, ff_13]; done)))
      refine AtCall.byX hst ?_
      rintro v n6 H6 k6 ⟨sp6, b, S', T', rfl, hcs6, hco6⟩
      cases b with
      | false =>
        simp (config := { maxSteps := 1000000 }) only [SS, forall_const, wx, tguard, acallee, top, tval, fput, tor, vsh, vbin, vun, tload, tload2, tload3, tstore, tstore2, tstore3, Go.AM.splice, one, tidx, tidx2, tidx3, tfa, tfa2, tlen2, tlen3, tbox, talloc, still, still1, flat1, tbuild, afill, tsl, tsl2, tsl3, tsl4, tsl5, Go.AM.bound, Int.reduceEq, Int.reduceNeg, Nat.reduceGT, Nat.reduceLT, Nat.reduceLeDiff, Nat.reduceEqDiff, ↓reduceIte, reduceCtorEq, Int.reduceToNat, Int.reduceLE, Int.reduceLT, Nat.reduceAdd, Nat.reduceMul, Bool.not_false, ff_13]
        repeat (first | apply WK.seq | apply WK.block | apply WK.skipSeq | apply WK.skipBlock | apply WK.retSeq | apply WK.retBlock | apply WK.exitSeq | apply WK.exitHere | refine WK.exitOn rfl ?_ | ((first | (refine WK.rgn ?_ ?_; kernel_rfl) | refine AtCall.now ?_); simp (config := { maxSteps := 1000000 }) only [SS, forall_const, wx, tguard, acallee, top, tval, fput, tor, vsh, vbin, vun, tload, tload2, tload3, tstore, tstore2, tstore3, Go.AM.splice, one, tidx, tidx2, tidx3, tfa, tfa2, tlen2, tlen3, tbox, talloc, still, still1, flat1, tbuild, afill, tsl, tsl2, tsl3, tsl4, tsl5, Go.AM.bound, Int.reduceEq, Int.reduceNeg, Nat.reduceGT, Nat.reduceLT, Nat.reduceLeDiff, Nat.reduceEqDiff, ↓reduceIte, reduceCtorEq, Int.reduceToNat, Int.reduceLE, Int.reduceLT, Nat.reduceAdd, Nat.reduceMul, ff_13]) | (refine WK.condT ?_ ?_; focus (simp only [ev_tmp, ev_const, fset_apply, Nat.reduceEqDiff, ↓reduceIte, decide_true, decide_false, ff_13]; done)) | (refine WK.condF ?_ ?_; focus (simp only [ev_tmp, ev_const, fset_apply, Nat.reduceEqDiff, ↓reduceIte, decide_true, decide_false, ff_13]; done)))
        (first | refine WK.retNil ⟨Or.inr rfl, _, rfl, ?_, ?_⟩ | refine WK.skipNil ⟨Or.inl rfl, _, rfl, ?_, ?_⟩)
        · exact fun z hz => ((k5.trans k6).keep z (by omega) (by omega)).trans (k1.keep z hz)
        · simp only [packed, fset_apply, Nat.reduceEqDiff, ↓reduceIte, List.getD_cons_zero, List.getD_cons_succ, ff_13]
          exact ⟨false, S', hpop _ _ (.fail hcs6), .inl ⟨rfl, trivial⟩⟩
      | true =>
        obtain ⟨ys', vt', hco'⟩ := hco6 rfl
        have hlen6 := hcs6.len
        have hlm := hco'.len
        have hsub : ∀ y ∈ S ++ T0, y ∈ S ++ (T0 ++ [x]) := fun y hy => by
          rcases List.mem_append.1 hy with hy | hy
          · exact List.mem_append_left _ hy
          · exact List.mem_append_right _ (List.mem_append_left _ hy)
        simp (config := { maxSteps := 1000000 }) only [SS, forall_const, wx, tguard, acallee, top, tval, fput, tor, vsh, vbin, vun, tload, tload2, tload3, tstore, tstore2, tstore3, Go.AM.splice, one, tidx, tidx2, tidx3, tfa, tfa2, tlen2, tlen3, tbox, talloc, still, still1, flat1, tbuild, afill, tsl, tsl2, tsl3, tsl4, tsl5, Go.AM.bound, Int.reduceEq, Int.reduceNeg, Nat.reduceGT, Nat.reduceLT, Nat.reduceLeDiff, Nat.reduceEqDiff, ↓reduceIte, reduceCtorEq, Int.reduceToNat, Int.reduceLE, Int.reduceLT, Nat.reduceAdd, Nat.reduceMul, Bool.not_true, ff_13]
        repeat (first | apply WK.seq | apply WK.block | apply WK.skipSeq | apply WK.skipBlock | apply WK.retSeq | apply WK.retBlock | apply WK.exitSeq | apply WK.exitHere | refine WK.exitOn rfl ?_ | ((first | (refine WK.rgn ?_ ?_; kernel_rfl) | refine AtCall.now ?_); simp (config := { maxSteps := 1000000 }) only [SS, forall_const, wx, tguard, acallee, top, tval, fput, tor, vsh, vbin, vun, tload, tload2, tload3, tstore, tstore2, tstore3, Go.AM.splice, one, tidx, tidx2, tidx3, tfa, tfa2, tlen2, tlen3, tbox, talloc, still, still1, flat1, tbuild, afill, tsl, tsl2, tsl3, tsl4, tsl5, Go.AM.bound, Int.reduceEq, Int.reduceNeg, Nat.reduceGT, Nat.reduceLT, Nat.reduceLeDiff, Nat.reduceEqDiff, ↓reduceIte, reduceCtorEq, Int.reduceToNat, Int.reduceLE, Int.reduceLT, Nat.reduceAdd, Nat.reduceMul, ff_13]) | (refine WK.condT ?_ ?_; focus (simp only [ev_tmp, ev_const, fset_apply, Nat.reduceEqDiff, ↓reduceIte, decide_true, decide_false, ff_13]; done)) | (refine WK.condF ?_ ?_; focus (simp only [ev_tmp, ev_const, fset_apply, Nat.reduceEqDiff, ↓reduceIte, decide_true, decide_false, ff_13]; done)))
        exact ih (2 * (most - S'.length) + T'.length) (by omega) _ ⟨S', T', ys', vt', k5.trans k6, hco', hcs6.all (fun y hy => hGC y (hsub y hy)) fun c hc _ => step_gc hclV hGx c hc, hcs6.all (P := fun c => c.stack.length ≤ deep) (fun y hy => hGD y (hsub y hy)) fun c hc h => h, fun b S2 h => hpop _ _ (.step hcs6 h), f4, f10, rfl⟩
end Go.Proofs.Ytfbdababcdfjfaa
