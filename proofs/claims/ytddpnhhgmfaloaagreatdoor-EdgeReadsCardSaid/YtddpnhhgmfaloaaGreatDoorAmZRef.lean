/- A part of a proof. Its conditions: none. -/
import Derived.Test.YtddpnhhgmfaloaaGreatDoorAmZRead
set_option linter.all false
namespace Go.Proofs.YtddpnhhgmfaloaaGreatDoor
open Go.AM Ieee
set_option maxRecDepth 100000

theorem WK.cutSeq {P : Program} {b c : Code} {K : List Fk} {s : St} {Q : AExit → St → Prop} (R : St → Prop) (h1 : WK P c [.seq b] s fun e s1 => e = .normal ∧ R s1) (h2 : ∀ s1, R s1 → WK P .skip K s1 Q) : WK P c (.seq b :: K) s Q :=
  ⟨(WK.cut (c := .seq c b) R (WK.seq h1) h2).run⟩
theorem isD_46 : isD 46 = false := rfl
theorem isD_iff (b : UInt8) : isD b = true ↔ 48 ≤ b.toNat ∧ b.toNat ≤ 57 := by unfold isD; simp
theorem part_A {c : List UInt8} (h : c.all isD = true) : hasDot c = false := by
  unfold hasDot
  rw [Bool.eq_false_iff]
  intro hc
  have := List.all_eq_true.1 h 46 (by simpa using hc)
  rw [isD_46] at this; cases this
theorem part_B1 {c : List UInt8} {k : Nat} (hd : ∀ j, j < k → ∀ b, c[j]? = some b → isD b = true) (hk : c[k]? = some 46) : headL c = c.take k ∧ tailL c = c.drop (k + 1) ∧ hasDot c = true := by
  induction c generalizing k with
  | nil => simp at hk
  | cons a c ih =>
    cases k with
    | zero =>
      simp at hk; subst hk
      exact ⟨rfl, rfl, rfl⟩
    | succ k =>
      have ha : isD a = true := hd 0 (by omega) a rfl
      have ha' : (a != 46) = true := by
        simp; intro e; rw [e, isD_46] at ha; cases ha
      obtain ⟨h1, h2, h3⟩ := ih (k := k) (fun j hj b hb => hd (j + 1) (by omega) b (by simpa using hb)) (by simpa using hk)
      unfold headL tailL hasDot at *
      refine ⟨?_, ?_, ?_⟩
      · simp only [List.takeWhile_cons, ha', if_true, h1, List.take_succ_cons]
      · simp only [List.dropWhile_cons, ha', if_true, h2, List.drop_succ_cons]
      · simp only [List.contains_cons, h3, Bool.or_true]
theorem part_B2 {c : List UInt8} {k : Nat} {b : UInt8} (hd : ∀ j, j < k → ∀ b, c[j]? = some b → isD b = true) (hk : c[k]? = some b) (hb : isD b = false) (h46 : b ≠ 46) : (headL c).all isD = false := by
  induction c generalizing k with
  | nil => simp at hk
  | cons a c ih =>
    cases k with
    | zero =>
      simp at hk; subst hk
      unfold headL
      simp [h46, hb]
    | succ k =>
      have ha : isD a = true := hd 0 (by omega) a rfl
      have ha' : (a != 46) = true := by
        simp; intro e; rw [e, isD_46] at ha; cases ha
      have := ih (k := k) (fun j hj b hb => hd (j + 1) (by omega) b (by simpa using hb)) (by simpa using hk)
      unfold headL at *
      simp only [List.takeWhile_cons, ha', if_true, List.all_cons, this, Bool.and_false]

def partsV (l : List UInt8) : Value := if okE l then .tuple #[.bool (hasMinus l), .string (BA (hs l)), .string (BA (ts l)), .bool true] else .tuple #[.bool false, .string (BA []), .string (BA []), .bool false]

theorem digsB_of {l : List UInt8} (h : l.all isD = true) (lo hi : Nat) : digsB l lo hi = (decide (lo ≤ l.length) && decide (l.length ≤ hi)) := by
  unfold digsB; rw [h, Bool.true_and]
  congr 1 <;> exact decide_eq_decide.2 (by omega)

def okC (c : List UInt8) : Bool := digsB (headL c) 1 9 && !lead0 (headL c) && (!hasDot c || digsB (tailL c) 1 6)
theorem digsB_false {l : List UInt8} (h : l.all isD = false) (lo hi : Int) : digsB l lo hi = false := by unfold digsB; rw [h]; rfl
theorem parts_ok {c : List UInt8} {k : Nat} (hk : k ≤ c.length) (hd : ∀ j, j < k → ∀ b, c[j]? = some b → isD b = true) (hkd : ∀ b, c[k]? = some b → isD b = false) :
    (¬ (1 ≤ k ∧ k ≤ 9 ∧ lead0 (c.take k) = false) → okC c = false) ∧ ((1 ≤ k ∧ k ≤ 9 ∧ lead0 (c.take k) = false) → (k = c.length → okC c = true ∧ headL c = c ∧ tailL c = []) ∧
      (∀ b, c[k]? = some b → b ≠ 46 → okC c = false) ∧ (c[k]? = some 46 → headL c = c.take k ∧ tailL c = c.drop (k + 1) ∧ okC c = digsB (c.drop (k + 1)) 1 6)) := by
  have hall : (c.take k).all isD = true := by
    rw [List.all_eq_true]
    intro b hb
    obtain ⟨j, hj, e⟩ := List.getElem_of_mem hb
    rw [List.length_take] at hj
    refine hd j (by omega) b ?_
    rw [← e, List.getElem_take]
    exact List.getElem?_eq_getElem (by omega)
  have hlen : (c.take k).length = k := by rw [List.length_take]; omega
  have hdig : digsB (c.take k) 1 9 = (decide (1 ≤ k) && decide (k ≤ 9)) := by
    have := digsB_of hall 1 9
    rw [hlen] at this; exact this
  have hgood : (digsB (c.take k) 1 9 && !lead0 (c.take k)) = decide (1 ≤ k ∧ k ≤ 9 ∧ lead0 (c.take k) = false) := by
    rw [hdig]
    by_cases h1 : 1 ≤ k <;> by_cases h2 : k ≤ 9 <;> cases h3 : lead0 (c.take k) <;> simp [h1, h2]
  by_cases hkl : k = c.length
  · have htk : c.take k = c := by rw [hkl]; exact List.take_length
    rw [htk] at hall hgood ⊢
    have hdot := part_A hall
    obtain ⟨a1, a2⟩ := head_all c hdot
    have hokC : okC c = decide (1 ≤ k ∧ k ≤ 9 ∧ lead0 c = false) := by
      unfold okC; rw [a1, hdot, hgood]; simp
    rw [hokC]
    refine ⟨fun h => decide_eq_false h, fun h => ⟨fun _ => ⟨decide_eq_true h, a1, a2⟩, fun b hb => ?_, fun hb => ?_⟩⟩
    · rw [List.getElem?_eq_none (by omega)] at hb; cases hb
    · rw [List.getElem?_eq_none (by omega)] at hb; cases hb
  · have hg : c[k]? = some c[k] := List.getElem?_eq_getElem (by omega)
    generalize c[k] = b at hg
    by_cases h46 : b = 46
    · subst h46
      obtain ⟨b1, b2, b3⟩ := part_B1 hd hg
      have hokC : okC c = (decide (1 ≤ k ∧ k ≤ 9 ∧ lead0 (c.take k) = false) && digsB (c.drop (k + 1)) 1 6) := by
        unfold okC; rw [b1, b2, b3, hgood]; simp
      rw [hokC]
      refine ⟨fun h => by rw [decide_eq_false h]; rfl, fun h => ⟨fun e => absurd e hkl, fun b hb hb46 => ?_, fun _ => ⟨b1, b2, by rw [decide_eq_true h]; rfl⟩⟩⟩
      rw [hg] at hb; cases hb; exact absurd rfl hb46
    · have hf := part_B2 hd hg (hkd b hg) h46
      have hokC : okC c = false := by unfold okC; rw [digsB_false hf]; rfl
      rw [hokC]
      refine ⟨fun _ => rfl, fun _ => ⟨fun e => absurd e hkl, fun _ _ _ => rfl, fun hb => ?_⟩⟩
      rw [hg] at hb; cases hb; exact absurd rfl h46

set_option maxHeartbeats 8000000 in
theorem parts_gives (l : List UInt8) (hl : l.length ≤ 40) (n : Nat) (H : Heap) :
    Gives Tryz.prog 24 [.string (BA l)] n H fun v n' H' => v = partsV l ∧ n' = n ∧ H' = H := by
  refine Gives.of orders ok24 (Nat.le_of_ble_eq_true rfl) ?_
-- function 24
  cases l with
  | nil =>
    have z : ((0 : Int) < ((0 : Nat) : Int)) = False := by simp
    have z1 : ((0 : Int) < 1) = True := by simp
    repeat (first | apply WK.seq | apply WK.block | apply WK.skipSeq | apply WK.skipBlock | apply WK.retSeq | apply WK.retBlock | apply WK.exitSeq | apply WK.exitHere | refine WK.exitOn rfl ?_ | ((first | (refine WK.rgn ?_ ?_; kernel_rfl) | refine AtCall.now ?_); simp (config := { maxSteps := 1000000 }) only [SS, forall_const, wx, tguard, acallee, top, tval, fput, tor, vsh, vbin, tlen2, tpick, tsl, tsl2, tsl3, tsl4, tsl5, Go.AM.bound, tix, tix1, tix2, Int.reduceEq, Int.reduceNeg, Nat.reduceGT, Nat.reduceLT, Nat.reduceLeDiff, Nat.reduceEqDiff, ↓reduceIte, reduceCtorEq, Int.reduceToNat, Int.reduceLE, Int.reduceLT, Nat.reduceAdd, Nat.reduceMul, BAS, ba_size, z, ff_24]) | (refine WK.condT ?_ ?_; focus (simp only [ev_tmp, ev_const, fset_apply, Nat.reduceEqDiff, ↓reduceIte, decide_true, decide_false, BAS, ba_size, z, ff_24]; done)) | (refine WK.condF ?_ ?_; focus (simp only [ev_tmp, ev_const, fset_apply, Nat.reduceEqDiff, ↓reduceIte, decide_true, decide_false, BAS, ba_size, z, ff_24]; done)))
    refine WK.unloop ?_
    repeat (first | apply WK.seq | apply WK.block | apply WK.skipSeq | apply WK.skipBlock | apply WK.retSeq | apply WK.retBlock | apply WK.exitSeq | apply WK.exitHere | refine WK.exitOn rfl ?_ | ((first | (refine WK.rgn ?_ ?_; kernel_rfl) | refine AtCall.now ?_); simp (config := { maxSteps := 1000000 }) only [SS, forall_const, wx, tguard, acallee, top, tval, fput, tor, vsh, vbin, tlen2, tpick, tsl, tsl2, tsl3, tsl4, tsl5, Go.AM.bound, tix, tix1, tix2, Int.reduceEq, Int.reduceNeg, Nat.reduceGT, Nat.reduceLT, Nat.reduceLeDiff, Nat.reduceEqDiff, ↓reduceIte, reduceCtorEq, Int.reduceToNat, Int.reduceLE, Int.reduceLT, Nat.reduceAdd, Nat.reduceMul, BAS, ba_size, z, z1, ff_24]) | (refine WK.condT ?_ ?_; focus (simp only [ev_tmp, ev_const, fset_apply, Nat.reduceEqDiff, ↓reduceIte, decide_true, decide_false, BAS, ba_size, z, z1, ff_24]; done)) | (refine WK.condF ?_ ?_; focus (simp only [ev_tmp, ev_const, fset_apply, Nat.reduceEqDiff, ↓reduceIte, decide_true, decide_false, BAS, ba_size, z, z1, ff_24]; done)))
    (first | refine WK.retNil ⟨Or.inr rfl, _, rfl, ?_, ?_⟩ | refine WK.skipNil ⟨Or.inl rfl, _, rfl, ?_, ?_⟩)
    · exact fun _ _ => rfl
    · simp only [packed, fset_apply, Nat.reduceEqDiff, ↓reduceIte, List.getD_cons_zero, List.getD_cons_succ, ff_24]
      first | exact ⟨rfl, trivial, trivial⟩ | exact ⟨trivial, trivial, trivial⟩
  | cons a l =>
    have z : ((0 : Int) < ((l.length + 1 : Nat) : Int)) = True := by simp only [eq_iff_iff, iff_true]; omega
    have t45 : UInt8.toNat 45 = 45 := rfl
    have dm : decide ((a.toNat : Int) = 45) = hasMinus (a :: l) := by
      unfold hasMinus
      by_cases e : a = 45
      · subst e; rfl
      · have : ¬ ((a.toNat : Int) = 45) := fun h => e (UInt8.toNat_inj.1 (by rw [t45]; omega))
        rw [decide_eq_false this]
        simp [e]
    have hcl : (cutM (a :: l)).length ≤ 40 := by
      unfold cutM; split
      · rw [List.length_tail]; omega
      · exact hl
    repeat (first | apply WK.seq | apply WK.block | apply WK.skipSeq | apply WK.skipBlock | apply WK.retSeq | apply WK.retBlock | apply WK.exitSeq | apply WK.exitHere | refine WK.exitOn rfl ?_)
    (refine WK.rgn ?_ ?_; kernel_rfl; simp (config := { maxSteps := 1000000 }) only [SS, forall_const, wx, tguard, acallee, top, tval, fput, tor, vsh, vbin, tlen2, tpick, tsl, tsl2, tsl3, tsl4, tsl5, Go.AM.bound, tix, tix1, tix2, Int.reduceEq, Int.reduceNeg, Nat.reduceGT, Nat.reduceLT, Nat.reduceLeDiff, Nat.reduceEqDiff, ↓reduceIte, reduceCtorEq, Int.reduceToNat, Int.reduceLE, Int.reduceLT, Nat.reduceAdd, Nat.reduceMul, ff_24])
    repeat (first | apply WK.seq | apply WK.block | apply WK.skipSeq | apply WK.skipBlock | apply WK.retSeq | apply WK.retBlock | apply WK.exitSeq | apply WK.exitHere | refine WK.exitOn rfl ?_)
    (refine WK.rgn ?_ ?_; kernel_rfl; simp (config := { maxSteps := 1000000 }) only [SS, forall_const, wx, tguard, acallee, top, tval, fput, tor, vsh, vbin, tlen2, tpick, tsl, tsl2, tsl3, tsl4, tsl5, Go.AM.bound, tix, tix1, tix2, Int.reduceEq, Int.reduceNeg, Nat.reduceGT, Nat.reduceLT, Nat.reduceLeDiff, Nat.reduceEqDiff, ↓reduceIte, reduceCtorEq, Int.reduceToNat, Int.reduceLE, Int.reduceLT, Nat.reduceAdd, Nat.reduceMul, ba_size, z, ba_get, ust, dm, ff_24])
    repeat (first | apply WK.seq | apply WK.block | apply WK.skipSeq | apply WK.skipBlock | apply WK.retSeq | apply WK.retBlock | apply WK.exitSeq | apply WK.exitHere | refine WK.exitOn rfl ?_)
    have hpv : partsV (a :: l) = (if okE (a :: l) then .tuple #[.bool (hasMinus (a :: l)), .string (BA (headL (cutM (a :: l)))), .string (BA (tailL (cutM (a :: l)))), .bool true] else .tuple #[.bool false, .string (BA []), .string (BA []), .bool false]) := rfl
    have hok : okE (a :: l) = (digsB (headL (cutM (a :: l))) 1 9 && !lead0 (headL (cutM (a :: l))) && (!hasDot (cutM (a :: l)) || digsB (tailL (cutM (a :: l))) 1 6)) := rfl
    have hmc : hasMinus (a :: l) = false → a :: l = cutM (a :: l) := fun h => by unfold cutM; rw [h]; rfl
    have hmt : hasMinus (a :: l) = true → l = cutM (a :: l) := fun h => by unfold cutM; rw [h]; rfl
    rw [hpv]
    generalize okE (a :: l) = ok at *
    generalize hcc : cutM (a :: l) = c at *
    generalize hasMinus (a :: l) = neg at *
    refine WK.cutSeq (fun s => s.n = n ∧ s.H = H ∧ s.f 0 = .string (BA c) ∧ s.f 6 = .bool neg) ?_ ?_
    · cases neg with
      | false =>
        rw [hmc rfl]
        repeat (first | apply WK.seq | apply WK.block | apply WK.skipSeq | apply WK.skipBlock | apply WK.retSeq | apply WK.retBlock | apply WK.exitSeq | apply WK.exitHere | refine WK.exitOn rfl ?_ | ((first | (refine WK.rgn ?_ ?_; kernel_rfl) | refine AtCall.now ?_); simp (config := { maxSteps := 1000000 }) only [SS, forall_const, wx, tguard, acallee, top, tval, fput, tor, vsh, vbin, tlen2, tpick, tsl, tsl2, tsl3, tsl4, tsl5, Go.AM.bound, tix, tix1, tix2, Int.reduceEq, Int.reduceNeg, Nat.reduceGT, Nat.reduceLT, Nat.reduceLeDiff, Nat.reduceEqDiff, ↓reduceIte, reduceCtorEq, Int.reduceToNat, Int.reduceLE, Int.reduceLT, Nat.reduceAdd, Nat.reduceMul, ff_24]) | (refine WK.condT ?_ ?_; focus (simp only [ev_tmp, ev_const, fset_apply, Nat.reduceEqDiff, ↓reduceIte, decide_true, decide_false, ff_24]; done)) | (refine WK.condF ?_ ?_; focus (simp only [ev_tmp, ev_const, fset_apply, Nat.reduceEqDiff, ↓reduceIte, decide_true, decide_false, ff_24]; done)))
        exact WK.skipNil ⟨rfl, rfl, rfl, rfl, rfl⟩
      | true =>
        have z2 : 1 ≤ l.length + 1 := by omega
        have e : ((a :: l).take (l.length + 1)).drop 1 = c := by rw [← hmt rfl]; simp
        repeat (first | apply WK.seq | apply WK.block | apply WK.skipSeq | apply WK.skipBlock | apply WK.retSeq | apply WK.retBlock | apply WK.exitSeq | apply WK.exitHere | refine WK.exitOn rfl ?_ | ((first | (refine WK.rgn ?_ ?_; kernel_rfl) | refine AtCall.now ?_); simp (config := { maxSteps := 1000000 }) only [SS, forall_const, wx, tguard, acallee, top, tval, fput, tor, vsh, vbin, tlen2, tpick, tsl, tsl2, tsl3, tsl4, tsl5, Go.AM.bound, tix, tix1, tix2, Int.reduceEq, Int.reduceNeg, Nat.reduceGT, Nat.reduceLT, Nat.reduceLeDiff, Nat.reduceEqDiff, ↓reduceIte, reduceCtorEq, Int.reduceToNat, Int.reduceLE, Int.reduceLT, Nat.reduceAdd, Nat.reduceMul, BAS, ba_size, ba_ext, aop_ssl, tss, tss2, sbnd, ust, z2, e, ff_24]) | (refine WK.condT ?_ ?_; focus (simp only [ev_tmp, ev_const, fset_apply, Nat.reduceEqDiff, ↓reduceIte, decide_true, decide_false, BAS, ba_size, ba_ext, aop_ssl, tss, tss2, sbnd, ust, z2, e, ff_24]; done)) | (refine WK.condF ?_ ?_; focus (simp only [ev_tmp, ev_const, fset_apply, Nat.reduceEqDiff, ↓reduceIte, decide_true, decide_false, BAS, ba_size, ba_ext, aop_ssl, tss, tss2, sbnd, ust, z2, e, ff_24]; done)))
        exact WK.skipNil ⟨rfl, rfl, rfl, rfl, rfl⟩
    rintro ⟨f, n1, H1⟩ ⟨rfl, rfl, f0, f6⟩
    simp only at f0 f6
    clear hmc hmt hcc z dm
    repeat (first | apply WK.seq | apply WK.block | apply WK.skipSeq | apply WK.skipBlock | apply WK.retSeq | apply WK.retBlock | apply WK.exitSeq | apply WK.exitHere | refine WK.exitOn rfl ?_)
    (refine WK.rgn ?_ ?_; kernel_rfl; simp (config := { maxSteps := 1000000 }) only [SS, forall_const, wx, tguard, acallee, top, tval, fput, tor, vsh, vbin, tlen2, tpick, tsl, tsl2, tsl3, tsl4, tsl5, Go.AM.bound, tix, tix1, tix2, Int.reduceEq, Int.reduceNeg, Nat.reduceGT, Nat.reduceLT, Nat.reduceLeDiff, Nat.reduceEqDiff, ↓reduceIte, reduceCtorEq, Int.reduceToNat, Int.reduceLE, Int.reduceLT, Nat.reduceAdd, Nat.reduceMul, ff_24])
    repeat (first | apply WK.seq | apply WK.block | apply WK.skipSeq | apply WK.skipBlock | apply WK.retSeq | apply WK.retBlock | apply WK.exitSeq | apply WK.exitHere | refine WK.exitOn rfl ?_)
    refine WK.cutBlock (fun s => ∃ k : Nat, k ≤ c.length ∧ (∀ j, j < k → ∀ b, c[j]? = some b → isD b = true) ∧ (∀ b, c[k]? = some b → isD b = false) ∧ s.n = n1 ∧ s.H = H1 ∧ s.f 0 = .string (BA c) ∧ s.f 6 = .bool neg ∧ s.f 7 = .int .i64 (k : Int)) ?_ ?_
    · refine WK.loop (fun kk s => ∃ i : Nat, i ≤ c.length ∧ (∀ j, j < i → ∀ b, c[j]? = some b → isD b = true) ∧ s.n = n1 ∧ s.H = H1 ∧ s.f 0 = .string (BA c) ∧ s.f 6 = .bool neg ∧ s.f 7 = .int .i64 (i : Int) ∧ kk = c.length - i + 1) (c.length + 1) ?_ ?_
      · exact ⟨0, Nat.zero_le _, fun j hj => absurd hj (Nat.not_lt_zero _), rfl, rfl, f0, f6, rfl, rfl⟩
      clear f0 f6
      rintro kk ⟨f, n2, H2⟩ ⟨i, hi1, hd, rfl, rfl, f0, f6, f7, rfl⟩ ih
      simp only at f0 f6 f7 ih
      by_cases hil : i < c.length
      · have hil' : ((i : Int) < (c.length : Int)) = True := by simp only [eq_iff_iff, iff_true]; omega
        have hg : c[i]? = some c[i] := List.getElem?_eq_getElem hil
        have hw1 : IntKind.i64.wrap ((i : Int) + 1) = ((i + 1 : Nat) : Int) := by rw [wrap_in (by omega) (by omega)]; simp
        have h0 : (0 : Int) ≤ (i : Int) := by omega
        generalize c[i] = b at hg
        by_cases hb : isD b = true
        · have hb2 := (isD_iff b).1 hb
          have c1 : ((48 : Int) ≤ (b.toNat : Int)) = True := by simp only [eq_iff_iff, iff_true]; omega
          have c2 : ((b.toNat : Int) ≤ 57) = True := by simp only [eq_iff_iff, iff_true]; omega
          repeat (first | apply WK.seq | apply WK.block | apply WK.skipSeq | apply WK.skipBlock | apply WK.retSeq | apply WK.retBlock | apply WK.exitSeq | apply WK.exitHere | refine WK.exitOn rfl ?_ | ((first | (refine WK.rgn ?_ ?_; kernel_rfl) | refine AtCall.now ?_); simp (config := { maxSteps := 1000000 }) only [SS, forall_const, wx, tguard, acallee, top, tval, fput, tor, vsh, vbin, tlen2, tpick, tsl, tsl2, tsl3, tsl4, tsl5, Go.AM.bound, tix, tix1, tix2, Int.reduceEq, Int.reduceNeg, Nat.reduceGT, Nat.reduceLT, Nat.reduceLeDiff, Nat.reduceEqDiff, ↓reduceIte, reduceCtorEq, Int.reduceToNat, Int.reduceLE, Int.reduceLT, Nat.reduceAdd, Nat.reduceMul, f0, f6, f7, hil', hil, ba_size, ba_get, hg, c1, c2, ust, h0, Int.toNat_natCast, ff_24]) | (refine WK.condT ?_ ?_; focus (simp only [ev_tmp, ev_const, fset_apply, Nat.reduceEqDiff, ↓reduceIte, decide_true, decide_false, f0, f6, f7, hil', hil, ba_size, ba_get, hg, c1, c2, ust, h0, Int.toNat_natCast, ff_24]; done)) | (refine WK.condF ?_ ?_; focus (simp only [ev_tmp, ev_const, fset_apply, Nat.reduceEqDiff, ↓reduceIte, decide_true, decide_false, f0, f6, f7, hil', hil, ba_size, ba_get, hg, c1, c2, ust, h0, Int.toNat_natCast, ff_24]; done)))
          refine ih (c.length - (i + 1) + 1) (by omega) _ ⟨i + 1, hil, ?_, rfl, rfl, f0, f6, ?_, rfl⟩
          · intro j hj b' hb'
            by_cases e : j = i
            · subst e; rw [hg] at hb'; cases hb'; exact hb
            · exact hd j (by omega) b' hb'
          · simp only [packed, fset_apply, Nat.reduceEqDiff, ↓reduceIte, List.getD_cons_zero, List.getD_cons_succ, f7, hw1, ff_24]
        · have hb2 : ¬ (48 ≤ b.toNat ∧ b.toNat ≤ 57) := fun h => hb ((isD_iff b).2 h)
          have hbf : ∀ b', c[i]? = some b' → isD b' = false := fun b' e => by rw [hg] at e; cases e; simpa using hb
          by_cases c0 : 48 ≤ b.toNat
          · have c1 : ((48 : Int) ≤ (b.toNat : Int)) = True := by simp only [eq_iff_iff, iff_true]; omega
            have c2 : ((b.toNat : Int) ≤ 57) = False := by simp only [eq_iff_iff, iff_false]; omega
            repeat (first | apply WK.seq | apply WK.block | apply WK.skipSeq | apply WK.skipBlock | apply WK.retSeq | apply WK.retBlock | apply WK.exitSeq | apply WK.exitHere | refine WK.exitOn rfl ?_ | ((first | (refine WK.rgn ?_ ?_; kernel_rfl) | refine AtCall.now ?_); simp (config := { maxSteps := 1000000 }) only [SS, forall_const, wx, tguard, acallee, top, tval, fput, tor, vsh, vbin, tlen2, tpick, tsl, tsl2, tsl3, tsl4, tsl5, Go.AM.bound, tix, tix1, tix2, Int.reduceEq, Int.reduceNeg, Nat.reduceGT, Nat.reduceLT, Nat.reduceLeDiff, Nat.reduceEqDiff, ↓reduceIte, reduceCtorEq, Int.reduceToNat, Int.reduceLE, Int.reduceLT, Nat.reduceAdd, Nat.reduceMul, f0, f6, f7, hil', hil, ba_size, ba_get, hg, c1, c2, ust, h0, Int.toNat_natCast, ff_24]) | (refine WK.condT ?_ ?_; focus (simp only [ev_tmp, ev_const, fset_apply, Nat.reduceEqDiff, ↓reduceIte, decide_true, decide_false, f0, f6, f7, hil', hil, ba_size, ba_get, hg, c1, c2, ust, h0, Int.toNat_natCast, ff_24]; done)) | (refine WK.condF ?_ ?_; focus (simp only [ev_tmp, ev_const, fset_apply, Nat.reduceEqDiff, ↓reduceIte, decide_true, decide_false, f0, f6, f7, hil', hil, ba_size, ba_get, hg, c1, c2, ust, h0, Int.toNat_natCast, ff_24]; done)))
            exact WK.skipNil ⟨rfl, i, hi1, hd, hbf, rfl, rfl, f0, f6, f7⟩
          · have c1 : ((48 : Int) ≤ (b.toNat : Int)) = False := by simp only [eq_iff_iff, iff_false]; omega
            repeat (first | apply WK.seq | apply WK.block | apply WK.skipSeq | apply WK.skipBlock | apply WK.retSeq | apply WK.retBlock | apply WK.exitSeq | apply WK.exitHere | refine WK.exitOn rfl ?_ | ((first | (refine WK.rgn ?_ ?_; kernel_rfl) | refine AtCall.now ?_); simp (config := { maxSteps := 1000000 }) only [SS, forall_const, wx, tguard, acallee, top, tval, fput, tor, vsh, vbin, tlen2, tpick, tsl, tsl2, tsl3, tsl4, tsl5, Go.AM.bound, tix, tix1, tix2, Int.reduceEq, Int.reduceNeg, Nat.reduceGT, Nat.reduceLT, Nat.reduceLeDiff, Nat.reduceEqDiff, ↓reduceIte, reduceCtorEq, Int.reduceToNat, Int.reduceLE, Int.reduceLT, Nat.reduceAdd, Nat.reduceMul, f0, f6, f7, hil', hil, ba_size, ba_get, hg, c1, ust, h0, Int.toNat_natCast, ff_24]) | (refine WK.condT ?_ ?_; focus (simp only [ev_tmp, ev_const, fset_apply, Nat.reduceEqDiff, ↓reduceIte, decide_true, decide_false, f0, f6, f7, hil', hil, ba_size, ba_get, hg, c1, ust, h0, Int.toNat_natCast, ff_24]; done)) | (refine WK.condF ?_ ?_; focus (simp only [ev_tmp, ev_const, fset_apply, Nat.reduceEqDiff, ↓reduceIte, decide_true, decide_false, f0, f6, f7, hil', hil, ba_size, ba_get, hg, c1, ust, h0, Int.toNat_natCast, ff_24]; done)))
            exact WK.skipNil ⟨rfl, i, hi1, hd, hbf, rfl, rfl, f0, f6, f7⟩
      · have hil' : ((i : Int) < (c.length : Int)) = False := by simp only [eq_iff_iff, iff_false]; omega
        repeat (first | apply WK.seq | apply WK.block | apply WK.skipSeq | apply WK.skipBlock | apply WK.retSeq | apply WK.retBlock | apply WK.exitSeq | apply WK.exitHere | refine WK.exitOn rfl ?_ | ((first | (refine WK.rgn ?_ ?_; kernel_rfl) | refine AtCall.now ?_); simp (config := { maxSteps := 1000000 }) only [SS, forall_const, wx, tguard, acallee, top, tval, fput, tor, vsh, vbin, tlen2, tpick, tsl, tsl2, tsl3, tsl4, tsl5, Go.AM.bound, tix, tix1, tix2, Int.reduceEq, Int.reduceNeg, Nat.reduceGT, Nat.reduceLT, Nat.reduceLeDiff, Nat.reduceEqDiff, ↓reduceIte, reduceCtorEq, Int.reduceToNat, Int.reduceLE, Int.reduceLT, Nat.reduceAdd, Nat.reduceMul, f0, f6, f7, hil', hil, ba_size, ff_24]) | (refine WK.condT ?_ ?_; focus (simp only [ev_tmp, ev_const, fset_apply, Nat.reduceEqDiff, ↓reduceIte, decide_true, decide_false, f0, f6, f7, hil', hil, ba_size, ff_24]; done)) | (refine WK.condF ?_ ?_; focus (simp only [ev_tmp, ev_const, fset_apply, Nat.reduceEqDiff, ↓reduceIte, decide_true, decide_false, f0, f6, f7, hil', hil, ba_size, ff_24]; done)))
        exact WK.skipNil ⟨rfl, i, hi1, hd, (fun b e => by rw [List.getElem?_eq_none (by omega)] at e; cases e), rfl, rfl, f0, f6, f7⟩
    clear f0 f6
    rintro ⟨f, n2, H2⟩ ⟨k, hk1, hd, hkd, rfl, rfl, f0, f6, f7⟩
    simp only at f0 f6 f7
    obtain ⟨pbad, pgood⟩ := parts_ok hk1 hd hkd
    have hokC : ok = okC c := hok
    rw [← hokC] at pbad pgood
    clear hok hokC hpv
    repeat (first | apply WK.seq | apply WK.block | apply WK.skipSeq | apply WK.skipBlock | apply WK.retSeq | apply WK.retBlock | apply WK.exitSeq | apply WK.exitHere | refine WK.exitOn rfl ?_)
    refine WK.cutRetSeq (fun s => (1 ≤ k ∧ k ≤ 9 ∧ lead0 (c.take k) = false) ∧ s.n = n2 ∧ s.H = H2 ∧ s.f 0 = .string (BA c) ∧ s.f 6 = .bool neg ∧ s.f 7 = .int .i64 (k : Int)) ?_ ?_
    · by_cases k1 : k < 1
      · have k1' : ((k : Int) < 1) = True := by simp only [eq_iff_iff, iff_true]; omega
        have hokf := pbad (by omega)
        subst hokf
        repeat (first | apply WK.seq | apply WK.block | apply WK.skipSeq | apply WK.skipBlock | apply WK.retSeq | apply WK.retBlock | apply WK.exitSeq | apply WK.exitHere | refine WK.exitOn rfl ?_ | ((first | (refine WK.rgn ?_ ?_; kernel_rfl) | refine AtCall.now ?_); simp (config := { maxSteps := 1000000 }) only [SS, forall_const, wx, tguard, acallee, top, tval, fput, tor, vsh, vbin, tlen2, tpick, tsl, tsl2, tsl3, tsl4, tsl5, Go.AM.bound, tix, tix1, tix2, Int.reduceEq, Int.reduceNeg, Nat.reduceGT, Nat.reduceLT, Nat.reduceLeDiff, Nat.reduceEqDiff, ↓reduceIte, reduceCtorEq, Int.reduceToNat, Int.reduceLE, Int.reduceLT, Nat.reduceAdd, Nat.reduceMul, f0, f6, f7, k1', k1, ff_24]) | (refine WK.condT ?_ ?_; focus (simp only [ev_tmp, ev_const, fset_apply, Nat.reduceEqDiff, ↓reduceIte, decide_true, decide_false, f0, f6, f7, k1', k1, ff_24]; done)) | (refine WK.condF ?_ ?_; focus (simp only [ev_tmp, ev_const, fset_apply, Nat.reduceEqDiff, ↓reduceIte, decide_true, decide_false, f0, f6, f7, k1', k1, ff_24]; done)))
        first | refine WK.retNil (Or.inr ⟨rfl, Or.inr rfl, _, rfl, fun _ _ => rfl, ?_⟩) | refine WK.retNil ⟨rfl, Or.inr rfl, _, rfl, fun _ _ => rfl, ?_⟩
        simp only [packed, fset_apply, Nat.reduceEqDiff, ↓reduceIte, List.getD_cons_zero, List.getD_cons_succ, BAS, ff_24]
        first | exact ⟨rfl, trivial, trivial⟩ | exact ⟨trivial, trivial, trivial⟩
      have k1' : ((k : Int) < 1) = False := by simp only [eq_iff_iff, iff_false]; omega
      by_cases k9 : 9 < k
      · have k9' : ((9 : Int) < (k : Int)) = True := by simp only [eq_iff_iff, iff_true]; omega
        have hokf := pbad (by omega)
        subst hokf
        repeat (first | apply WK.seq | apply WK.block | apply WK.skipSeq | apply WK.skipBlock | apply WK.retSeq | apply WK.retBlock | apply WK.exitSeq | apply WK.exitHere | refine WK.exitOn rfl ?_ | ((first | (refine WK.rgn ?_ ?_; kernel_rfl) | refine AtCall.now ?_); simp (config := { maxSteps := 1000000 }) only [SS, forall_const, wx, tguard, acallee, top, tval, fput, tor, vsh, vbin, tlen2, tpick, tsl, tsl2, tsl3, tsl4, tsl5, Go.AM.bound, tix, tix1, tix2, Int.reduceEq, Int.reduceNeg, Nat.reduceGT, Nat.reduceLT, Nat.reduceLeDiff, Nat.reduceEqDiff, ↓reduceIte, reduceCtorEq, Int.reduceToNat, Int.reduceLE, Int.reduceLT, Nat.reduceAdd, Nat.reduceMul, f0, f6, f7, k1', k9', k9, ff_24]) | (refine WK.condT ?_ ?_; focus (simp only [ev_tmp, ev_const, fset_apply, Nat.reduceEqDiff, ↓reduceIte, decide_true, decide_false, f0, f6, f7, k1', k9', k9, ff_24]; done)) | (refine WK.condF ?_ ?_; focus (simp only [ev_tmp, ev_const, fset_apply, Nat.reduceEqDiff, ↓reduceIte, decide_true, decide_false, f0, f6, f7, k1', k9', k9, ff_24]; done)))
        first | refine WK.retNil (Or.inr ⟨rfl, Or.inr rfl, _, rfl, fun _ _ => rfl, ?_⟩) | refine WK.retNil ⟨rfl, Or.inr rfl, _, rfl, fun _ _ => rfl, ?_⟩
        simp only [packed, fset_apply, Nat.reduceEqDiff, ↓reduceIte, List.getD_cons_zero, List.getD_cons_succ, BAS, ff_24]
        first | exact ⟨rfl, trivial, trivial⟩ | exact ⟨trivial, trivial, trivial⟩
      have k9' : ((9 : Int) < (k : Int)) = False := by simp only [eq_iff_iff, iff_false]; omega
      have htl : (c.take k).length = k := by rw [List.length_take]; omega
      by_cases k2 : 1 < k
      · have k2' : ((1 : Int) < (k : Int)) = True := by simp only [eq_iff_iff, iff_true]; omega
        have hg0 : c[0]? = some c[0] := List.getElem?_eq_getElem (by omega)
        have ht0 : (c.take k)[0]? = c[0]? := by rw [List.getElem?_take]; rw [if_pos (by omega)]
        generalize c[0] = b0 at hg0
        by_cases e : b0 = 48
        · have e' : ((b0.toNat : Int) = 48) = True := by rw [e]; simp
          have hl0 : lead0 (c.take k) = true := by
            unfold lead0; rw [htl, decide_eq_true k2, ht0, hg0, e]; rfl
          have hokf := pbad (by rw [hl0]; simp)
          subst hokf
          repeat (first | apply WK.seq | apply WK.block | apply WK.skipSeq | apply WK.skipBlock | apply WK.retSeq | apply WK.retBlock | apply WK.exitSeq | apply WK.exitHere | refine WK.exitOn rfl ?_ | ((first | (refine WK.rgn ?_ ?_; kernel_rfl) | refine AtCall.now ?_); simp (config := { maxSteps := 1000000 }) only [SS, forall_const, wx, tguard, acallee, top, tval, fput, tor, vsh, vbin, tlen2, tpick, tsl, tsl2, tsl3, tsl4, tsl5, Go.AM.bound, tix, tix1, tix2, Int.reduceEq, Int.reduceNeg, Nat.reduceGT, Nat.reduceLT, Nat.reduceLeDiff, Nat.reduceEqDiff, ↓reduceIte, reduceCtorEq, Int.reduceToNat, Int.reduceLE, Int.reduceLT, Nat.reduceAdd, Nat.reduceMul, f0, f6, f7, k1', k9', k2', ba_get, hg0, ust, e', ff_24]) | (refine WK.condT ?_ ?_; focus (simp only [ev_tmp, ev_const, fset_apply, Nat.reduceEqDiff, ↓reduceIte, decide_true, decide_false, f0, f6, f7, k1', k9', k2', ba_get, hg0, ust, e', ff_24]; done)) | (refine WK.condF ?_ ?_; focus (simp only [ev_tmp, ev_const, fset_apply, Nat.reduceEqDiff, ↓reduceIte, decide_true, decide_false, f0, f6, f7, k1', k9', k2', ba_get, hg0, ust, e', ff_24]; done)))
          first | refine WK.retNil (Or.inr ⟨rfl, Or.inr rfl, _, rfl, fun _ _ => rfl, ?_⟩) | refine WK.retNil ⟨rfl, Or.inr rfl, _, rfl, fun _ _ => rfl, ?_⟩
          simp only [packed, fset_apply, Nat.reduceEqDiff, ↓reduceIte, List.getD_cons_zero, List.getD_cons_succ, BAS, ff_24]
          first | exact ⟨rfl, trivial, trivial⟩ | exact ⟨trivial, trivial, trivial⟩
        · have e' : ((b0.toNat : Int) = 48) = False := by
            simp only [eq_iff_iff, iff_false]
            intro h; exact e (UInt8.toNat_inj.1 (by rw [show UInt8.toNat 48 = 48 from rfl]; omega))
          have hl0 : lead0 (c.take k) = false := by
            unfold lead0; rw [ht0, hg0]; simp [e]
          repeat (first | apply WK.seq | apply WK.block | apply WK.skipSeq | apply WK.skipBlock | apply WK.retSeq | apply WK.retBlock | apply WK.exitSeq | apply WK.exitHere | refine WK.exitOn rfl ?_ | ((first | (refine WK.rgn ?_ ?_; kernel_rfl) | refine AtCall.now ?_); simp (config := { maxSteps := 1000000 }) only [SS, forall_const, wx, tguard, acallee, top, tval, fput, tor, vsh, vbin, tlen2, tpick, tsl, tsl2, tsl3, tsl4, tsl5, Go.AM.bound, tix, tix1, tix2, Int.reduceEq, Int.reduceNeg, Nat.reduceGT, Nat.reduceLT, Nat.reduceLeDiff, Nat.reduceEqDiff, ↓reduceIte, reduceCtorEq, Int.reduceToNat, Int.reduceLE, Int.reduceLT, Nat.reduceAdd, Nat.reduceMul, f0, f6, f7, k1', k9', k2', ba_get, hg0, ust, e', ff_24]) | (refine WK.condT ?_ ?_; focus (simp only [ev_tmp, ev_const, fset_apply, Nat.reduceEqDiff, ↓reduceIte, decide_true, decide_false, f0, f6, f7, k1', k9', k2', ba_get, hg0, ust, e', ff_24]; done)) | (refine WK.condF ?_ ?_; focus (simp only [ev_tmp, ev_const, fset_apply, Nat.reduceEqDiff, ↓reduceIte, decide_true, decide_false, f0, f6, f7, k1', k9', k2', ba_get, hg0, ust, e', ff_24]; done)))
          exact WK.skipNil (Or.inl ⟨rfl, ⟨by omega, by omega, hl0⟩, rfl, rfl, f0, f6, f7⟩)
      · have k2' : ((1 : Int) < (k : Int)) = False := by simp only [eq_iff_iff, iff_false]; omega
        have hl0 : lead0 (c.take k) = false := by
          unfold lead0; rw [htl, decide_eq_false k2]; rfl
        repeat (first | apply WK.seq | apply WK.block | apply WK.skipSeq | apply WK.skipBlock | apply WK.retSeq | apply WK.retBlock | apply WK.exitSeq | apply WK.exitHere | refine WK.exitOn rfl ?_ | ((first | (refine WK.rgn ?_ ?_; kernel_rfl) | refine AtCall.now ?_); simp (config := { maxSteps := 1000000 }) only [SS, forall_const, wx, tguard, acallee, top, tval, fput, tor, vsh, vbin, tlen2, tpick, tsl, tsl2, tsl3, tsl4, tsl5, Go.AM.bound, tix, tix1, tix2, Int.reduceEq, Int.reduceNeg, Nat.reduceGT, Nat.reduceLT, Nat.reduceLeDiff, Nat.reduceEqDiff, ↓reduceIte, reduceCtorEq, Int.reduceToNat, Int.reduceLE, Int.reduceLT, Nat.reduceAdd, Nat.reduceMul, f0, f6, f7, k1', k9', k2', ff_24]) | (refine WK.condT ?_ ?_; focus (simp only [ev_tmp, ev_const, fset_apply, Nat.reduceEqDiff, ↓reduceIte, decide_true, decide_false, f0, f6, f7, k1', k9', k2', ff_24]; done)) | (refine WK.condF ?_ ?_; focus (simp only [ev_tmp, ev_const, fset_apply, Nat.reduceEqDiff, ↓reduceIte, decide_true, decide_false, f0, f6, f7, k1', k9', k2', ff_24]; done)))
        exact WK.skipNil (Or.inl ⟨rfl, ⟨by omega, by omega, hl0⟩, rfl, rfl, f0, f6, f7⟩)
    clear f0 f6 f7
    rintro ⟨f, n3, H3⟩ ⟨good, rfl, rfl, f0, f6, f7⟩
    simp only at f0 f6 f7
    obtain ⟨gA, gB2, gB1⟩ := pgood good
    by_cases hkl : k = c.length
    · have e1 : ((k : Int) = (c.length : Int)) = True := by rw [hkl]; simp
      obtain ⟨g1, g2, g3⟩ := gA hkl
      subst g1
      repeat (first | apply WK.seq | apply WK.block | apply WK.skipSeq | apply WK.skipBlock | apply WK.retSeq | apply WK.retBlock | apply WK.exitSeq | apply WK.exitHere | refine WK.exitOn rfl ?_ | ((first | (refine WK.rgn ?_ ?_; kernel_rfl) | refine AtCall.now ?_); simp (config := { maxSteps := 1000000 }) only [SS, forall_const, wx, tguard, acallee, top, tval, fput, tor, vsh, vbin, tlen2, tpick, tsl, tsl2, tsl3, tsl4, tsl5, Go.AM.bound, tix, tix1, tix2, Int.reduceEq, Int.reduceNeg, Nat.reduceGT, Nat.reduceLT, Nat.reduceLeDiff, Nat.reduceEqDiff, ↓reduceIte, reduceCtorEq, Int.reduceToNat, Int.reduceLE, Int.reduceLT, Nat.reduceAdd, Nat.reduceMul, f0, f6, f7, ba_size, e1, ff_24]) | (refine WK.condT ?_ ?_; focus (simp only [ev_tmp, ev_const, fset_apply, Nat.reduceEqDiff, ↓reduceIte, decide_true, decide_false, f0, f6, f7, ba_size, e1, ff_24]; done)) | (refine WK.condF ?_ ?_; focus (simp only [ev_tmp, ev_const, fset_apply, Nat.reduceEqDiff, ↓reduceIte, decide_true, decide_false, f0, f6, f7, ba_size, e1, ff_24]; done)))
      (first | refine WK.retNil ⟨Or.inr rfl, _, rfl, ?_, ?_⟩ | refine WK.skipNil ⟨Or.inl rfl, _, rfl, ?_, ?_⟩)
      · exact fun _ _ => rfl
      · simp only [packed, fset_apply, Nat.reduceEqDiff, ↓reduceIte, List.getD_cons_zero, List.getD_cons_succ, BAS, f0, f6, g2, g3, ff_24]
        first | exact ⟨rfl, trivial, trivial⟩ | exact ⟨trivial, trivial, trivial⟩
    have e1 : ((k : Int) = (c.length : Int)) = False := by simp only [eq_iff_iff, iff_false]; omega
    have hg : c[k]? = some c[k] := List.getElem?_eq_getElem (by omega)
    generalize c[k] = b at hg
    by_cases h46 : b = 46
    · subst h46
      obtain ⟨g1, g2, g3⟩ := gB1 hg
      have e2 : ((UInt8.toNat 46 : Nat) : Int) = 46 := rfl
      have w1 : IntKind.i64.wrap ((c.length : Int) - (k : Int)) = ((c.length - k : Nat) : Int) := by rw [wrap_in (by omega) (by omega)]; omega
      by_cases l2 : c.length - k < 2
      · have l2' : (((c.length - k : Nat) : Int) < 2) = True := by simp only [eq_iff_iff, iff_true]; omega
        have hokf : ok = false := by
          rw [g3, show c.drop (k + 1) = [] from List.drop_eq_nil_of_le (by omega)]; rfl
        subst hokf
        repeat (first | apply WK.seq | apply WK.block | apply WK.skipSeq | apply WK.skipBlock | apply WK.retSeq | apply WK.retBlock | apply WK.exitSeq | apply WK.exitHere | refine WK.exitOn rfl ?_ | ((first | (refine WK.rgn ?_ ?_; kernel_rfl) | refine AtCall.now ?_); simp (config := { maxSteps := 1000000 }) only [SS, forall_const, wx, tguard, acallee, top, tval, fput, tor, vsh, vbin, tlen2, tpick, tsl, tsl2, tsl3, tsl4, tsl5, Go.AM.bound, tix, tix1, tix2, Int.reduceEq, Int.reduceNeg, Nat.reduceGT, Nat.reduceLT, Nat.reduceLeDiff, Nat.reduceEqDiff, ↓reduceIte, reduceCtorEq, Int.reduceToNat, Int.reduceLE, Int.reduceLT, Nat.reduceAdd, Nat.reduceMul, f0, f6, f7, ba_size, ba_get, hg, ust, e1, e2, w1, l2', Int.natCast_nonneg, Int.toNat_natCast, ff_24]) | (refine WK.condT ?_ ?_; focus (simp only [ev_tmp, ev_const, fset_apply, Nat.reduceEqDiff, ↓reduceIte, decide_true, decide_false, f0, f6, f7, ba_size, ba_get, hg, ust, e1, e2, w1, l2', Int.natCast_nonneg, Int.toNat_natCast, ff_24]; done)) | (refine WK.condF ?_ ?_; focus (simp only [ev_tmp, ev_const, fset_apply, Nat.reduceEqDiff, ↓reduceIte, decide_true, decide_false, f0, f6, f7, ba_size, ba_get, hg, ust, e1, e2, w1, l2', Int.natCast_nonneg, Int.toNat_natCast, ff_24]; done)))
        (first | refine WK.retNil ⟨Or.inr rfl, _, rfl, ?_, ?_⟩ | refine WK.skipNil ⟨Or.inl rfl, _, rfl, ?_, ?_⟩)
        · exact fun _ _ => rfl
        · simp only [packed, fset_apply, Nat.reduceEqDiff, ↓reduceIte, List.getD_cons_zero, List.getD_cons_succ, BAS, ff_24]
          first | exact ⟨rfl, trivial, trivial⟩ | exact ⟨trivial, trivial, trivial⟩
      have l2' : (((c.length - k : Nat) : Int) < 2) = False := by simp only [eq_iff_iff, iff_false]; omega
      by_cases l7 : 7 < c.length - k
      · have l7' : ((7 : Int) < ((c.length - k : Nat) : Int)) = True := by simp only [eq_iff_iff, iff_true]; omega
        have hokf : ok = false := by
          rw [g3]; unfold digsB
          rw [List.length_drop]
          have : decide (((c.length - (k + 1) : Nat) : Int) ≤ 6) = false := decide_eq_false (by omega)
          rw [this]; simp
        subst hokf
        repeat (first | apply WK.seq | apply WK.block | apply WK.skipSeq | apply WK.skipBlock | apply WK.retSeq | apply WK.retBlock | apply WK.exitSeq | apply WK.exitHere | refine WK.exitOn rfl ?_ | ((first | (refine WK.rgn ?_ ?_; kernel_rfl) | refine AtCall.now ?_); simp (config := { maxSteps := 1000000 }) only [SS, forall_const, wx, tguard, acallee, top, tval, fput, tor, vsh, vbin, tlen2, tpick, tsl, tsl2, tsl3, tsl4, tsl5, Go.AM.bound, tix, tix1, tix2, Int.reduceEq, Int.reduceNeg, Nat.reduceGT, Nat.reduceLT, Nat.reduceLeDiff, Nat.reduceEqDiff, ↓reduceIte, reduceCtorEq, Int.reduceToNat, Int.reduceLE, Int.reduceLT, Nat.reduceAdd, Nat.reduceMul, f0, f6, f7, ba_size, ba_get, hg, ust, e1, e2, w1, l2', l7', Int.natCast_nonneg, Int.toNat_natCast, ff_24]) | (refine WK.condT ?_ ?_; focus (simp only [ev_tmp, ev_const, fset_apply, Nat.reduceEqDiff, ↓reduceIte, decide_true, decide_false, f0, f6, f7, ba_size, ba_get, hg, ust, e1, e2, w1, l2', l7', Int.natCast_nonneg, Int.toNat_natCast, ff_24]; done)) | (refine WK.condF ?_ ?_; focus (simp only [ev_tmp, ev_const, fset_apply, Nat.reduceEqDiff, ↓reduceIte, decide_true, decide_false, f0, f6, f7, ba_size, ba_get, hg, ust, e1, e2, w1, l2', l7', Int.natCast_nonneg, Int.toNat_natCast, ff_24]; done)))
        (first | refine WK.retNil ⟨Or.inr rfl, _, rfl, ?_, ?_⟩ | refine WK.skipNil ⟨Or.inl rfl, _, rfl, ?_, ?_⟩)
        · exact fun _ _ => rfl
        · simp only [packed, fset_apply, Nat.reduceEqDiff, ↓reduceIte, List.getD_cons_zero, List.getD_cons_succ, BAS, ff_24]
          first | exact ⟨rfl, trivial, trivial⟩ | exact ⟨trivial, trivial, trivial⟩
      have l7' : ((7 : Int) < ((c.length - k : Nat) : Int)) = False := by simp only [eq_iff_iff, iff_false]; omega
      have w2 : IntKind.i64.wrap ((k : Int) + 1) = ((k + 1 : Nat) : Int) := by rw [wrap_in (by omega) (by omega)]; simp
      repeat (first | apply WK.seq | apply WK.block | apply WK.skipSeq | apply WK.skipBlock | apply WK.retSeq | apply WK.retBlock | apply WK.exitSeq | apply WK.exitHere | refine WK.exitOn rfl ?_ | ((first | (refine WK.rgn ?_ ?_; kernel_rfl) | refine AtCall.now ?_); simp (config := { maxSteps := 1000000 }) only [SS, forall_const, wx, tguard, acallee, top, tval, fput, tor, vsh, vbin, tlen2, tpick, tsl, tsl2, tsl3, tsl4, tsl5, Go.AM.bound, tix, tix1, tix2, Int.reduceEq, Int.reduceNeg, Nat.reduceGT, Nat.reduceLT, Nat.reduceLeDiff, Nat.reduceEqDiff, ↓reduceIte, reduceCtorEq, Int.reduceToNat, Int.reduceLE, Int.reduceLT, Nat.reduceAdd, Nat.reduceMul, f0, f6, f7, ba_size, ba_get, hg, ust, e1, e2, w1, w2, l2', l7', Int.natCast_nonneg, Int.toNat_natCast, ff_24]) | (refine WK.condT ?_ ?_; focus (simp only [ev_tmp, ev_const, fset_apply, Nat.reduceEqDiff, ↓reduceIte, decide_true, decide_false, f0, f6, f7, ba_size, ba_get, hg, ust, e1, e2, w1, w2, l2', l7', Int.natCast_nonneg, Int.toNat_natCast, ff_24]; done)) | (refine WK.condF ?_ ?_; focus (simp only [ev_tmp, ev_const, fset_apply, Nat.reduceEqDiff, ↓reduceIte, decide_true, decide_false, f0, f6, f7, ba_size, ba_get, hg, ust, e1, e2, w1, w2, l2', l7', Int.natCast_nonneg, Int.toNat_natCast, ff_24]; done)))
      rw [g1, g2]
      generalize htt : c.drop (k + 1) = t at *
      have htlen : t.length = c.length - (k + 1) := by rw [← htt, List.length_drop]
      have hget : ∀ j, c[k + 1 + j]? = t[j]? := fun j => by rw [← htt, List.getElem?_drop]
      refine WK.cutRetBlock (fun s => t.all isD = true ∧ s.n = n3 ∧ s.H = H3 ∧ s.f 0 = .string (BA c) ∧ s.f 6 = .bool neg ∧ s.f 7 = .int .i64 (k : Int)) ?_ ?_
      · refine WK.loop (fun kk s => ∃ i : Nat, i ≤ t.length ∧ (∀ j, j < i → ∀ b, t[j]? = some b → isD b = true) ∧ s.n = n3 ∧ s.H = H3 ∧ s.f 0 = .string (BA c) ∧ s.f 6 = .bool neg ∧ s.f 7 = .int .i64 (k : Int) ∧ s.f 8 = .int .i64 ((k + 1 + i : Nat) : Int) ∧ kk = t.length - i + 1) (t.length + 1) ?_ ?_
        · exact ⟨0, Nat.zero_le _, fun j hj => absurd hj (Nat.not_lt_zero _), rfl, rfl, f0, f6, f7, rfl, rfl⟩
        clear f0 f6 f7
        rintro kk ⟨f, n4, H4⟩ ⟨i, hi1, hdt, rfl, rfl, f0, f6, f7, f8, rfl⟩ ih
        simp only at f0 f6 f7 f8 ih
        by_cases hil : i < t.length
        · have hil' : (((k + 1 + i : Nat) : Int) < (c.length : Int)) = True := by simp only [eq_iff_iff, iff_true]; omega
          have hil2 : k + 1 + i < c.length := by omega
          have hgt : t[i]? = some t[i] := List.getElem?_eq_getElem hil
          have hgc := (hget i).trans hgt
          have hw1 : IntKind.i64.wrap (((k + 1 + i : Nat) : Int) + 1) = ((k + 1 + (i + 1) : Nat) : Int) := by rw [wrap_in (by omega) (by omega)]; omega
          generalize t[i] = b at hgt hgc
          generalize hki : k + 1 + i = m at *
          have h0 : (0 : Int) ≤ (m : Int) := by omega
          by_cases hb : isD b = true
          · have hb2 := (isD_iff b).1 hb
            have c1 : ((b.toNat : Int) < 48) = False := by simp only [eq_iff_iff, iff_false]; omega
            have c2 : ((57 : Int) < (b.toNat : Int)) = False := by simp only [eq_iff_iff, iff_false]; omega
            repeat (first | apply WK.seq | apply WK.block | apply WK.skipSeq | apply WK.skipBlock | apply WK.retSeq | apply WK.retBlock | apply WK.exitSeq | apply WK.exitHere | refine WK.exitOn rfl ?_ | ((first | (refine WK.rgn ?_ ?_; kernel_rfl) | refine AtCall.now ?_); simp (config := { maxSteps := 1000000 }) only [SS, forall_const, wx, tguard, acallee, top, tval, fput, tor, vsh, vbin, tlen2, tpick, tsl, tsl2, tsl3, tsl4, tsl5, Go.AM.bound, tix, tix1, tix2, Int.reduceEq, Int.reduceNeg, Nat.reduceGT, Nat.reduceLT, Nat.reduceLeDiff, Nat.reduceEqDiff, ↓reduceIte, reduceCtorEq, Int.reduceToNat, Int.reduceLE, Int.reduceLT, Nat.reduceAdd, Nat.reduceMul, f0, f6, f7, f8, hil', hil2, ba_size, ba_get, hgc, c1, c2, ust, h0, Int.toNat_natCast, ff_24]) | (refine WK.condT ?_ ?_; focus (simp only [ev_tmp, ev_const, fset_apply, Nat.reduceEqDiff, ↓reduceIte, decide_true, decide_false, f0, f6, f7, f8, hil', hil2, ba_size, ba_get, hgc, c1, c2, ust, h0, Int.toNat_natCast, ff_24]; done)) | (refine WK.condF ?_ ?_; focus (simp only [ev_tmp, ev_const, fset_apply, Nat.reduceEqDiff, ↓reduceIte, decide_true, decide_false, f0, f6, f7, f8, hil', hil2, ba_size, ba_get, hgc, c1, c2, ust, h0, Int.toNat_natCast, ff_24]; done)))
            refine ih (t.length - (i + 1) + 1) (by omega) _ ⟨i + 1, hil, ?_, rfl, rfl, f0, f6, f7, ?_, rfl⟩
            · intro j hj b' hb'
              by_cases e : j = i
              · subst e; rw [hgt] at hb'; cases hb'; exact hb
              · exact hdt j (by omega) b' hb'
            · simp only [packed, fset_apply, Nat.reduceEqDiff, ↓reduceIte, List.getD_cons_zero, List.getD_cons_succ, f8, hw1, ff_24]
          · have hb2 : ¬ (48 ≤ b.toNat ∧ b.toNat ≤ 57) := fun h => hb ((isD_iff b).2 h)
            have hall : t.all isD = false := by
              rw [Bool.eq_false_iff]
              intro h
              exact hb (List.all_eq_true.1 h b (List.mem_of_getElem? hgt))
            have hokf : ok = false := by rw [g3, digsB_false hall]
            subst hokf
            by_cases c0 : b.toNat < 48
            · have c1 : ((b.toNat : Int) < 48) = True := by simp only [eq_iff_iff, iff_true]; omega
              repeat (first | apply WK.seq | apply WK.block | apply WK.skipSeq | apply WK.skipBlock | apply WK.retSeq | apply WK.retBlock | apply WK.exitSeq | apply WK.exitHere | refine WK.exitOn rfl ?_ | ((first | (refine WK.rgn ?_ ?_; kernel_rfl) | refine AtCall.now ?_); simp (config := { maxSteps := 1000000 }) only [SS, forall_const, wx, tguard, acallee, top, tval, fput, tor, vsh, vbin, tlen2, tpick, tsl, tsl2, tsl3, tsl4, tsl5, Go.AM.bound, tix, tix1, tix2, Int.reduceEq, Int.reduceNeg, Nat.reduceGT, Nat.reduceLT, Nat.reduceLeDiff, Nat.reduceEqDiff, ↓reduceIte, reduceCtorEq, Int.reduceToNat, Int.reduceLE, Int.reduceLT, Nat.reduceAdd, Nat.reduceMul, f0, f6, f7, f8, hil', hil2, ba_size, ba_get, hgc, c1, ust, h0, Int.toNat_natCast, ff_24]) | (refine WK.condT ?_ ?_; focus (simp only [ev_tmp, ev_const, fset_apply, Nat.reduceEqDiff, ↓reduceIte, decide_true, decide_false, f0, f6, f7, f8, hil', hil2, ba_size, ba_get, hgc, c1, ust, h0, Int.toNat_natCast, ff_24]; done)) | (refine WK.condF ?_ ?_; focus (simp only [ev_tmp, ev_const, fset_apply, Nat.reduceEqDiff, ↓reduceIte, decide_true, decide_false, f0, f6, f7, f8, hil', hil2, ba_size, ba_get, hgc, c1, ust, h0, Int.toNat_natCast, ff_24]; done)))
              first | refine WK.retNil (Or.inr ⟨rfl, Or.inr rfl, _, rfl, fun _ _ => rfl, ?_⟩) | refine WK.retNil ⟨rfl, Or.inr rfl, _, rfl, fun _ _ => rfl, ?_⟩
              simp only [packed, fset_apply, Nat.reduceEqDiff, ↓reduceIte, List.getD_cons_zero, List.getD_cons_succ, BAS, ff_24]
              first | exact ⟨rfl, trivial, trivial⟩ | exact ⟨trivial, trivial, trivial⟩
            · have c1 : ((b.toNat : Int) < 48) = False := by simp only [eq_iff_iff, iff_false]; omega
              have c2 : ((57 : Int) < (b.toNat : Int)) = True := by simp only [eq_iff_iff, iff_true]; omega
              repeat (first | apply WK.seq | apply WK.block | apply WK.skipSeq | apply WK.skipBlock | apply WK.retSeq | apply WK.retBlock | apply WK.exitSeq | apply WK.exitHere | refine WK.exitOn rfl ?_ | ((first | (refine WK.rgn ?_ ?_; kernel_rfl) | refine AtCall.now ?_); simp (config := { maxSteps := 1000000 }) only [SS, forall_const, wx, tguard, acallee, top, tval, fput, tor, vsh, vbin, tlen2, tpick, tsl, tsl2, tsl3, tsl4, tsl5, Go.AM.bound, tix, tix1, tix2, Int.reduceEq, Int.reduceNeg, Nat.reduceGT, Nat.reduceLT, Nat.reduceLeDiff, Nat.reduceEqDiff, ↓reduceIte, reduceCtorEq, Int.reduceToNat, Int.reduceLE, Int.reduceLT, Nat.reduceAdd, Nat.reduceMul, f0, f6, f7, f8, hil', hil2, ba_size, ba_get, hgc, c1, c2, ust, h0, Int.toNat_natCast, ff_24]) | (refine WK.condT ?_ ?_; focus (simp only [ev_tmp, ev_const, fset_apply, Nat.reduceEqDiff, ↓reduceIte, decide_true, decide_false, f0, f6, f7, f8, hil', hil2, ba_size, ba_get, hgc, c1, c2, ust, h0, Int.toNat_natCast, ff_24]; done)) | (refine WK.condF ?_ ?_; focus (simp only [ev_tmp, ev_const, fset_apply, Nat.reduceEqDiff, ↓reduceIte, decide_true, decide_false, f0, f6, f7, f8, hil', hil2, ba_size, ba_get, hgc, c1, c2, ust, h0, Int.toNat_natCast, ff_24]; done)))
              first | refine WK.retNil (Or.inr ⟨rfl, Or.inr rfl, _, rfl, fun _ _ => rfl, ?_⟩) | refine WK.retNil ⟨rfl, Or.inr rfl, _, rfl, fun _ _ => rfl, ?_⟩
              simp only [packed, fset_apply, Nat.reduceEqDiff, ↓reduceIte, List.getD_cons_zero, List.getD_cons_succ, BAS, ff_24]
              first | exact ⟨rfl, trivial, trivial⟩ | exact ⟨trivial, trivial, trivial⟩
        · have hil' : (((k + 1 + i : Nat) : Int) < (c.length : Int)) = False := by simp only [eq_iff_iff, iff_false]; omega
          have hil2 : ¬ (k + 1 + i < c.length) := by omega
          generalize hki : k + 1 + i = m at *
          repeat (first | apply WK.seq | apply WK.block | apply WK.skipSeq | apply WK.skipBlock | apply WK.retSeq | apply WK.retBlock | apply WK.exitSeq | apply WK.exitHere | refine WK.exitOn rfl ?_ | ((first | (refine WK.rgn ?_ ?_; kernel_rfl) | refine AtCall.now ?_); simp (config := { maxSteps := 1000000 }) only [SS, forall_const, wx, tguard, acallee, top, tval, fput, tor, vsh, vbin, tlen2, tpick, tsl, tsl2, tsl3, tsl4, tsl5, Go.AM.bound, tix, tix1, tix2, Int.reduceEq, Int.reduceNeg, Nat.reduceGT, Nat.reduceLT, Nat.reduceLeDiff, Nat.reduceEqDiff, ↓reduceIte, reduceCtorEq, Int.reduceToNat, Int.reduceLE, Int.reduceLT, Nat.reduceAdd, Nat.reduceMul, f0, f6, f7, f8, hil', hil2, ba_size, ff_24]) | (refine WK.condT ?_ ?_; focus (simp only [ev_tmp, ev_const, fset_apply, Nat.reduceEqDiff, ↓reduceIte, decide_true, decide_false, f0, f6, f7, f8, hil', hil2, ba_size, ff_24]; done)) | (refine WK.condF ?_ ?_; focus (simp only [ev_tmp, ev_const, fset_apply, Nat.reduceEqDiff, ↓reduceIte, decide_true, decide_false, f0, f6, f7, f8, hil', hil2, ba_size, ff_24]; done)))
          refine WK.skipNil (Or.inl ⟨rfl, ?_, rfl, rfl, f0, f6, f7⟩)
          rw [List.all_eq_true]
          intro b hb
          obtain ⟨j, hj, e⟩ := List.getElem_of_mem hb
          exact hdt j (by omega) b (by rw [← e]; exact List.getElem?_eq_getElem hj)
      clear f0 f6 f7
      rintro ⟨f, n4, H4⟩ ⟨hall, rfl, rfl, f0, f6, f7⟩
      simp only at f0 f6 f7
      have hokt : ok = true := by
        rw [g3]
        have := digsB_of hall 1 6
        have h2 : digsB t 1 6 = (decide (1 ≤ t.length) && decide (t.length ≤ 6)) := this
        rw [h2, decide_eq_true (by omega), decide_eq_true (by omega)]; rfl
      subst hokt
      have k3 : k ≤ c.length := hk1
      have k4 : k + 1 ≤ c.length := by omega
      have s1 : (c.take k).drop 0 = c.take k := rfl
      have s2 : (c.take c.length).drop (k + 1) = t := by rw [List.take_length]; exact htt
      repeat (first | apply WK.seq | apply WK.block | apply WK.skipSeq | apply WK.skipBlock | apply WK.retSeq | apply WK.retBlock | apply WK.exitSeq | apply WK.exitHere | refine WK.exitOn rfl ?_ | ((first | (refine WK.rgn ?_ ?_; kernel_rfl) | refine AtCall.now ?_); simp (config := { maxSteps := 1000000 }) only [SS, forall_const, wx, tguard, acallee, top, tval, fput, tor, vsh, vbin, tlen2, tpick, tsl, tsl2, tsl3, tsl4, tsl5, Go.AM.bound, tix, tix1, tix2, Int.reduceEq, Int.reduceNeg, Nat.reduceGT, Nat.reduceLT, Nat.reduceLeDiff, Nat.reduceEqDiff, ↓reduceIte, reduceCtorEq, Int.reduceToNat, Int.reduceLE, Int.reduceLT, Nat.reduceAdd, Nat.reduceMul, f0, f6, f7, BAS, ba_size, ba_ext, aop_ssl, tss, tss2, sbnd, ust, w2, k3, k4, s1, s2, Nat.zero_le, Int.natCast_nonneg, Int.toNat_natCast, ff_24]) | (refine WK.condT ?_ ?_; focus (simp only [ev_tmp, ev_const, fset_apply, Nat.reduceEqDiff, ↓reduceIte, decide_true, decide_false, f0, f6, f7, BAS, ba_size, ba_ext, aop_ssl, tss, tss2, sbnd, ust, w2, k3, k4, s1, s2, Nat.zero_le, Int.natCast_nonneg, Int.toNat_natCast, ff_24]; done)) | (refine WK.condF ?_ ?_; focus (simp only [ev_tmp, ev_const, fset_apply, Nat.reduceEqDiff, ↓reduceIte, decide_true, decide_false, f0, f6, f7, BAS, ba_size, ba_ext, aop_ssl, tss, tss2, sbnd, ust, w2, k3, k4, s1, s2, Nat.zero_le, Int.natCast_nonneg, Int.toNat_natCast, ff_24]; done)))
      (first | refine WK.retNil ⟨Or.inr rfl, _, rfl, ?_, ?_⟩ | refine WK.skipNil ⟨Or.inl rfl, _, rfl, ?_, ?_⟩)
      · exact fun _ _ => rfl
      · simp only [packed, fset_apply, Nat.reduceEqDiff, ↓reduceIte, List.getD_cons_zero, List.getD_cons_succ, BAS, f6, ff_24]
        first | exact ⟨rfl, trivial, trivial⟩ | exact ⟨trivial, trivial, trivial⟩
    · have hokf := gB2 b hg h46
      have e2 : ((b.toNat : Int) = 46) = False := by
        simp only [eq_iff_iff, iff_false]
        intro h; exact h46 (UInt8.toNat_inj.1 (by rw [show UInt8.toNat 46 = 46 from rfl]; omega))
      subst hokf
      repeat (first | apply WK.seq | apply WK.block | apply WK.skipSeq | apply WK.skipBlock | apply WK.retSeq | apply WK.retBlock | apply WK.exitSeq | apply WK.exitHere | refine WK.exitOn rfl ?_ | ((first | (refine WK.rgn ?_ ?_; kernel_rfl) | refine AtCall.now ?_); simp (config := { maxSteps := 1000000 }) only [SS, forall_const, wx, tguard, acallee, top, tval, fput, tor, vsh, vbin, tlen2, tpick, tsl, tsl2, tsl3, tsl4, tsl5, Go.AM.bound, tix, tix1, tix2, Int.reduceEq, Int.reduceNeg, Nat.reduceGT, Nat.reduceLT, Nat.reduceLeDiff, Nat.reduceEqDiff, ↓reduceIte, reduceCtorEq, Int.reduceToNat, Int.reduceLE, Int.reduceLT, Nat.reduceAdd, Nat.reduceMul, f0, f6, f7, ba_size, ba_get, hg, ust, e1, e2, Int.natCast_nonneg, Int.toNat_natCast, ff_24]) | (refine WK.condT ?_ ?_; focus (simp only [ev_tmp, ev_const, fset_apply, Nat.reduceEqDiff, ↓reduceIte, decide_true, decide_false, f0, f6, f7, ba_size, ba_get, hg, ust, e1, e2, Int.natCast_nonneg, Int.toNat_natCast, ff_24]; done)) | (refine WK.condF ?_ ?_; focus (simp only [ev_tmp, ev_const, fset_apply, Nat.reduceEqDiff, ↓reduceIte, decide_true, decide_false, f0, f6, f7, ba_size, ba_get, hg, ust, e1, e2, Int.natCast_nonneg, Int.toNat_natCast, ff_24]; done)))
      (first | refine WK.retNil ⟨Or.inr rfl, _, rfl, ?_, ?_⟩ | refine WK.skipNil ⟨Or.inl rfl, _, rfl, ?_, ?_⟩)
      · exact fun _ _ => rfl
      · simp only [packed, fset_apply, Nat.reduceEqDiff, ↓reduceIte, List.getD_cons_zero, List.getD_cons_succ, BAS, ff_24]
        first | exact ⟨rfl, trivial, trivial⟩ | exact ⟨trivial, trivial, trivial⟩
end Go.Proofs.YtddpnhhgmfaloaaGreatDoor
