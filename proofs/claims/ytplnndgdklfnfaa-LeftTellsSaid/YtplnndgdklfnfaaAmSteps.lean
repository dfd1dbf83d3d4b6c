/- The abstract machine: what each operation of a region does, in the model; what a whole region does, in the text's order and in whatever order. -/
import Derived.Test.YtplnndgdklfnfaaAmSound
set_option linter.all false
namespace Go.AM
open Go.RowKit

section
variable {P : Program} {nt : Nat} {all : Array Oper} {o : Oper}

theorem step_skip {s : St} (hok : operOK nt all o = true) (hw : wantedA all s.f o = false) : StepOK P nt all o ⟨s, undef, s.n, s.H, [], none, false⟩ := by
  refine ⟨Mono.refl _ _, fun _ _ x h => absurd rfl h, fun x h => ?_, fun h => absurd rfl h, fun h => absurd rfl h, fun h => by (cases h), ?_⟩
  · rcases h with h | h
    · cases h
    · cases h
  · intro _ base ι C a w hsz hl hR _ _ K Q hK
    rw [wanted_iff hok hsz hl, hw]
    simp only [Bool.false_eq_true, if_false]
    exact hK undef w ι C (undef_refl ι) (After.refl hR _ _)

theorem upon_of_good {a : Act} {w w' : World} {nx : Next} {v' : Value} {K : Act → World → Prop} {Q : Exit → Act → World → Prop} (hr : (execOp a.eval o).run P w = .ok nx w')
    (hnx : nx = .value v' ∨ (nx = .skip ∧ v' = undef)) (hK : K (a.put o.dst v') w') : o.wp P a w K Q := by
  unfold Oper.wp
  rw [hr]
  rcases hnx with rfl | ⟨rfl, rfl⟩
  · exact hK
  · exact hK

theorem step_op {s : St} {r : Res} (hok : operOK nt all o = true) (hw : wantedA all s.f o = true) (h : aop P (evalA s.f) s.n s.H o = some r) :
    StepOK P nt all o ⟨s, r.v, r.next s.n, r.heap s.n s.H, r.rd, r.wr.map (·.1), false⟩ := by
  have F := aop_facts h
  have hwr : ∀ x, r.wr.map (·.1) = some x → ∃ ob, r.wr = some (x, ob) := by
    intro x e
    obtain ⟨p, h1, h2⟩ := Option.map_eq_some_iff.1 e
    obtain ⟨y, ob⟩ := p
    simp at h2
    subst h2
    exact ⟨ob, h1⟩
  refine ⟨heap_mono F.wr, fun _ _ x hx => ?_, fun x hx => ?_, fun hx => F.mw ?_, F.mt, fun e => by (cases e), ?_⟩
  · rcases res_heap hx with ⟨h1, h2⟩ | ⟨ob, h1⟩
    · left
      subst h2
      refine ⟨Nat.le_refl _, ?_⟩
      show s.n < r.next s.n
      unfold Res.next
      cases hn : r.news with
      | nil => exact absurd hn h1
      | cons a l => exact Nat.lt_succ_self _
    · right; simp [h1]
  · rcases hx with hx | hx
    · exact F.rd x hx
    · obtain ⟨ob, h1⟩ := hwr x hx; exact F.wr x ob h1
  · intro e; rw [e] at hx; exact hx rfl
  · intro hwf base ι C a w hsz hl hR hp hf K Q hK
    rw [wanted_iff hok hsz hl, hw]
    simp only [if_true]
    have hn : r.news ≠ [] → ι s.n = none ∧ s.H s.n = .dead := by
      intro hne
      refine ⟨hf s.n (Nat.le_refl _) ?_, hwf _ (Nat.le_refl _)⟩
      show s.n < r.next s.n
      unfold Res.next
      cases hn : r.news with
      | nil => exact absurd hn hne
      | cons a l => exact Nat.lt_succ_self _
    have hwr' : ∀ x ob, r.wr = some (x, ob) → ι x ≠ none → C x = s.H x := fun x ob e hi => hp x (.inr (.inr (by simp [e]))) hi
    obtain ⟨nx, w', κ, v', h1, h2, h3, h4, h5, h6, h7, h8, h9⟩ := aop_sound hR h (operands_rel hok hl) (fun x hx hi => hp x (.inr (.inl hx)) hi) hwr' hn
    refine upon_of_good h1 h2 (hK v' w' κ _ h3 ⟨h4, fun x hx => ?_, patch_ch fun x hx => ?_, fun x hx => ?_, h6, h7⟩)
    · by_cases hne : r.news = []
      · exact h5 x (.inr hne)
      · refine h5 x (.inl fun e => hx ⟨Nat.le_of_eq e.symm, ?_⟩)
        subst e
        show s.n < r.next s.n
        unfold Res.next
        cases hn : r.news with
        | nil => exact absurd hn hne
        | cons a l => exact Nat.lt_succ_self _
    · rcases res_heap hx with ⟨e1, e2⟩ | ⟨ob, e1⟩
      · subst e2
        obtain ⟨g1, g2⟩ := hn e1
        rw [g2]
        by_cases hd : C s.n = .dead
        · exact hd
        · obtain ⟨t, ht⟩ := (hR.obj s.n).tgt hd
          rw [g1] at ht; cases ht
      · exact hwr' x ob e1 (h8 x ob e1)
    · rcases res_heap hx with ⟨e1, e2⟩ | ⟨ob, e1⟩
      · subst e2; exact h9 e1
      · intro e
        have := h8 x ob e1
        cases hi : ι x with
        | none => exact this hi
        | some t => rw [h4 x t hi] at e; cases e

/-- What a call of a Go function does. -/
def CallSound (P : Program) (g : FuncId) (args : List Value) (n : Nat) (H : Heap) (v : Value) (n' : Nat) (H' : Heap) : Prop :=
  WF n H → ∀ (base : Nat) (ι : Inj) (C : Heap) (w : World) (args' : List Value), VRs ι args args' → HR P base ι C w → Pres ι C H → Fresh ι n n' →
    Calls P g args'.toArray w fun e w' => ∃ v' κ C', e = .returned v' ∧ VR κ v v' ∧ After P base ι C H n w κ C' H' n' w'

theorem callee_run {ρ ρ' : Operand → Value} {g : FuncId} {args : List Value} {fn : Func} {c : Code} {ι : Inj} (h : acallee ρ o = some (g, args)) (hf : FnOK P g fn c) (hρ : ∀ x ∈ o.op.operands, VR ι (ρ x) (ρ' x)) (w : World) :
    isCall o = true ∧ ∃ args', VRs ι args args' ∧ (execOp ρ' o).run P w = .ok (.enter g args'.toArray) w := by
  obtain ⟨dst, op, type, pos, after, guard⟩ := o
  unfold acallee at h
  simp only at h
  split at h
  case h_2 => cases h
  rename_i q qs tys
  split at h
  case h_2 => cases h
  rename_i g' first captured hg
  simp only [Option.some.injEq, Prod.mk.injEq] at h
  obtain ⟨rfl, rfl⟩ := h
  refine ⟨rfl, ?_⟩
  have hq := hρ q (by simp [Op.operands, Call.operands])
  rw [hg] at hq
  generalize hq' : ρ' q = q' at hq
  cases hq with
  | func _ _ _ a' b' ha hb hra hrb =>
    have hargs := VRs_map (ι := ι) (ρ := ρ) (ρ' := ρ') (l := qs.toList) (fun x hx => hρ x (by simp [Op.operands, Call.operands]; exact .inr (by simpa using hx)))
    refine ⟨a'.toList ++ qs.toList.map ρ' ++ b'.toList, ((VRs.of_arrays ha hra).append hargs).append (VRs.of_arrays hb hrb), ?_⟩
    have hn : fn.name ≠ "runtime.NumGoroutine" := by simpa using hf.name
    have hc : ∀ as : Array Value, (callFunc g' as).run P w = .ok (.enter g' as) w := by
      intro as
      simp [callFunc, hf.get, hn, hf.body]
    have he : (a'.toList ++ qs.toList.map ρ' ++ b'.toList).toArray = a' ++ qs.map ρ' ++ b' := by apply Array.ext'; simp
    rw [he]
    simp [execOp, resolve, hq', Deferred.ofValue, invoke, hc]

theorem step_call {s : St} {g : FuncId} {args : List Value} {v : Value} {n : Nat} {H : Heap} {fn : Func} {c : Code} (hok : operOK nt all o = true) (hw : wantedA all s.f o = true)
    (h : acallee (evalA s.f) o = some (g, args)) (hf : FnOK P g fn c) (hm : Mono s.n s.H n H) (hc : CallSound P g args s.n s.H v n H) :
    StepOK P nt all o ⟨s, v, n, H, [], none, true⟩ := by
  refine ⟨hm, fun e => by (cases e), fun x hx => ?_, fun e => absurd rfl e, fun e => absurd rfl e, fun _ => ?_, ?_⟩
  · rcases hx with hx | hx
    · cases hx
    · cases hx
  · obtain ⟨dst, op, type, pos, after, guard⟩ := o
    unfold acallee at h
    simp only at h
    split at h
    case h_2 => cases h
    rfl
  · intro hwf base ι C a w hsz hl hR hp hfr K Q hK
    rw [wanted_iff hok hsz hl, hw]
    simp only [if_true]
    obtain ⟨_, args', hv, hrun⟩ := callee_run h hf (operands_rel hok hl) w
    unfold Oper.wp
    rw [hrun, Oper.upon_enter]
    refine (hc hwf base ι C w args' hv hR (fun x hi hd => hp x (.inl ⟨rfl, hd⟩) hi) hfr).mono ?_
    rintro e w' ⟨v', κ, C', rfl, hvr, ha⟩
    exact hK v' w' κ C' hvr ha

/-- A region's operations, one behind the other. -/
inductive Chain (P : Program) (nt : Nat) (all : Array Oper) : List Oper → St → List Rec → St → Prop where
  | nil (s : St) : Chain P nt all [] s [] s
  | cons {o : Oper} {rest : List Oper} {r : Rec} {l : List Rec} {s1 : St} : StepOK P nt all o r → Chain P nt all rest ⟨fput r.pre.f o.dst r.v, r.n, r.H⟩ l s1 → Chain P nt all (o :: rest) r.pre (r :: l) s1

theorem Chain.mono {rest : List Oper} {s s1 : St} {l : List Rec} (h : Chain P nt all rest s l s1) : Mono s.n s.H s1.n s1.H := by
  induction h with
  | nil s => exact Mono.refl _ _
  | cons hs _ ih => exact hs.mono.trans ih

theorem looks_lt (hok : operOK nt all o = true) : ∀ t ∈ o.looksAt all, t < nt := by
  intro t ht
  simp only [operOK, Bool.and_eq_true, List.all_eq_true] at hok
  unfold Oper.looksAt at ht
  rw [List.mem_append] at ht
  rcases ht with ht | ht
  · obtain ⟨x, hx, e⟩ := List.mem_filterMap.1 ht
    cases x <;> simp at e
    subst e
    have := hok.1.1.2 _ (by simpa using hx)
    simpa [operandOK] using this
  · cases hg : o.guard with
    | none => simp [hg] at ht
    | some p =>
      obtain ⟨j, want⟩ := p
      simp only [hg] at ht hok
      cases hd : (all[j]?).bind (·.dst) with
      | none => simp [hd] at ht
      | some d =>
        simp [hd] at ht
        subst ht
        have := hok.1.2
        simpa [hd] using this

theorem dst_ok (hok : operOK nt all o = true) : (match o.dst with | some d => decide (d < nt) | none => true) = true := by
  simp only [operOK, Bool.and_eq_true] at hok
  exact hok.1.1.1

/-- IN THE TEXT's ORDER. -/
theorem wp_text {Q : Exit → Act → World → Prop} : ∀ {rest : List Oper} {s s1 : St} {l : List Rec}, Chain P nt all rest s l s1 → ∀ (k : Nat), (∀ i o, rest[i]? = some o → all[k + i]? = some o) →
    (∀ o ∈ rest, operOK nt all o = true) → WF s.n s.H → ∀ (base : Nat) (ι : Inj) (C : Heap) (a : Act) (w : World), FR ι nt s.f a.tmps → HR P base ι C w → Pres ι C s.H → Fresh ι s.n s1.n →
    (∀ a' w' κ C', FR κ nt s1.f a'.tmps → a'.defers = a.defers → After P base ι C s.H s.n w κ C' s1.H s1.n w' → Q .normal a' w') → wpOps P all Q (List.range' k rest.length) a w := by
  intro rest s s1 l h
  induction h with
  | nil s =>
    intro k _ _ _ base ι C a w hF hR _ _ hK
    exact hK a w ι C hF rfl (After.refl hR _ _)
  | @cons o rest r l s1 hs hc ih =>
    intro k hk hok hwf base ι C a w hF hR hp hf hK
    have hko : all[k]? = some o := by simpa using hk 0 o (by simp)
    have hoo := hok o (by simp)
    simp only [List.length_cons, List.range'_succ]
    rw [wpOps_cons]
    unfold wpOp
    simp only [hko]
    have hle := hs.mono.le
    have hle2 := hc.mono.le
    have h1 := hs.exec hwf base ι C a w hF.1 (fun t ht => hF.2 t (looks_lt hoo t ht)) hR (fun x hx hi => hp x hi (by
        rcases hx with ⟨_, hx⟩ | hx
        · exact hx
        · exact hs.live x hx)) (fun x h1 h2 => hf x h1 (Nat.lt_of_lt_of_le h2 hle2)) (wpOps P all Q (List.range' (k + 1) rest.length)) Q
      (fun v' w' κ C' hv ha => by
        refine ih (k + 1) (fun i o' e => by rw [show k + 1 + i = k + (i + 1) by omega]; exact hk (i + 1) o' (by simpa using e)) (fun o' ho' => hok o' (by simp [ho'])) (hs.mono.wf hwf) base κ C' _ w'
          ((hF.mono ha.le).put (dst_ok hoo) hv) ha.hr (ha.pres hp hwf) (ha.fresh hf hle) ?_
        intro a' w'' μ C'' hF' hd ha'
        exact hK a' w'' μ C'' hF' (by rw [hd]; cases o.dst <;> rfl) (ha.trans ha' hle hle2))
    split
    · rename_i hw; simp only [hw, if_true] at h1; exact .inl h1
    · rename_i hw; simp only [hw] at h1; exact h1

end
end Go.AM
