/- The abstract machine is sound: what a run of it comes to, the model comes to, whatever the tape. -/
import Derived.Test.YtplnndgdklfnfaaAmDraw
import Derived.LoopN
set_option linter.all false
namespace Go.AM
open Go.RowKit

def exitOf : AExit → Exit
  | .normal => .normal
  | .exit id => .exit id
  | .ret => .ret

/-- From state s the model comes, by X, to exit e in state s'. -/
def Exec (P : Program) (nt : Nat) (s : St) (e : AExit) (s' : St) (X : (Exit → Act → World → Prop) → Act → World → Prop) : Prop :=
  ∀ (base : Nat) (ι : Inj) (C : Heap) (a : Act) (w : World), FR ι nt s.f a.tmps → a.defers = [] → HR P base ι C w → Pres ι C s.H → Fresh ι s.n s'.n →
    ∀ Q : Exit → Act → World → Prop, (∀ a' w' κ C', FR κ nt s'.f a'.tmps → a'.defers = [] → After P base ι C s.H s.n w κ C' s'.H s'.n w' → Q (exitOf e) a' w') → X Q a w

def M (P : Program) : Job → Out → Prop
  | .code c s, .at e s' => ∀ nt, codeOK nt c = true → Mono s.n s.H s'.n s'.H ∧ (WF s.n s.H → Exec P nt s e s' (fun Q a w => c.wp P Q a w) ∧
      ∀ b, c = .loop b → ∃ n, Exec P nt s e s' (fun Q a w => Code.rounds P b Q n a w))
  | .ops all rest s, .log s' l => ∀ nt, (∀ o ∈ rest, operOK nt all o = true) → Chain P nt all rest s l s'
  | .call g args n H, .ret v n' H' => Mono n H n' H' ∧ CallSound P g args n H v n' H' ∧ ∃ fn c, FnOK P g fn c
  | _, _ => True

section
variable {P : Program}

theorem exec_then {nt : Nat} {s s1 s2 : St} {e : AExit} {X Y Z : (Exit → Act → World → Prop) → Act → World → Prop} (h1 : Mono s.n s.H s1.n s1.H) (h2 : Mono s1.n s1.H s2.n s2.H) (hw : WF s.n s.H)
    (hX : Exec P nt s .normal s1 X) (hY : Exec P nt s1 e s2 Y) (hZ : ∀ Q a w, X (Exit.then (fun a w => Y Q a w) Q) a w → Z Q a w) : Exec P nt s e s2 Z := by
  intro base ι C a w hF hd hR hp hf Q hQ
  refine hZ Q a w (hX base ι C a w hF hd hR hp (fun x a1 a2 => hf x a1 (Nat.lt_of_lt_of_le a2 h2.le)) _ fun a' w' κ C' hF' hd' ha => ?_)
  exact hY base κ C' a' w' hF' hd' ha.hr (ha.pres hp hw) (ha.fresh hf h1.le) Q fun a'' w'' μ C'' hF'' hd'' ha' => hQ a'' w'' μ C'' hF'' hd'' (ha.trans ha' h1.le h2.le)

theorem exec_out {nt : Nat} {s s1 : St} {e : AExit} {X Z : (Exit → Act → World → Prop) → Act → World → Prop} {Y : (Exit → Act → World → Prop) → Act → World → Prop} (he : e ≠ .normal)
    (hX : Exec P nt s e s1 X) (hZ : ∀ Q a w, X (Exit.then (fun a w => Y Q a w) Q) a w → Z Q a w) : Exec P nt s e s1 Z := by
  intro base ι C a w hF hd hR hp hf Q hQ
  refine hZ Q a w (hX base ι C a w hF hd hR hp hf _ fun a' w' κ C' hF' hd' ha => ?_)
  cases e with
  | normal => exact absurd rfl he
  | exit id => exact hQ a' w' κ C' hF' hd' ha
  | ret => exact hQ a' w' κ C' hF' hd' ha

theorem exec_same {nt : Nat} {s : St} {e : AExit} {X : (Exit → Act → World → Prop) → Act → World → Prop} (hX : ∀ Q a w, Q (exitOf e) a w → X Q a w) : Exec P nt s e s X :=
  fun _ _ _ a w hF hd hR _ _ Q hQ => hX Q a w (hQ a w _ _ hF hd (After.refl hR _ _))

def resRun (tmps : Array Value) : ResultVar → Sem Value
  | .tmp t => pure (tmps.getD t undef)
  | .cell a t => do loadVar t (← asAddr (tmps.getD a undef))
theorem results_eq (fn : Func) (tmps : Array Value) : results fn tmps = (do let vs ← fn.results.mapM (resRun tmps); pure (if h : vs.size = 1 then vs[0] else .tuple vs)) := rfl

theorem result_run {nt : Nat} {base : Nat} {ι : Inj} {C : Heap} {w : World} {s : St} {tmps : Array Value} {r : ResultVar} {v : Value} (h : aresult P s r = some v)
    (hr : resOK nt r = true) (hF : FR ι nt s.f tmps) (hR : HR P base ι C w) (hp : Pres ι C s.H) :
    ∃ v', (resRun tmps r).run P w = .ok v' w ∧ VR ι v v' := by
  cases r with
  | tmp t =>
    simp only [aresult, Option.some.injEq] at h
    subst h
    exact ⟨_, rfl, hF.2 t (by simpa [resOK] using hr)⟩
  | cell a ty =>
    simp only [aresult] at h
    obtain ⟨res, h1, rfl⟩ := Option.map_eq_some_iff.1 h
    have F : ∀ x ∈ res.rd, s.H x ≠ .dead := by
      have := (aop_facts (P := P) (n := 0) (H := s.H) (ρ := fun _ => s.f a) (o := ⟨none, .load ty (.tmp 0), 0, "", #[], none⟩) (r := res) h1).rd
      exact this
    obtain ⟨v', ad, e1, e2, e3, _⟩ := load_run hR h1 (hF.2 a (by simpa [resOK] using hr)) (fun x hx hi => hp x hi (F x hx))
    refine ⟨v', ?_, e3⟩
    simp [resRun, e1, asAddr, e2]

theorem results_run {fn : Func} {base : Nat} {ι : Inj} {C : Heap} {w : World} {s : St} {tmps : Array Value} {v : Value} (h : aresults P fn s = some v) (hok : resultsOK fn = true) (hF : FR ι fn.ntmps s.f tmps)
    (hR : HR P base ι C w) (hp : Pres ι C s.H) : ∃ v', (results fn tmps).run P w = .ok v' w ∧ VR ι v v' := by
  have key : ∀ (rs : List ResultVar) (l : List Value), aresultsL P s rs = some l → (∀ r ∈ rs, resOK fn.ntmps r = true) →
      ∃ l', (rs.mapM (resRun tmps)).run P w = .ok l' w ∧ VRs ι l l' := by
    intro rs
    induction rs with
    | nil => intro l hl _; simp only [aresultsL] at hl; cases hl; exact ⟨[], by simp, .nil ι⟩
    | cons r rs ih =>
      intro l hl hr
      simp only [aresultsL] at hl
      split at hl
      case h_2 => cases hl
      rename_i v l hv hl'
      cases hl
      obtain ⟨v', e1, e2⟩ := result_run hv (hr r (by simp)) hF hR hp
      obtain ⟨l', e3, e4⟩ := ih l hl' fun r' h' => hr r' (by simp [h'])
      refine ⟨v' :: l', ?_, .cons e2 e4⟩
      rw [List.mapM_cons, Sem.run_bind, e1, Result.andThen_ok, Sem.run_bind, e3]
      rfl
  unfold aresults at h
  obtain ⟨l, h1, h2⟩ := Option.map_eq_some_iff.1 h
  obtain ⟨l', e1, e2⟩ := key fn.results.toList l h1 (by unfold resultsOK at hok; rw [List.all_eq_true] at hok; exact hok)
  have hrun : (results fn tmps).run P w = .ok (if h : l'.toArray.size = 1 then l'.toArray[0] else .tuple l'.toArray) w := by
    rw [results_eq, Sem.run_bind, Array.mapM_eq_mapM_toList, Sem.run_map]
    rw [e1]
    rfl
  refine ⟨_, hrun, ?_⟩
  cases l with
  | nil =>
    simp only at h2
    subst h2
    rw [e2.nil_inv]
    exact (VRs.nil ι).tuple
  | cons v1 l =>
    obtain ⟨v1', k, rfl, r1, r2⟩ := e2.cons_inv
    cases l with
    | nil =>
      simp only at h2
      subst h2
      rw [r2.nil_inv]
      exact r1
    | cons v2 l =>
      obtain ⟨v2', k2, rfl, r3, r4⟩ := r2.cons_inv
      simp only at h2
      subst h2
      have : (if h : (v1' :: v2' :: k2).toArray.size = 1 then (v1' :: v2' :: k2).toArray[0] else .tuple (v1' :: v2' :: k2).toArray) = Value.tuple (v1' :: v2' :: k2).toArray := by
        rw [dif_neg (by simp)]
      rw [this]
      exact (VRs.cons r1 (VRs.cons r3 r4)).tuple

theorem enter_fr {ι : Inj} {args args' : List Value} (h : VRs ι args args') {nt : Nat} (hl : args.length ≤ nt) : FR ι nt (fun t => args.getD t undef) (args'.toArray ++ Array.replicate (nt - args'.toArray.size) undef) := by
  have h1 := h.1
  refine ⟨by simp; omega, fun t ht => ?_⟩
  rw [Array.getD_eq_getD_getElem?, Array.getElem?_append]
  by_cases hlt : t < args'.length
  · have hlt2 : t < args.length := by omega
    simp only [List.size_toArray, hlt, if_true]
    have e1 : args[t]? = some args[t] := List.getElem?_eq_getElem hlt2
    obtain ⟨v', e2, e3⟩ := h.get e1
    simp only [List.getD, e1, Option.getD_some]
    simp only [List.getElem?_toArray, e2, Option.getD_some]
    exact e3
  · have hlt2 : ¬ t < args.length := by omega
    have hin : t - args'.length < nt - args'.length := by omega
    simp only [List.size_toArray, hlt, if_false]
    simp only [List.getD, List.getElem?_eq_none (Nat.le_of_not_lt hlt2), Option.getD_none]
    simp [hin]
    exact undef_refl ι

/-- THE MACHINE IS SOUND. -/
theorem sound (hm : P.follows .mixedOrders = true) {j : Job} {o : Out} (h : BS P j o) : M P j o := by
  induction h with
  | skip s => exact fun nt _ => ⟨Mono.refl _ _, fun _ => ⟨exec_same fun Q a w h => wp_skip h, fun b e => by cases e⟩⟩
  | label l s => exact fun nt _ => ⟨Mono.refl _ _, fun _ => ⟨exec_same fun Q a w h => wp_label h, fun b e => by cases e⟩⟩
  | ret s => exact fun nt _ => ⟨Mono.refl _ _, fun _ => ⟨exec_same fun Q a w h => wp_ret h, fun b e => by cases e⟩⟩
  | exit id s => exact fun nt _ => ⟨Mono.refl _ _, fun _ => ⟨exec_same fun Q a w h => wp_exit h, fun b e => by cases e⟩⟩
  | seq _ _ ih1 ih2 =>
    intro nt hok
    simp only [codeOK, Bool.and_eq_true] at hok
    obtain ⟨m1, x1⟩ := ih1 nt hok.1
    obtain ⟨m2, x2⟩ := ih2 nt hok.2
    exact ⟨m1.trans m2, fun hw => ⟨exec_then m1 m2 hw (x1 hw).1 (x2 (m1.wf hw)).1 fun Q a w h => wp_seq h, fun b e => by cases e⟩⟩
  | seqOut he _ ih1 =>
    intro nt hok
    simp only [codeOK, Bool.and_eq_true] at hok
    obtain ⟨m1, x1⟩ := ih1 nt hok.1
    exact ⟨m1, fun hw => ⟨exec_out he (x1 hw).1 fun Q a w h => wp_seq h, fun b e => by cases e⟩⟩
  | @cond x a b s s1 e t hx _ ih =>
    intro nt hok
    simp only [codeOK, Bool.and_eq_true] at hok
    obtain ⟨m1, x1⟩ := ih nt (by cases t; exact hok.2; exact hok.1.2)
    refine ⟨m1, fun hw => ⟨?_, fun b e => by cases e⟩⟩
    intro base ι C ac w hF hd hR hp hf Q hQ
    have hev : VR ι (evalA s.f x) (ac.eval x) := eval_rel (nt := nt) hok.1.1 fun t e => by
      subst e
      exact hF.2 t (by simpa [operandOK] using hok.1.1)
    rw [hx] at hev
    generalize hu : ac.eval x = u at hev
    cases hev
    refine wp_cond hu ?_
    have := (x1 hw).1 base ι C ac w hF hd hR hp hf Q hQ
    cases t <;> exact this
  | @block id c s s1 e _ ih =>
    intro nt hok
    obtain ⟨m1, x1⟩ := ih nt hok
    refine ⟨m1, fun hw => ⟨?_, fun b e => by cases e⟩⟩
    intro base ι C a w hF hd hR hp hf Q hQ
    refine wp_block ((x1 hw).1 base ι C a w hF hd hR hp hf _ fun a' w' κ C' hF' hd' ha => ?_)
    have := hQ a' w' κ C' hF' hd' ha
    cases e with
    | normal => exact this
    | ret => exact this
    | exit i =>
      simp only [blockExit] at this
      show if i = id then Q .normal a' w' else Q (.exit i) a' w'
      by_cases e : i = id
      · simp only [e, if_true, exitOf] at this ⊢; exact this
      · simp only [e, if_false, exitOf] at this ⊢; exact this
  | @loop c s s1 s2 e _ _ ih1 ih2 =>
    intro nt hok
    obtain ⟨m1, x1⟩ := ih1 nt hok
    obtain ⟨m2, x2⟩ := ih2 nt hok
    refine ⟨m1.trans m2, fun hw => ?_⟩
    obtain ⟨n, hn⟩ := (x2 (m1.wf hw)).2 c rfl
    have key : Exec P nt s e s2 (fun Q a w => Code.rounds P c Q (n + 1) a w) := exec_then m1 m2 hw (x1 hw).1 hn fun Q a w h => by rw [rounds_succ]; exact h
    refine ⟨?_, fun b e => by cases e; exact ⟨n + 1, key⟩⟩
    intro base ι C a w hF hd hR hp hf Q hQ
    exact wp_loop_rounds (n + 1) (key base ι C a w hF hd hR hp hf Q hQ)
  | @loopOut c s s1 e he _ ih1 =>
    intro nt hok
    obtain ⟨m1, x1⟩ := ih1 nt hok
    refine ⟨m1, fun hw => ?_⟩
    have key : Exec P nt s e s1 (fun Q a w => Code.rounds P c Q (0 + 1) a w) := exec_out (Y := fun Q a w => Code.rounds P c Q 0 a w) he (x1 hw).1 fun Q a w h => by rw [rounds_succ]; exact h
    refine ⟨?_, fun b e => by cases e; exact ⟨0 + 1, key⟩⟩
    intro base ι C a w hF hd hR hp hf Q hQ
    exact wp_loop_rounds (0 + 1) (key base ι C a w hF hd hR hp hf Q hQ)
  | @region id ops s s1 l _ ih =>
    intro nt hok
    simp only [codeOK, Bool.and_eq_true, List.all_eq_true] at hok
    have hc := ih nt hok.1
    refine ⟨hc.mono, fun hw => ⟨?_, fun b e => by cases e⟩⟩
    intro base ι C a w hF hd hR hp hf Q hQ
    refine wp_region ?_
    have := wp_text (Q := Q) hc 0 (fun i o e => by simpa using e) hok.1 hw base ι C a w hF hR hp hf fun a' w' κ C' hF' hd' ha => hQ a' w' κ C' hF' (hd'.trans hd) ha
    rwa [List.range_eq_range', show ops.size = ops.toList.length by simp]
  | @regionDraw id ops s s1 l _ hdr ih =>
    intro nt hok
    simp only [codeOK, Bool.and_eq_true, List.all_eq_true, Bool.not_true, Bool.false_or] at hok
    have hc := ih nt hok.1
    refine ⟨hc.mono, fun hw => ⟨?_, fun b e => by cases e⟩⟩
    intro base ι C a w hF hd hR hp hf Q hQ
    obtain ⟨st, R, h0, h1, h2, h3, h4⟩ := chain_tr hc
    have hsz : ops.toList.length = ops.size := by simp
    rw [hsz] at h1 h2 h3
    have Z : Region0 P nt ops st R base ι C w := by
      refine ⟨⟨fun j o _ e => h4 j o (by simpa using e)⟩, static_of hok.2, fun j o e => hok.1 o (by have := Array.mem_of_getElem? e; simpa using this), fun i j hij x => ?_, fun j hj hcl x hx => ?_, ?_, hR, ?_, ?_⟩
      · have hlt : i < ops.size ∧ j < ops.size := by
          unfold sPairs at hij
          simp only [List.mem_flatMap, List.mem_range, List.mem_filterMap] at hij
          obtain ⟨j', hj', i', hi', e⟩ := hij
          split at e
          · split at e
            · cases e; exact ⟨by omega, hj'⟩
            · cases e
          · cases e
        have := hdr.1 (i, j) hij x
        simp only [writes, touches, h3 i hlt.1, h3 j hlt.2, Option.some.injEq, exists_eq_left'] at this
        exact this
      · obtain ⟨_, e1, e2⟩ := h4 j ops[j] (by rw [Array.getElem?_toList]; exact Array.getElem?_eq_getElem hj)
        have hmem : R j ∈ l := List.mem_of_getElem? (h3 j hj)
        have := hdr.2 (R j) hmem hcl x (by rw [e1]; exact hx)
        rw [e2]; simp only; rw [this, e1]
      · rw [h0]; exact hw
      · rw [h0]; exact hp
      · rw [h0, h1]; exact hf
    refine wp_draw Z hm (by rw [h0]; exact hF) fun a' w' κ C' hF' hd' ha => ?_
    rw [h1] at hF' ha
    rw [h0] at ha
    exact hQ a' w' κ C' hF' (hd'.trans hd) ha
  | opsNil all s => exact fun nt _ => .nil s
  | opsSkip hw _ ih => exact fun nt hok => .cons (r := ⟨_, undef, _, _, [], none, false⟩) (step_skip (hok _ (by simp)) hw) (ih nt fun o ho => hok o (by simp [ho]))
  | @opsOp all o rest s s1 l r hw ha _ ih => exact fun nt hok => .cons (r := ⟨s, r.v, r.next s.n, r.heap s.n s.H, r.rd, r.wr.map (·.1), false⟩) (step_op (hok _ (by simp)) hw ha) (ih nt fun o ho => hok o (by simp [ho]))
  | @opsCall all o rest s s1 l g args v n H hw ha _ _ ih1 ih2 =>
    obtain ⟨hm1, hc, fn, c, hf⟩ := ih1
    exact fun nt hok => .cons (r := ⟨s, v, n, H, [], none, true⟩) (step_call (hok _ (by simp)) hw ha hf hm1 hc) (ih2 nt fun o ho => hok o (by simp [ho]))
  | @call g args n H fn c e s v hf hl _ he hr ih =>
    obtain ⟨m1, x1⟩ := ih fn.ntmps hf.code
    refine ⟨m1, fun hw => ?_, fn, c, hf⟩
    intro base ι C w args' hv hR hp hfr
    refine calls_of_wp hf.get hf.body ?_
    refine (x1 hw).1 base ι C _ w (enter_fr hv hl) rfl hR hp hfr _ fun a' w' κ C' hF' hd' ha => ?_
    obtain ⟨v', e1, e2⟩ := results_run hr hf.results hF' ha.hr (ha.pres hp hw)
    rcases he with rfl | rfl
    · exact ⟨hd', v', e1, v', κ, C', rfl, e2, ha⟩
    · exact ⟨hd', v', e1, v', κ, C', rfl, e2, ha⟩
  | @closed g b n1 H1 n H _ ih =>
    obtain ⟨_, hcs, hfn⟩ := ih
    refine ⟨Mono.refl n H, fun _ => ?_, hfn⟩
    intro base ι C w args' hv hR hp hfr
    have hR0 : HR P w.heap.size (fun _ => none) (fun _ => .dead) w := ⟨fun _ => trivial, fun x y t u hx => absurd rfl hx, fun x t e => (by cases e), Nat.le_refl _⟩
    have hv0 : VRs (fun _ => none) [] args' := ⟨hv.1, fun i v v' e => by simp at e⟩
    refine (hcs (fun _ _ => rfl) w.heap.size _ _ w args' hv0 hR0 (fun _ _ _ => rfl) (fun _ _ _ => rfl)).mono ?_
    rintro e w' ⟨v', κ', C', rfl, hvr, ha⟩
    cases hvr
    refine ⟨.bool b, ι, C, rfl, .bool b, Inj.le_refl ι, fun _ _ => rfl, Ch.refl C H, fun x hx => absurd rfl hx, ⟨fun x => ?_, hR.inj, fun x t e => ⟨Nat.lt_of_lt_of_le (hR.rng x t e).1 ha.below.size, (hR.rng x t e).2⟩, Nat.le_trans hR.size ha.below.size⟩, ha.below.mono hR.size⟩
    exact (hR.obj x).carry (Inj.le_refl ι) fun t ht => ha.below.block _ (hR.rng x t ht).1

end
end Go.AM
