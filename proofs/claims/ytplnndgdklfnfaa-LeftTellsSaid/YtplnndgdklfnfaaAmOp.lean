/- Every operation of the machine, but for calls of Go functions: sound. -/
import Derived.Test.YtplnndgdklfnfaaAmOps2
set_option linter.all false
namespace Go.AM
open Go.RowKit

section
variable {P : Program} {base : Nat} {ι : Inj} {C H : Heap} {n : Nat} {w : World}

theorem flat_sound (hR : HR P base ι C w) {ρ ρ' : Operand → Value} {o : Oper} {r : Res} (h : aflat P ρ o = some r) (hs : ∀ cs b, o.op ≠ .select cs b)
    (hρ : ∀ x ∈ o.op.operands, VR ι (ρ x) (ρ' x)) : Good P base ι C H n r w ((execOp ρ' o).run P w) := by
  unfold aflat at h
  split at h
  case isFalse => cases h
  rename_i hf
  split at h
  case h_2 => cases h
  rename_i v hv
  split at h
  case isFalse => cases h
  rename_i hfv
  cases h
  have he : execOp ρ o = execOp ρ' o := execOp_congr o hs fun x hx => by
    unfold opFlat at hf
    rw [Array.all_eq_true] at hf
    obtain ⟨i, hi, rfl⟩ := Array.getElem_of_mem hx
    exact (flat_eq (hf i hi) (hρ _ hx)).symm
  rw [← he]
  exact good_value hR (pureRun_run _ hv w) (flat_refl ι hfv)

theorem map_fst (ps : List (Nat × Operand)) (ρ ρ' : Operand → Value) : (ps.map fun (i, x) => (i, ρ x)).map (·.1) = (ps.map fun (i, x) => (i, ρ' x)).map (·.1) := by
  simp [List.map_map, Function.comp_def]
theorem VRs_map {ρ ρ' : Operand → Value} {l : List Operand} (h : ∀ x ∈ l, VR ι (ρ x) (ρ' x)) : VRs ι (l.map ρ) (l.map ρ') := by
  induction l with
  | nil => exact .nil ι
  | cons x l ih => exact .cons (h x (by simp)) (ih fun y hy => h y (by simp [hy]))
theorem VRs_parts {ρ ρ' : Operand → Value} {ps : List (Nat × Operand)} (h : ∀ x ∈ ps.map (·.2), VR ι (ρ x) (ρ' x)) :
    VRs ι ((ps.map fun (i, x) => (i, ρ x)).map (·.2)) ((ps.map fun (i, x) => (i, ρ' x)).map (·.2)) := by
  have := VRs_map (ι := ι) h
  simpa [List.map_map, Function.comp_def] using this

theorem good_ok {x : Option Value} {r : Res} {res : Result Next} (h : ok x = some r) (k : ∀ v, x = some v → Good P base ι C H n { v := v } w res) : Good P base ι C H n r w res := by
  unfold ok at h
  obtain ⟨v, hv, rfl⟩ := Option.map_eq_some_iff.1 h
  exact k v hv

theorem run_equalIn_ptr (d : Nat) {t e : TypeId} (a : Addr) (ht : P.underlying t = some (.pointer e)) :
    (Op.equalIn (d + 1) t (.pointer (some a)) (.pointer none)).run P w = .ok false w ∧ (Op.equalIn (d + 1) t (.pointer none) (.pointer (some a))).run P w = .ok false w := by
  constructor <;> simp [Op.equalIn, run_underlying ht]

theorem eqNil_run {t : TypeId} {x y x' y' : Value} {b : Bool} (h : aeqNil P t x y = some b) (hx : VR ι x x') (hy : VR ι y y') :
    (binOp .eql t x' y').run P w = .ok (.bool b) w ∧ (binOp .neq t x' y').run P w = .ok (.bool (!b)) w ∧ (∀ op (u v : Operand), (eqGuard op t u v x' y').run P w = .ok () w) := by
  unfold aeqNil at h
  split at h
  · rename_i ht
    cases h
    cases hx; cases hy
    refine ⟨?_, ?_, fun op u v => ?_⟩
    · simp only [binOp]
      simp [Op.equal, Op.maxDepth, (run_equalIn_ptr (w := w) 9999 _ ht).1]
    · simp only [binOp]
      simp [Op.equal, Op.maxDepth, (run_equalIn_ptr (w := w) 9999 _ ht).1]
    · cases op <;> simp [eqGuard]
  · rename_i ht
    cases h
    cases hx; cases hy
    refine ⟨?_, ?_, fun op u v => ?_⟩
    · simp only [binOp]
      simp [Op.equal, Op.maxDepth, (run_equalIn_ptr (w := w) 9999 _ ht).2]
    · simp only [binOp]
      simp [Op.equal, Op.maxDepth, (run_equalIn_ptr (w := w) 9999 _ ht).2]
    · cases op <;> simp [eqGuard]
  · cases h

theorem ext_run {g : FuncId} {args args' : List Value} {v : Value} (h : aext P g args = some v) (hv : VRs ι args args') :
    (callFunc g args'.toArray).run P w = .ok (.value v) w ∧ flat v = true := by
  unfold aext at h
  split at h
  case h_2 => cases h
  rename_i fn hfn
  split at h
  case isFalse => cases h
  rename_i hc
  simp only [Bool.and_eq_true, Option.isNone_iff_eq_none, beq_iff_eq] at hc
  obtain ⟨hb, ho⟩ := hc
  have hnext : ∀ s : String, fn.name = s → Extern.allNextRows.lookup s = none → Extern.findNext fn = none := by
    intro s hs h1
    have h2 : Extern.allNextRows.lookup "" = none := by kernel_rfl
    unfold Extern.findNext
    simp only [hs, ho, h1, h2]
    rfl
  split at h
  · rename_i b
    split at h
    case isFalse => cases h
    rename_i hn
    simp only [beq_iff_eq] at hn
    cases h
    obtain ⟨u, k, rfl, r1, r2⟩ := hv.cons_inv
    cases r1
    rw [r2.nil_inv]
    refine ⟨?_, rfl⟩
    have hfind : Extern.find fn = some Extern.MathFloatBits.float64bits := by
      unfold Extern.find
      simp only [hn, ho]
      kernel_rfl
    rw [run_callFunc_extern (e := Extern.MathFloatBits.float64bits) hfn (by rw [hn]; kernel_rfl) (by rw [hb]; rfl) (hnext _ hn (by kernel_rfl)) hfind]
    rfl
  · rename_i b
    split at h
    case isFalse => cases h
    rename_i hn
    simp only [beq_iff_eq] at hn
    cases h
    obtain ⟨u, k, rfl, r1, r2⟩ := hv.cons_inv
    cases r1
    rw [r2.nil_inv]
    refine ⟨?_, rfl⟩
    have hfind : Extern.find fn = some Extern.MathFloatBits.float64frombits := by
      unfold Extern.find
      simp only [hn, ho]
      kernel_rfl
    rw [run_callFunc_extern (e := Extern.MathFloatBits.float64frombits) hfn (by rw [hn]; kernel_rfl) (by rw [hb]; rfl) (hnext _ hn (by kernel_rfl)) hfind]
    rfl
  · cases h

theorem aop_sound (hR : HR P base ι C w) {ρ ρ' : Operand → Value} {o : Oper} {r : Res} (h : aop P ρ n H o = some r) (hρ : ∀ x ∈ o.op.operands, VR ι (ρ x) (ρ' x))
    (hrd : ∀ x ∈ r.rd, ι x ≠ none → C x = H x) (hwr : ∀ x ob, r.wr = some (x, ob) → ι x ≠ none → C x = H x) (hn : r.news ≠ [] → ι n = none ∧ H n = .dead) :
    Good P base ι C H n r w ((execOp ρ' o).run P w) := by
  obtain ⟨dst, op, type, pos, after, guard⟩ := o
  unfold aop at h
  simp only at h
  have flatCase : ∀ {r : Res}, aflat P ρ ⟨dst, op, type, pos, after, guard⟩ = some r → (∀ cs b, op ≠ .select cs b) →
      Good P base ι C H n r w ((execOp ρ' ⟨dst, op, type, pos, after, guard⟩).run P w) := fun h hs => flat_sound hR h hs hρ
  split at h
  · rename_i x; cases h
    exact good_value hR rfl (hρ x (by simp [Op.operands]))
  · rename_i x; cases h
    exact good_value hR rfl (hρ x (by simp [Op.operands]))
  · rename_i c a b
    have hc := hρ c (by simp [Op.operands])
    have ha := hρ a (by simp [Op.operands])
    have hb := hρ b (by simp [Op.operands])
    split at h
    case h_2 => cases h
    rename_i t ht
    cases h
    rw [ht] at hc
    generalize hc' : ρ' c = c' at hc
    cases hc
    refine good_value (v' := if t then ρ' a else ρ' b) hR (by simp [execOp, hc', asBool]) ?_
    cases t
    · exact hb
    · exact ha
  · rename_i t
    exact alloc_sound hR h hn _
  · rename_i t x
    have hx := hρ x (by simp [Op.operands])
    exact box_sound hR h hx hn (run_box _ _)
  · rename_i t ps
    refine good_ok h fun v hv => ?_
    refine build_sound hR hv ?_ ?_
    · simp [List.map_map, Function.comp_def]
    · have := VRs_parts (ι := ι) (ρ := ρ) (ρ' := ρ') (ps := ps.toList) (fun x hx => hρ x (by simpa [Op.operands] using hx))
      simpa using this
  · rename_i t len ps
    refine buildSlice_sound hR h ?_ ?_ hn
    · simp [List.map_map, Function.comp_def]
    · have := VRs_parts (ι := ι) (ρ := ρ) (ρ' := ρ') (ps := ps.toList) (fun x hx => hρ x (by simpa [Op.operands] using hx))
      simpa using this
  · rename_i t a
    exact load_sound hR h (hρ a (by simp [Op.operands])) hrd
  · rename_i t a x
    exact store_sound hR h (hρ a (by simp [Op.operands])) (hρ x (by simp [Op.operands])) hwr
  · rename_i x
    have hx := hρ x (by simp [Op.operands])
    split at h
    · rename_i a ha
      cases h
      rw [ha] at hx
      generalize hx' : ρ' x = x' at hx
      have hx2 := hx
      cases hx
      exact good_value hR (by simp [execOp, hx']) hx2
    · rename_i g a b ha
      cases h
      rw [ha] at hx
      generalize hx' : ρ' x = x' at hx
      have hx2 := hx
      cases hx
      exact good_value hR (by simp [execOp, hx']) hx2
    · cases h
  · rename_i op t x y yt
    have hx := hρ x (by simp [Op.operands])
    have hy := hρ y (by simp [Op.operands])
    split at h
    · rename_i b hb
      obtain ⟨e1, e2, e3⟩ := eqNil_run (w := w) hb hx hy
      split at h
      · cases h
        exact good_value hR (by simp [execOp, e1, e3]) (.bool _)
      · cases h
        exact good_value hR (by simp [execOp, e2, e3]) (.bool _)
      · cases h
    · exact flatCase h (fun cs b e => by cases e)
  · rename_i g first captured
    cases h
    have h1 := VRs_map (ι := ι) (ρ := ρ) (ρ' := ρ') (l := first.toList) (fun x hx => hρ x (by simp [Op.operands]; exact .inl (by simpa using hx)))
    have h2 := VRs_map (ι := ι) (ρ := ρ) (ρ' := ρ') (l := captured.toList) (fun x hx => hρ x (by simp [Op.operands]; exact .inr (by simpa using hx)))
    refine good_value (v' := .func (.func g) (first.map ρ') (captured.map ρ')) hR (by simp [execOp, Instr.makeFunc]) ?_
    refine .func g _ _ _ _ (by simp) (by simp) (fun i v v' e e' => h1.2 i v v' (by simpa using e) (by simpa using e')) (fun i v v' e e' => h2.2 i v v' (by simpa using e) (by simpa using e'))
  · rename_i t l c
    exact makeSlice_sound hR h (hρ l (by simp [Op.operands])) (hρ c (by simp [Op.operands])) hn
  · rename_i t x lo hi
    have hx := hρ x (by simp [Op.operands])
    split at h
    · rename_i a b c ha
      rw [ha] at hx
      refine slice_sound hR h hx ?_ ?_ hrd
      · cases lo with
        | none => exact .inl ⟨rfl, rfl⟩
        | some u => exact .inr ⟨_, _, rfl, rfl, hρ u (by simp [Op.operands])⟩
      · cases hi with
        | none => exact .inl ⟨rfl, rfl⟩
        | some u => exact .inr ⟨_, _, rfl, rfl, hρ u (by simp [Op.operands])⟩
    · exact flatCase h (fun cs b e => by cases e)
  · rename_i t x i
    exact good_ok h fun v hv => fieldAddr_sound hR hv (hρ x (by simp [Op.operands]))
  · rename_i t x i
    exact good_ok h fun v hv => field_sound hR hv (hρ x (by simp [Op.operands]))
  · rename_i t x i
    exact good_ok h fun v hv => indexAddr_sound hR hv (hρ x (by simp [Op.operands])) (hρ i (by simp [Op.operands]))
  · rename_i t x i
    have hx := hρ x (by simp [Op.operands])
    split at h
    · rename_i cs hcs
      rw [hcs] at hx
      exact good_ok h fun v hv => index_sound hR hv hx (hρ i (by simp [Op.operands]))
    · exact flatCase h (fun cs b e => by cases e)
  · rename_i x i
    have hx := hρ x (by simp [Op.operands])
    split at h
    case h_2 => cases h
    rename_i vs hvs
    rw [hvs] at hx
    generalize hx' : ρ' x = x' at hx
    cases hx with
    | tuple _ a' ha hra =>
      refine good_ok h fun v hv => ?_
      obtain ⟨v', e1, e2⟩ := (VRs.of_arrays ha hra).get hv
      refine good_value hR (run_value ?_) e2
      have e1' : a'[i]? = some v' := by simpa using e1
      simp [hx', Instr.extract, e1']
  · rename_i args argTypes
    split at h
    case h_2 => cases h
    rename_i x hargs
    have hx := hρ x (by
      have : x ∈ args.toList := by rw [hargs]; simp
      simp [Op.operands, Call.operands]; simpa using this)
    have hl := len_sound (ty := type) (n := n) hR h hx hrd
    have ha : args = #[x] := by rw [← Array.toList_inj]; simpa using hargs
    subst ha
    simpa [execOp, resolve, invoke, builtin] using hl
  · rename_i args argTypes
    split at h
    case h_2 => cases h
    rename_i s x hargs
    have ha : args = #[s, x] := by rw [← Array.toList_inj]; simpa using hargs
    subst ha
    have hl := append_sound (ty := type) (n := n) hR h (hρ s (by simp [Op.operands, Call.operands])) (hρ x (by simp [Op.operands, Call.operands])) hrd hwr hn
    simpa [execOp, resolve, invoke, builtin] using hl
  · rename_i g args argTypes
    split at h
    case h_2 => cases h
    rename_i q first captured hg
    split at h
    case isFalse => cases h
    rename_i hemp
    rw [Bool.and_eq_true, Array.isEmpty_iff, Array.isEmpty_iff] at hemp
    obtain ⟨rfl, rfl⟩ := hemp
    refine good_ok h fun v hv => ?_
    have hf := hρ g (by simp [Op.operands, Call.operands])
    rw [hg] at hf
    generalize hg' : ρ' g = g' at hf
    cases hf with
    | func _ _ _ a' b' ha hb _ _ =>
      have ha' : a' = #[] := by simpa using ha.symm
      have hb' : b' = #[] := by simpa using hb.symm
      subst ha' hb'
      have hargs := VRs_map (ι := ι) (ρ := ρ) (ρ' := ρ') (l := args.toList) (fun x hx => hρ x (by simp [Op.operands, Call.operands]; exact .inr (by simpa using hx)))
      obtain ⟨e1, e2⟩ := ext_run (w := w) hv hargs
      have e3 : (args.toList.map ρ').toArray = args.map ρ' := by apply Array.ext'; simp
      rw [e3] at e1
      exact good_value hR (by simp [execOp, resolve, hg', Deferred.ofValue, invoke, e1]) (flat_refl ι e2)
  · cases h
  · exact flatCase h (fun cs b e => by cases e)
  · exact flatCase h (fun cs b e => by cases e)
  · exact flatCase h (fun cs b e => by cases e)
  · exact flatCase h (fun cs b e => by cases e)
  · cases h

end
end Go.AM
