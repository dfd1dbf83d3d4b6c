/- The machine's operations, but for calls: what each does in the model. -/
import Derived.Test.YtplnndgdklfnfaaAmRel
import Derived.Laws.CopyOwn
set_option linter.all false
namespace Go.AM
open Go.RowKit

/-- What the model's operation must come to. -/
def Good (P : Program) (base : Nat) (ι : Inj) (C H : Heap) (n : Nat) (r : Res) (w : World) (res : Result Next) : Prop :=
  ∃ nx w' κ v', res = .ok nx w' ∧ (nx = .value v' ∨ (nx = .skip ∧ v' = undef)) ∧ VR κ r.v v' ∧ Inj.le ι κ ∧ (∀ x, x ≠ n ∨ r.news = [] → κ x = ι x) ∧
    HR P base κ (patch C H (r.heap n H)) w' ∧ Below base w w' ∧ (∀ x o, r.wr = some (x, o) → ι x ≠ none) ∧ (r.news ≠ [] → κ n ≠ none)

section
variable {P : Program} {base : Nat} {ι : Inj} {C H : Heap} {n : Nat} {w : World}

theorem heap_pure (v : Value) (rd : List Nat) : (Res.mk v [] none rd).heap n H = H := rfl

theorem good_value {v v' : Value} {rd : List Nat} {res : Result Next} (hR : HR P base ι C w) (hr : res = .ok (.value v') w) (hv : VR ι v v') :
    Good P base ι C H n { v := v, rd := rd } w res :=
  ⟨_, w, ι, v', hr, .inl rfl, hv, Inj.le_refl ι, fun _ _ => rfl, by rw [heap_pure, patch_same]; exact hR, Below.refl _ _, fun _ _ e => by (cases e), fun e => absurd rfl e⟩

theorem run_value {s : Sem Value} {v : Value} {w' : World} (h : s.run P w = .ok v w') : (do pure (Next.value (← s)) : Sem Next).run P w = .ok (.value v) w' := by
  simp [h]
theorem run_skip {s : Sem Unit} {w' : World} (h : s.run P w = .ok () w') : (do s; pure Next.skip : Sem Next).run P w = .ok .skip w' := by
  simp [h]

theorem run_isAgg {t : TypeId} {b : Bool} (h : aggT P t = some b) : (isAgg t).run P w = .ok b w := by
  unfold aggT at h
  cases hd : P.underlying t with
  | none => simp [hd] at h
  | some d => cases d <;> simp [hd] at h <;> subst h <;> simp [isAgg, run_underlying hd]

theorem info_of_underlying {t : TypeId} {d : TypeDesc} (h : P.underlying t = some d) : ∃ i, P.info? t = some i := by
  unfold Program.underlying at h
  cases hi : P.info? t with
  | none => simp [hi] at h
  | some i => exact ⟨i, rfl⟩
theorem info_of_agg {t : TypeId} {b : Bool} (h : aggT P t = some b) : ∃ i, P.info? t = some i ∧ P.cellsOf t = i.size := by
  unfold aggT at h
  cases hd : P.underlying t with
  | none => simp [hd] at h
  | some d => obtain ⟨i, hi⟩ := info_of_underlying hd; exact ⟨i, hi, by simp [Program.cellsOf, hi]⟩

theorem add_lit (b o i : Nat) : (⟨b, o, none⟩ : Addr).add i = ⟨b, o + i, none⟩ := by
  unfold Addr.add; split <;> simp_all

/-- The cells of an object, as a list. -/
theorem cells_list {t : Tgt} {cs : List Value}
    (hc : ∀ (i : Nat) (v : Value), cs[i]? = some v → ∃ v', w.cell? ⟨t.block, t.off + i, none⟩ = some v' ∧ VR ι v v' ∧ one v = true) (k m : Nat) (hk : k + m ≤ cs.length) :
    ∃ l : List Value, l.length = m ∧ VRs ι ((cs.drop k).take m) l ∧ ∀ j v, l[j]? = some v → w.cell? ((⟨t.block, t.off + k, none⟩ : Addr).add j) = some v := by
  induction m generalizing k with
  | zero => exact ⟨[], rfl, by simpa using VRs.nil ι, fun j v e => by simp at e⟩
  | succ m ih =>
    obtain ⟨l, hl, hv, hcell⟩ := ih (k + 1) (by omega)
    have hk' : k < cs.length := by omega
    obtain ⟨v', h1, h2, _⟩ := hc k cs[k] (List.getElem?_eq_getElem hk')
    refine ⟨v' :: l, by simp [hl], ?_, fun j v e => ?_⟩
    · rw [List.drop_eq_getElem_cons hk', List.take_succ_cons]
      exact .cons h2 hv
    · cases j with
      | zero => simp at e; subst e; rw [add_lit]; exact h1
      | succ j =>
        have := hcell j v (by simpa using e)
        rw [add_lit] at this ⊢
        rw [show t.off + k + (j + 1) = t.off + (k + 1) + j by omega]
        exact this

theorem one_list {t : Tgt} {cs : List Value}
    (hc : ∀ (i : Nat) (v : Value), cs[i]? = some v → ∃ v', w.cell? ⟨t.block, t.off + i, none⟩ = some v' ∧ VR ι v v' ∧ one v = true) : cs.all one = true := by
  rw [List.all_eq_true]
  intro v hv
  obtain ⟨i, hi, rfl⟩ := List.getElem_of_mem hv
  obtain ⟨_, _, _, h⟩ := hc i _ (List.getElem?_eq_getElem hi)
  exact h

theorem all_take_drop {cs : List Value} (h : cs.all one = true) (k m : Nat) : ((cs.drop k).take m).all one = true := by
  rw [List.all_eq_true] at *
  exact fun x hx => h x (List.mem_of_mem_drop (List.mem_of_mem_take hx))

theorem load_run (hR : HR P base ι C w) {t : TypeId} {a a' : Value} {r : Res} (h : aload P t H a = some r) (ha : VR ι a a') (hrd : ∀ x ∈ r.rd, ι x ≠ none → C x = H x) :
    ∃ v' ad, a' = .pointer (some ad) ∧ (loadVar t ad).run P w = .ok v' w ∧ VR ι r.v v' ∧ r = { v := r.v, rd := r.rd } := by
  unfold aload at h
  split at h
  case h_2 => cases h
  rename_i x k
  split at h
  case h_2 => cases h
  rename_i cs ty own hx
  have key : ∀ r' : Res, r'.rd = [x] → (∀ y ∈ r'.rd, ι y ≠ none → C y = H y) → ∃ t', ι x = some t' ∧ a' = .pointer (some ⟨t'.block, t'.off + k, none⟩) ∧
      ∀ (i : Nat) (v : Value), cs[i]? = some v → ∃ v', w.cell? ⟨t'.block, t'.off + i, none⟩ = some v' ∧ VR ι v v' ∧ one v = true := by
    intro r' hr hrd
    cases ha with
    | ptr _ _ t' ht =>
      have hC := hrd x (by simp [hr]) (by simp [ht])
      have ho := hR.obj x
      rw [hC, hx] at ho
      obtain ⟨t2, h2, _, hc, _⟩ := ho
      rw [ht] at h2
      cases h2
      exact ⟨t', ht, rfl, hc⟩
  split at h
  · rename_i hagg
    split at h
    case isFalse => cases h
    rename_i hk
    cases h
    obtain ⟨t', ht, rfl, hc⟩ := key _ rfl hrd
    obtain ⟨i, hi, hsz⟩ := info_of_agg hagg
    obtain ⟨l, hl, hv, hcell⟩ := cells_list hc k (P.cellsOf t) hk
    have hrun := run_loadCells_list (P := P) w ⟨t'.block, t'.off + k, none⟩ l hcell
    rw [hl, hsz] at hrun
    exact ⟨_, _, rfl, by simp [loadVar, run_isAgg hagg, sizeOf, typeInfo, hi, hrun], hv.agg, rfl⟩
  · rename_i hagg
    split at h
    case h_2 => cases h
    rename_i v hv
    cases h
    obtain ⟨t', ht, rfl, hc⟩ := key _ rfl hrd
    obtain ⟨v', h1, h2, _⟩ := hc k _ hv
    exact ⟨v', _, rfl, by simp [loadVar, run_isAgg hagg, h1], h2, rfl⟩
  · cases h

theorem load_sound (hR : HR P base ι C w) {t : TypeId} {a a' : Value} {r : Res} (h : aload P t H a = some r) (ha : VR ι a a') (hrd : ∀ x ∈ r.rd, ι x ≠ none → C x = H x) :
    Good P base ι C H n r w ((do pure (Next.value (← Instr.loadAt t a')) : Sem Next).run P w) := by
  obtain ⟨v', ad, rfl, h1, h2, h3⟩ := load_run hR h ha hrd
  rw [h3]
  exact good_value hR (run_value (by simp [Instr.loadAt, Instr.sureAddr, h1])) h2

theorem splice_length (vs : List Value) : ∀ (cs : List Value) (k : Nat), (splice cs k vs).length = cs.length := by
  induction vs with
  | nil => intro cs k; rfl
  | cons v vs ih => intro cs k; simp [splice, ih]
theorem splice_get (vs : List Value) : ∀ (cs : List Value) (k : Nat), k + vs.length ≤ cs.length → ∀ i, (splice cs k vs)[i]? = if k ≤ i ∧ i < k + vs.length then vs[i - k]? else cs[i]? := by
  induction vs with
  | nil => intro cs k _ i; rw [if_neg (by simp only [List.length_nil]; omega)]; rfl
  | cons v vs ih =>
    intro cs k hk i
    simp only [List.length_cons] at hk
    simp only [splice]
    rw [ih (cs.set k v) (k + 1) (by simp; omega) i, List.getElem?_set]
    by_cases h1 : k + 1 ≤ i ∧ i < k + 1 + vs.length
    · rw [if_pos h1, if_pos (by simp; omega)]
      rw [show i - k = (i - (k + 1)) + 1 by omega, List.getElem?_cons_succ]
    · rw [if_neg h1]
      by_cases h2 : k = i
      · subst h2
        rw [if_pos rfl, if_pos (by omega), if_pos (by simp)]
        simp
      · rw [if_neg h2, if_neg (by simp; omega)]

/-- The cells of a row in which some have been written. -/
theorem row_get (cur vs : List Value) (o : Nat) (h : o + vs.length ≤ cur.length) (i : Nat) :
    (cur.take o ++ vs ++ cur.drop (o + vs.length))[i]? = if o ≤ i ∧ i < o + vs.length then vs[i - o]? else cur[i]? := by
  have h1 : (cur.take o).length = o := by simp; omega
  by_cases ha : i < o
  · rw [if_neg (by omega), List.append_assoc, List.getElem?_append_left (by omega), List.getElem?_take, if_pos ha]
  · by_cases hb : i < o + vs.length
    · rw [if_pos (by omega), List.append_assoc, List.getElem?_append_right (by omega), h1, List.getElem?_append_left (by omega)]
    · rw [if_neg (by omega), List.getElem?_append_right (by simp; omega), List.getElem?_drop]
      congr 1
      simp only [List.length_append, h1]
      omega

theorem heap_wr (v : Value) (x : Nat) (o : AObj) (rd : List Nat) : (Res.mk v [] (some (x, o)) rd).heap n H = hset H x o := rfl
theorem heap_new (v : Value) (o : AObj) (rd : List Nat) : (Res.mk v [o] none rd).heap n H = hset H n o := rfl

theorem setRow_size (w : World) (g : Nat) (cs : Array Value) : (w.setRow g cs).heap.size = w.heap.size := by simp

theorem store_sound (hR : HR P base ι C w) {t : TypeId} {a a' v v' : Value} {r : Res} (h : astore P t H a v = some r) (ha : VR ι a a') (hv : VR ι v v')
    (hwr : ∀ x o, r.wr = some (x, o) → ι x ≠ none → C x = H x) :
    Good P base ι C H n r w ((do Instr.storeAt t a' v'; pure Next.skip : Sem Next).run P w) := by
  unfold astore at h
  split at h
  case h_2 => cases h
  rename_i x k
  split at h
  case h_2 => cases h
  rename_i cs ty hx
  split at h
  case h_2 => cases h
  rename_i i hi
  split at h
  case isFalse => cases h
  rename_i hcond
  obtain ⟨hlen, hone, hfit⟩ := hcond
  cases h
  cases ha with
  | ptr _ _ t' ht =>
    have hC := hwr x _ rfl (by simp [ht])
    have ho := hR.obj x
    rw [hC, hx] at ho
    obtain ⟨t2, h2, hown, hc, hw⟩ := ho
    rw [ht] at h2
    cases h2
    obtain ⟨hesz, hbs, cur, hcur, hcsz⟩ := hw rfl
    have hcells := hv.cells
    have hlen' : v'.cells.toList.length = (vcells v).length := hcells.1.symm
    have hone' := hcells.all_one hone
    have hs : v'.cells.size = i.size := by rw [← hlen, ← hlen']; simp
    have hst := run_storeCells_at (P := P) t'.block (t'.off + k) ty v'.cells.toList 0 cur w hcur (by omega) hone'
    simp only [Nat.add_zero] at hst
    have hrun : (Instr.storeAt t (.pointer (some ⟨t'.block, t'.off + k, none⟩)) v').run P w =
        .ok () (w.setRow t'.block (cur.toList.take (t'.off + k) ++ v'.cells.toList ++ cur.toList.drop (t'.off + k + v'.cells.toList.length)).toArray) := by
      simp [Instr.storeAt, Instr.sureAddr, storeVar, sizeOf, typeInfo, hi, hs, hst]
    clear hst hs
    generalize v'.cells.toList = vs at *
    have hnc : C x ≠ .dead := by rw [hC, hx]; intro e; cases e
    refine ⟨_, _, ι, undef, run_skip hrun, .inr ⟨rfl, rfl⟩, undef_refl ι, Inj.le_refl ι, fun _ _ => rfl, ?_, ?_, fun z ob e => by (cases e; simp [ht]), fun e => absurd rfl e⟩
    · rw [heap_wr, patch_set (.inl hC)]
      have hL : (cur.toList.take (t'.off + k) ++ vs ++ cur.toList.drop (t'.off + k + vs.length)).length = cur.size := by
        simp only [List.length_append, List.length_take, List.length_drop, Array.length_toList]; omega
      refine hR.update (κ := ι) (t := t') (Inj.le_refl ι) ht (fun _ _ => rfl) (by simp) (fun j _ hj => setRow_other w _ j _ hj) ?_ hown ((hR.rng x t' ht).2.1 hown) (by rw [setRow_size]; exact (hR.rng x t' ht).1) ?_
      · intro y u hy hd e hbl
        exact hy (hR.inj x y t' u hnc hd ht e hown hbl.symm).symm
      · refine ⟨t', ht, hown, fun j u e => ?_, fun _ => ⟨hesz, by rw [splice_length]; exact hbs, _, setRow_heap w _ cur _ ty _ hcur, by rw [List.size_toArray, hL, hcsz]⟩⟩
        rw [splice_get _ _ _ hfit] at e
        rw [cell_of_row _ _ _ _ _ _ (setRow_heap w _ cur _ ty _ hcur)]
        have hrow := row_get cur.toList vs (t'.off + k) (by have := Array.length_toList (xs := cur); omega) (t'.off + j)
        simp only [List.getElem?_toArray]
        rw [hrow]
        by_cases hin : k ≤ j ∧ j < k + (vcells v).length
        · rw [if_pos hin] at e
          rw [if_pos (by omega), show t'.off + j - (t'.off + k) = j - k by omega]
          obtain ⟨u', h1, h2⟩ := hcells.get e
          exact ⟨u', h1, h2, List.all_eq_true.1 hone u (List.mem_of_getElem? e)⟩
        · rw [if_neg hin] at e
          rw [if_neg (by omega)]
          obtain ⟨u', h1, h2, h3⟩ := hc j u e
          rw [cell_of_row _ _ _ _ _ _ hcur] at h1
          exact ⟨u', by simpa using h1, h2, h3⟩
    · exact below_setRow (Below.refl _ _) ((hR.rng x t' ht).2.1 hown) _

/-- A new object: what all operations that make one come to. -/
theorem good_new (hR : HR P base ι C w) {cs : List Value} {cur : Array Value} {ty : TypeId} {v v' : Value} {rd : List Nat} {res : Result Next} {w1 : World} (hw1 : w1.heap = w.heap) (hb : Below base w w1)
    (hn : ι n = none) (hHn : H n = .dead)
    (hc : ∀ (i : Nat) (v : Value), cs[i]? = some v → ∃ v', cur[i]? = some v' ∧ VR ι v v' ∧ one v = true) (hl : cs.length ≤ cur.size)
    (hr : res = .ok (.value v') (w1.alloc (.cells cur ty))) (hv : VR (iset ι n ⟨w.heap.size, 0, true, P.cellsOf ty, cur.size⟩) v v') :
    Good P base ι C H n { v := v, news := [.cells cs ty true], rd := rd } w res := by
  refine ⟨_, _, _, v', hr, .inl rfl, hv, iset_le _ hn, fun x hx => ?_, ?_, ?_, fun _ _ e => by (cases e), fun _ => by simp [iset_same]⟩
  · rcases hx with hx | hx
    · exact iset_other _ _ hx
    · cases hx
  · rw [heap_new, patch_set (.inr (by rw [hHn]; intro e; cases e))]
    have h2 := (hR.same hw1).alloc hn hc hl (ty := ty)
    rw [hw1] at h2
    exact h2
  · exact hb.trans ((Below.refl _ _).alloc (by rw [hw1]; exact hR.size) _)

theorem box_sound (hR : HR P base ι C w) {t : TypeId} {v v' : Value} {r : Res} (h : abox n t v = some r) (hv : VR ι v v') (hn : r.news ≠ [] → ι n = none ∧ H n = .dead) {s : Sem Value}
    (hs : s.run P w = .ok (.pointer (some ⟨w.heap.size, 0, none⟩)) (w.alloc (.cells v'.cells t))) :
    Good P base ι C H n r w ((do pure (Next.value (← s)) : Sem Next).run P w) := by
  unfold abox at h
  split at h
  case isFalse => cases h
  rename_i hone
  cases h
  obtain ⟨h1, h2⟩ := hn (by simp)
  refine good_new hR rfl (Below.refl _ _) h1 h2 ?_ (by have := hv.cells.1; simp at this; omega) (run_value hs) (.ptr n 0 _ (iset_same _ _ _))
  intro i u e
  obtain ⟨u', e1, e2⟩ := hv.cells.get e
  exact ⟨u', by simpa using e1, e2, List.all_eq_true.1 hone u (List.mem_of_getElem? e)⟩

theorem run_box (t : TypeId) (v : Value) : (Instr.box t v).run P w = .ok (.pointer (some ⟨w.heap.size, 0, none⟩)) (w.alloc (.cells v.cells t)) := by
  simp [Instr.box, newVar, newRow]

theorem alloc_sound (hR : HR P base ι C w) {t : TypeId} {r : Res} (h : aalloc P n t = some r) (hn : r.news ≠ [] → ι n = none ∧ H n = .dead) (old : Value) :
    Good P base ι C H n r w ((do pure (Next.value (← Instr.alloc t true old)) : Sem Next).run P w) := by
  unfold aalloc at h
  split at h
  case h_2 => cases h
  rename_i z hz
  split at h
  case isFalse => cases h
  rename_i hf
  obtain ⟨i, hi, hz'⟩ := Option.bind_eq_some_iff.1 hz
  refine box_sound hR h (still_refl ι hf) hn ?_
  simp [Instr.alloc, zeroValue, typeInfo, hi, hz', newVar, newRow]

theorem zero_spec {t : TypeId} {zs : List Value} (h : zeroCellsOf P t = some zs) : ∃ i z, P.info? t = some i ∧ i.zero = some z ∧ zs = z.cells.toList ∧ zs.all still1 = true := by
  unfold zeroCellsOf at h
  split at h
  case h_2 => cases h
  rename_i z hz
  split at h
  case isFalse => cases h
  rename_i hf
  cases h
  obtain ⟨i, hi, hz'⟩ := Option.bind_eq_some_iff.1 hz
  exact ⟨i, z, hi, hz', rfl, hf⟩

theorem still1_one {v : Value} (h : still1 v = true) : one v = true := by
  unfold still1 at h
  split at h
  · rfl
  · cases v <;> first | rfl | (simp [flat1] at h)
theorem all_still1_one {l : List Value} (h : l.all still1 = true) : l.all one = true := by
  rw [List.all_eq_true] at *; exact fun x hx => still1_one (h x hx)
theorem flat1_one {v : Value} (h : flat1 v = true) : one v = true := by cases v <;> first | rfl | (simp [flat1] at h)
theorem all_flat1_one {l : List Value} (h : l.all flat1 = true) : l.all one = true := by
  rw [List.all_eq_true] at *; exact fun x hx => flat1_one (h x hx)

theorem rep_length (n : Nat) (z : List Value) : (rep n z).length = n * z.length := by
  induction n with
  | zero => simp [rep]
  | succ n ih => simp [rep, ih, Nat.succ_mul]; omega
theorem rep_get (z : List Value) (_hz : 0 < z.length) : ∀ (n i : Nat), i < n * z.length → (rep n z)[i]? = z[i % z.length]? := by
  intro n
  induction n with
  | zero => intro i h; simp at h
  | succ n ih =>
    intro i h
    simp only [rep]
    by_cases hi : i < z.length
    · rw [List.getElem?_append_left hi, Nat.mod_eq_of_lt hi]
    · rw [List.getElem?_append_right (by omega), ih _ (by rw [Nat.succ_mul] at h; omega)]
      congr 1
      rw [← Nat.mod_eq_sub_mod (by omega)]

theorem made_get (z : Array Value) (hz : 0 < z.size) (n i : Nat) (h : i < n) : ((Array.range n).map (z[· % z.size]!))[i]? = z[i % z.size]? := by
  have hlt : i % z.size < z.size := Nat.mod_lt _ hz
  simp [h, hlt]

theorem makeSlice_sound (hR : HR P base ι C w) {t : TypeId} {l c : Value} {l' c' : Value} {r : Res} (h : amakeSlice P n t l c = some r) (hl : VR ι l l') (hc : VR ι c c') (hn : r.news ≠ [] → ι n = none ∧ H n = .dead) :
    Good P base ι C H n r w ((do pure (Next.value (← Instr.makeSlice t l' c')) : Sem Next).run P w) := by
  unfold amakeSlice at h
  split at h
  case h_2 => cases h
  rename_i elem kl l kc c ht
  cases hl
  cases hc
  split at h
  case h_2 => cases h
  rename_i j zs hj hzs
  split at h
  case isFalse => cases h
  rename_i hcond
  obtain ⟨h0, hlc, hbig, hby, hzl, hsz⟩ := hcond
  cases h
  obtain ⟨i, z, hi, hz, rfl, hf⟩ := zero_spec hzs
  rw [hj] at hi
  cases hi
  obtain ⟨h1, h2⟩ := hn (by simp)
  have hzl' : z.cells.size = j.size := by simpa using hzl
  have hb1 : (j.bytes : Int) * c ≤ 4096 * 4294967296 := by
    have : c ≤ 4294967296 := hbig
    exact Int.mul_le_mul (by omega) this (by omega) (by omega)
  have hrun := run_make (P := P) w t elem j z ht hj hz kl kc l c h0 hlc (by omega) (by have : c ≤ 4294967296 := hbig; omega)
  have hlc' : l.toNat ≤ c.toNat := by omega
  have hsize : l.toNat * j.size ≤ c.toNat * j.size := Nat.mul_le_mul_right _ hlc'
  refine good_new hR rfl (Below.refl _ _) h1 h2 ?_ ?_ (run_value hrun) (.slice n 0 l.toNat 0 c.toNat ⟨w.heap.size, 0, true, P.cellsOf elem, (madeCells z.cells (c.toNat * j.size)).size⟩ (iset_same _ _ _) (fun _ => rfl) hlc' (by have : c ≤ 4294967296 := hbig; unfold maxLen; omega) (fun _ => ?_))
  · intro i u e
    have hi : i < l.toNat * j.size := by
      rcases Nat.lt_or_ge i (l.toNat * j.size) with g | g
      · exact g
      · rw [List.getElem?_eq_none (by rw [rep_length, hzl]; exact g)] at e; cases e
    rw [rep_get _ (by omega) _ _ (by rw [hzl]; exact hi)] at e
    have hm : (madeCells z.cells (c.toNat * j.size))[i]? = z.cells[i % z.cells.size]? := made_get z.cells (by omega) _ i (by omega)
    rw [hm]
    have e' : z.cells[i % z.cells.size]? = some u := by simpa using e
    have hu : still1 u = true := List.all_eq_true.1 hf u (List.mem_of_getElem? e)
    exact ⟨u, e', still1_refl ι hu, still1_one hu⟩
  · rw [rep_length, size_madeCells, hzl]; exact hsize
  · simp only [size_madeCells, Program.cellsOf, hj, Option.map_some, Option.getD_some, Nat.zero_add]
    exact Nat.le_refl _

theorem foldl_splice (vs : List Value) : ∀ (cells : Array Value) (off j : Nat),
    ((vs.zipIdx j).foldl (fun cs (x : Value × Nat) => cs.setIfInBounds (off + x.2) x.1) cells).toList = splice cells.toList (off + j) vs := by
  induction vs with
  | nil => intro cells off j; rfl
  | cons v vs ih =>
    intro cells off j
    simp only [List.zipIdx_cons, List.foldl_cons, splice]
    rw [ih, Array.toList_setIfInBounds]
    rfl

theorem fill_sound {place place' : Nat → Option (Nat × Nat)} (hp : ∀ i, place i = place' i) : ∀ (parts parts' : List (Nat × Value)) (cs : List Value) (cells : Array Value) (out : List Value),
    afill place cs parts = some out → VRs ι cs cells.toList → parts.map (·.1) = parts'.map (·.1) → VRs ι (parts.map (·.2)) (parts'.map (·.2)) →
    ∃ cells', Instr.fill place' cells parts' = some cells' ∧ VRs ι out cells'.toList := by
  intro parts
  induction parts with
  | nil =>
    intro parts' cs cells out h hv h1 h2
    cases parts' with
    | nil => simp only [afill] at h; cases h; exact ⟨cells, rfl, hv⟩
    | cons => simp at h1
  | cons p parts ih =>
    intro parts' cs cells out h hv h1 h2
    cases parts' with
    | nil => simp at h1
    | cons p' parts' =>
      obtain ⟨i, v⟩ := p
      obtain ⟨i', v'⟩ := p'
      simp only [List.map_cons, List.cons.injEq] at h1
      obtain ⟨rfl, h1⟩ := h1
      simp only [List.map_cons] at h2
      obtain ⟨u', k, e, r1, r2⟩ := h2.cons_inv
      simp only [List.cons.injEq] at e
      obtain ⟨rfl, rfl⟩ := e
      simp only [afill] at h
      split at h
      case h_1 => cases h
      rename_i off size hpl
      split at h
      case isTrue => cases h
      rename_i hcond
      simp only [not_or, Decidable.not_not, Nat.not_lt] at hcond
      obtain ⟨hs, ho, hone⟩ := hcond
      have hcl := r1.cells.1
      have hsz : v'.cells.size = size := by rw [← hs, hcl]; simp
      have hcs : cells.size = cs.length := by rw [hv.1]; simp
      simp only [Instr.fill, ← hp, hpl]
      rw [if_neg (by simp [hsz]; omega)]
      refine ih parts' _ _ out h ?_ h1 r2
      have := foldl_splice v'.cells.toList cells off 0
      rw [← Array.toList_zipIdx, Array.foldl_toList] at this
      rw [this]
      exact hv.splice _ r1.cells

theorem fplaces_mapM : ∀ (fs : List Field) (places : List (Nat × Nat)), fplaces P fs = some places → fs.mapM (fun f => (P.info? f.type).map fun i => (f.offset, i.size)) = some places
  | [], places, h => by simp only [fplaces] at h; cases h; rfl
  | f :: fs, places, h => by
    simp only [fplaces] at h
    split at h
    case h_2 => cases h
    rename_i j l hj hl
    cases h
    simp [List.mapM_cons, hj, fplaces_mapM fs l hl]

theorem build_sound (hR : HR P base ι C w) {t : TypeId} {parts : List (Nat × Value)} {parts' : Array (Nat × Value)} {v : Value} (h : abuild P t parts = some v)
    (h1 : parts.map (·.1) = parts'.toList.map (·.1)) (h2 : VRs ι (parts.map (·.2)) (parts'.toList.map (·.2))) :
    Good P base ι C H n { v := v } w ((do pure (Next.value (← Instr.build t parts')) : Sem Next).run P w) := by
  unfold abuild at h
  split at h
  · rename_i fields zs ht hzs
    split at h
    case h_2 => cases h
    rename_i places hpl
    obtain ⟨cs, hfill, rfl⟩ := Option.map_eq_some_iff.1 h
    obtain ⟨i, z, hi, hz, rfl, hf⟩ := zero_spec hzs
    obtain ⟨cells', hfill', hv⟩ := fill_sound (ι := ι) (place' := fun i => places[i]?) (fun i => rfl) parts parts'.toList _ z.cells cs hfill (all_still1_refl ι hf) h1 h2
    refine good_value hR (run_value ?_) (hv.agg)
    have hm := run_places (P := P) w fields.toList places (fplaces_mapM _ _ hpl)
    simp [Instr.build, zeroValue, typeInfo, hi, hz, run_underlying ht, Array.mapM_eq_mapM_toList, hm, hfill']
  · rename_i len elem zs ht hzs
    split at h
    case h_2 => cases h
    rename_i j hj
    obtain ⟨cs, hfill, rfl⟩ := Option.map_eq_some_iff.1 h
    obtain ⟨i, z, hi, hz, rfl, hf⟩ := zero_spec hzs
    obtain ⟨cells', hfill', hv⟩ := fill_sound (ι := ι) (place' := fun i => some (i * j.size, j.size)) (fun i => rfl) parts parts'.toList _ z.cells cs hfill (all_still1_refl ι hf) h1 h2
    refine good_value hR (run_value ?_) (hv.agg)
    simp [Instr.build, zeroValue, typeInfo, hi, hz, run_underlying ht, sizeOf, hj, hfill']
  · cases h

theorem buildSlice_sound (hR : HR P base ι C w) {t : TypeId} {len : Nat} {parts : List (Nat × Value)} {parts' : Array (Nat × Value)} {r : Res} (h : abuildSlice P n t len parts = some r)
    (h1 : parts.map (·.1) = parts'.toList.map (·.1)) (h2 : VRs ι (parts.map (·.2)) (parts'.toList.map (·.2))) (hn : r.news ≠ [] → ι n = none ∧ H n = .dead) :
    Good P base ι C H n r w ((do pure (Next.value (← Instr.buildSlice t len parts')) : Sem Next).run P w) := by
  unfold abuildSlice at h
  split at h
  case h_2 => cases h
  rename_i elem ht
  split at h
  case h_2 => cases h
  rename_i j zs hj hzs
  split at h
  case isTrue => cases h
  rename_i hcond
  simp only [not_or, Nat.not_lt, Decidable.not_not] at hcond
  obtain ⟨hbig, hlen, hzl, hjs⟩ := hcond
  obtain ⟨cs, hfill, rfl⟩ := Option.map_eq_some_iff.1 h
  obtain ⟨i, z, hi, hz, rfl, hf⟩ := zero_spec hzs
  rw [hj] at hi
  cases hi
  have hzs' : z.cells.size = j.size := by simpa using hzl
  have hinit : VRs ι (rep len z.cells.toList) ((Array.range (len * j.size)).map (z.cells[· % z.cells.size]!)).toList := by
    refine ⟨by rw [rep_length, hzl]; simp, fun q u u' e e' => ?_⟩
    have hq : q < len * j.size := by
      rcases Nat.lt_or_ge q (len * j.size) with g | g
      · exact g
      · rw [List.getElem?_eq_none (by rw [rep_length, hzl]; exact g)] at e; cases e
    rw [rep_get _ (by omega) _ _ (by rw [hzl]; exact hq)] at e
    have hm := made_get z.cells (by omega) (len * j.size) q hq
    rw [Array.getElem?_toList, hm] at e'
    have e2 : z.cells[q % z.cells.size]? = some u := by simpa using e
    rw [e2] at e'
    cases e'
    exact still1_refl ι (List.all_eq_true.1 hf u (List.mem_of_getElem? e))
  obtain ⟨cells', hfill', hv⟩ := fill_sound (ι := ι) (place' := fun i => some (i * j.size, j.size)) (fun i => rfl) parts parts'.toList _ _ cs hfill hinit h1 h2
  obtain ⟨g1, g2⟩ := hn (by simp)
  have hrun : (Instr.buildSlice t len parts').run P w = .ok (.slice (some ⟨w.heap.size, 0, none⟩) len len) (w.alloc (.cells cells' elem)) := by
    by_cases h0 : len * j.size = 0
    · have hr0 : (Array.range (len * j.size)).map (z.cells[· % z.cells.size]!) = (Array.range (len * j.size)).map ((#[] : Array Value)[· % (#[] : Array Value).size]!) := by
        rw [h0]; simp [Array.range_zero']
      rw [hr0, h0] at hfill'
      simp [Instr.buildSlice, run_underlying ht, sizeOf, typeInfo, hj, newRow, h0] at hfill' ⊢
      simp [hfill']
    · simp [Instr.buildSlice, run_underlying ht, sizeOf, typeInfo, zeroValue, hj, hz, newRow, h0, hfill', hbig]
  refine good_new hR rfl (Below.refl _ _) g1 g2 ?_ (by rw [hv.1]; simp) (run_value hrun) ?_
  · intro q u e
    obtain ⟨u', e1, e2⟩ := hv.get e
    have h1' : cs.all one = true := by
      have key : ∀ (ps : List (Nat × Value)) (a b : List Value), a.all one = true → afill (fun i => some (i * j.size, j.size)) a ps = some b → b.all one = true := by
        intro ps
        induction ps with
        | nil => intro a b ha hb; simp only [afill] at hb; cases hb; exact ha
        | cons p ps ih =>
          intro a b ha hb
          obtain ⟨i, v⟩ := p
          simp only [afill] at hb
          split at hb
          case isTrue => cases hb
          rename_i hc
          simp only [not_or, Decidable.not_not, Nat.not_lt] at hc
          refine ih _ b ?_ hb
          rw [List.all_eq_true]
          intro x hx
          obtain ⟨k, hk, rfl⟩ := List.getElem_of_mem hx
          have := splice_get (vcells v) a (i * j.size) (by omega) k
          rw [List.getElem?_eq_getElem hk] at this
          split at this
          · exact List.all_eq_true.1 hc.2.2 _ (List.mem_of_getElem? this.symm)
          · exact List.all_eq_true.1 ha _ (List.mem_of_getElem? this.symm)
      refine key parts _ cs ?_ hfill
      have hrep : ∀ m, (rep m z.cells.toList).all one = true := by
        intro m
        induction m with
        | zero => rfl
        | succ m ih => simp only [rep, List.all_append, ih, all_still1_one hf, Bool.and_self]
      exact hrep len
    exact ⟨u', by simpa using e1, e2, List.all_eq_true.1 h1' u (List.mem_of_getElem? e)⟩
  · refine .slice n 0 len 0 len _ (iset_same _ _ _) (fun _ => rfl) (Nat.le_refl _) (by unfold maxLen; omega) (fun _ => ?_)
    have hcs : cells'.size = len * j.size := by
      have : cs.length = len * j.size := by
        have key : ∀ (ps : List (Nat × Value)) (a b : List Value), afill (fun i => some (i * j.size, j.size)) a ps = some b → b.length = a.length := by
          intro ps
          induction ps with
          | nil => intro a b hb; simp only [afill] at hb; cases hb; rfl
          | cons p ps ih =>
            intro a b hb
            obtain ⟨i, v⟩ := p
            simp only [afill] at hb
            split at hb
            case isTrue => cases hb
            rw [ih _ b hb, splice_length]
        rw [key parts _ cs hfill, rep_length, hzl]
      rw [← this, hv.1]; simp
    simp only [Program.cellsOf, hj, Option.map_some, Option.getD_some, hcs, Nat.zero_add]
    exact Nat.le_refl _

theorem bound_spec {x x' : Option Value} {d m : Nat} (h : bound x d = some m) (hx : (x = none ∧ x' = none) ∨ ∃ u u', x = some u ∧ x' = some u' ∧ VR ι u u') :
    (x' = none ∧ m = d) ∨ ∃ k i, x' = some (.int k i) ∧ 0 ≤ i ∧ m = i.toNat := by
  unfold bound at h
  rcases hx with ⟨rfl, rfl⟩ | ⟨u, u', rfl, rfl, r⟩
  · simp at h; exact .inl ⟨rfl, h.symm⟩
  · cases r <;> simp at h
    rename_i k i
    exact .inr ⟨k, i, rfl, h.1, h.2.symm⟩

theorem slice_sound (hR : HR P base ι C w) {t : TypeId} {x x' : Value} {lo hi lo' hi' : Option Value} {r : Res} (h : aslice P H t x lo hi = some r) (hx : VR ι x x')
    (hlo : (lo = none ∧ lo' = none) ∨ ∃ u u', lo = some u ∧ lo' = some u' ∧ VR ι u u') (hhi : (hi = none ∧ hi' = none) ∨ ∃ u u', hi = some u ∧ hi' = some u' ∧ VR ι u u')
    (hrd : ∀ x ∈ r.rd, ι x ≠ none → C x = H x) :
    Good P base ι C H n r w ((do pure (Next.value (← Instr.sliceAt t x' lo' hi' none)) : Sem Next).run P w) := by
  unfold aslice at h
  split at h
  · rename_i elem y k len cc ht
    split at h
    case h_2 => cases h
    rename_i j l hh cs ty own hj hl hh' hy
    split at h
    case isFalse => cases h
    rename_i hcond
    obtain ⟨hlh, hhl, hown⟩ := hcond
    cases h
    cases hx with
    | slice _ _ _ o c t' ht' ho hc hm how =>
      have hbl := bound_spec hl hlo
      have hbh := bound_spec hh' hhi
      have hC := hrd y (by simp) (by simp [ht'])
      have hob := hR.obj y
      rw [hC, hy] at hob
      obtain ⟨t2, h2, hto, _, hw⟩ := hob
      rw [ht'] at h2
      cases h2
      have hrun : (Instr.sliceAt t (.slice (some ⟨t'.block, o, none⟩) len c) lo' hi' none).run P w =
          .ok (.slice (if c = l then some ⟨t'.block, o, none⟩ else some ⟨t'.block, o + l * j.size, none⟩) (hh - l) (c - l)) w := by
        have e1 : ∀ (q : Nat), (⟨t'.block, o, none⟩ : Addr).add q = ⟨t'.block, o + q, none⟩ := fun q => add_lit _ _ _
        have b1 : ∀ (k : IntKind) (i : Int) (d : Nat) (code : BoundsCode), 0 ≤ i → i.toNat ≤ d → (Instr.sliceBound (.int k i) d code).run P w = .ok i.toNat w := by
          intro k i d code h0 h1
          have : i ≤ (d : Int) := by omega
          simp [Instr.sliceBound, asIntOf, h0, this]
        have hsb : (Instr.sliceBounds true len c lo' hi' none).run P w = .ok (l, hh, c) w := by
          rcases hbl with ⟨rfl, rfl⟩ | ⟨k1, i1, rfl, h1, rfl⟩ <;> rcases hbh with ⟨rfl, rfl⟩ | ⟨k2, i2, rfl, h2, rfl⟩
          · simp [Instr.sliceBounds]
          · simp [Instr.sliceBounds, b1 _ _ c _ h2 (by omega)]
          · simp [Instr.sliceBounds, b1 _ _ _ _ h1 hlh]
          · simp [Instr.sliceBounds, b1 _ _ c _ h2 (by omega), b1 _ _ _ _ h1 hlh]
        simp [Instr.sliceAt, Instr.slice, run_underlying ht, hsb, sizeOf, typeInfo, hj, e1]
      by_cases hcl : c = l
      · rw [if_pos hcl] at hrun
        have hz : hh - l = 0 := by omega
        refine good_value hR (run_value hrun) ?_
        rw [hz]
        exact .slice y _ 0 o (c - l) t' ht' (fun e => absurd rfl e) (Nat.zero_le _) (by omega) (fun e => by
          have := how e
          rw [hcl, Nat.sub_self, Nat.zero_mul, Nat.add_zero]; omega)
      · rw [if_neg hcl] at hrun
        refine good_value hR (run_value hrun) ?_
        refine .slice y _ (hh - l) (o + l * j.size) (c - l) t' ht' (fun e => ?_) (by omega) (by omega) (fun e => ?_)
        · rw [ho (by omega)]; omega
        · have hw' := hw (hto ▸ e)
          have hs : t'.esz = j.size := by rw [hw'.1]; exact hown (hto ▸ e)
          have h1 := how e
          rw [hs] at h1 ⊢
          have h2 : l * j.size + (c - l) * j.size = c * j.size := by rw [← Nat.add_mul, Nat.add_sub_cancel' (by omega)]
          omega
  · rename_i elem ht
    split at h
    case h_2 => cases h
    rename_i j hj hl hh
    cases h
    cases hx with
    | sliceNil a =>
      have hbl := bound_spec hl hlo
      have hbh := bound_spec hh hhi
      refine good_value hR (run_value ?_) (.sliceNil a)
      have hsb : (Instr.sliceBounds true 0 0 lo' hi' none).run P w = .ok (0, 0, 0) w := by
        have b1 : ∀ (k : IntKind) (i : Int) (code : BoundsCode), 0 ≤ i → 0 = i.toNat → (Instr.sliceBound (.int k i) 0 code).run P w = .ok 0 w := by
          intro k i code h0 h1
          have : i = 0 := by omega
          subst this
          simp [Instr.sliceBound, asIntOf]
        rcases hbl with ⟨rfl, _⟩ | ⟨k1, i1, rfl, h1, e1⟩ <;> rcases hbh with ⟨rfl, _⟩ | ⟨k2, i2, rfl, h2, e2⟩
        · simp [Instr.sliceBounds]
        · simp [Instr.sliceBounds, b1 _ _ _ h2 e2]
        · simp [Instr.sliceBounds, b1 _ _ _ h1 e1]
        · simp [Instr.sliceBounds, b1 _ _ _ h2 e2, b1 _ _ _ h1 e1]
      simp [Instr.sliceAt, Instr.slice, run_underlying ht, hsb, sizeOf, typeInfo, hj]
  · cases h

theorem fieldAddr_sound (hR : HR P base ι C w) {t : TypeId} {x x' : Value} {i : Nat} {v : Value} (h : afieldAddr P t x i = some v) (hx : VR ι x x') :
    Good P base ι C H n { v := v } w ((do pure (Next.value (← Instr.fieldAt t x' i)) : Sem Next).run P w) := by
  unfold afieldAddr at h
  split at h
  case h_2 => cases h
  rename_i fields y k ht
  split at h
  case h_2 => cases h
  rename_i f hf
  split at h
  case h_2 => cases h
  rename_i j hj
  split at h
  case isTrue => cases h
  rename_i hs
  cases h
  cases hx with
  | ptr _ _ t' ht' =>
    refine good_value hR (run_value (v := .pointer (some ⟨t'.block, t'.off + (k + f.offset), none⟩)) ?_) (.ptr y (k + f.offset) t' ht')
    simp [Instr.fieldAt, run_underlying ht, hf, Instr.sureAddr, fieldPlace, sizeOf, typeInfo, hj, hs, add_lit, Nat.add_assoc]

theorem indexAddr_sound (hR : HR P base ι C w) {t : TypeId} {x x' i i' : Value} {v : Value} (h : aindexAddr P t x i = some v) (hx : VR ι x x') (hi : VR ι i i') :
    Good P base ι C H n { v := v } w ((do pure (Next.value (← Instr.indexAt t x' i')) : Sem Next).run P w) := by
  unfold aindexAddr at h
  split at h
  · rename_i elem y k len cc kk i ht
    split at h
    case h_2 => cases h
    rename_i j hj
    split at h
    case isFalse => cases h
    rename_i hb
    cases h
    cases hi
    cases hx with
    | slice _ _ _ o c t' ht' ho hc hm how =>
      have ho' := ho (by omega)
      refine good_value hR (run_value (v := .pointer (some ⟨t'.block, t'.off + (k + i.toNat * j.size), none⟩)) ?_) (.ptr y _ t' ht')
      simp [Instr.indexAt, asIntOf, run_underlying ht, sizeOf, typeInfo, hj, hb.1, hb.2, add_lit, ho', Nat.add_assoc]
  · rename_i len elem y k kk i ht
    split at h
    case h_2 => cases h
    rename_i j hj
    split at h
    case isFalse => cases h
    rename_i hb
    cases h
    cases hi
    cases hx with
    | ptr _ _ t' ht' =>
      refine good_value hR (run_value (v := .pointer (some ⟨t'.block, t'.off + (k + i.toNat * j.size), none⟩)) ?_) (.ptr y _ t' ht')
      simp [Instr.indexAt, asIntOf, run_underlying ht, Instr.sureAddr, sizeOf, typeInfo, hj, hb.1, hb.2, add_lit, Nat.add_assoc]
  · cases h

theorem apart_run {t : TypeId} {cs : List Value} {cs' : Array Value} {off : Nat} {v : Value} (h : apart P t cs off = some v) (hv : VRs ι cs cs'.toList) :
    ∃ v', (part t cs' off).run P w = .ok v' w ∧ VR ι v v' := by
  unfold apart at h
  split at h
  case h_2 => cases h
  rename_i j hj
  split at h
  · rename_i hagg
    split at h
    case isFalse => cases h
    rename_i hk
    cases h
    refine ⟨.agg (cs'.extract off (off + j.size)), by simp [part, run_isAgg hagg, sizeOf, typeInfo, hj], ?_⟩
    have h1 := ((hv.drop off).take j.size).agg
    have h2 : ((cs'.toList.drop off).take j.size).toArray = cs'.extract off (off + j.size) := by
      apply Array.ext'
      simp [Array.toList_extract, List.extract_eq_take_drop]
    rwa [h2] at h1
  · rename_i hagg
    obtain ⟨v', h1, h2⟩ := hv.get h
    refine ⟨v', ?_, h2⟩
    have h1' : cs'[off]? = some v' := by simpa using h1
    simp [part, run_isAgg hagg, h1']
  · cases h

theorem field_sound (hR : HR P base ι C w) {t : TypeId} {x x' : Value} {i : Nat} {v : Value} (h : afield P t x i = some v) (hx : VR ι x x') :
    Good P base ι C H n { v := v } w ((do pure (Next.value (← Instr.field t x' i)) : Sem Next).run P w) := by
  unfold afield at h
  split at h
  case h_2 => cases h
  rename_i fields cs ht
  split at h
  case h_2 => cases h
  rename_i f hf
  cases hx with
  | agg _ a' ha hra =>
    obtain ⟨v', h1, h2⟩ := apart_run (w := w) (cs' := a') h (VRs.of_arrays ha hra)
    refine good_value hR (run_value ?_) h2
    simp [Instr.field, run_underlying ht, hf, asAgg, h1]

theorem index_sound (hR : HR P base ι C w) {t : TypeId} {x x' i i' : Value} {v : Value} (h : aindex P t x i = some v) (hx : VR ι x x') (hi : VR ι i i') :
    Good P base ι C H n { v := v } w ((do pure (Next.value (← Instr.index t x' i')) : Sem Next).run P w) := by
  unfold aindex at h
  split at h
  case h_2 => cases h
  rename_i len elem cs kk i ht
  split at h
  case h_2 => cases h
  rename_i j hj
  split at h
  case isFalse => cases h
  rename_i hb
  cases hi
  cases hx with
  | agg _ a' ha hra =>
    obtain ⟨v', h1, h2⟩ := apart_run (w := w) (cs' := a') h (VRs.of_arrays ha hra)
    refine good_value hR (run_value ?_) h2
    simp [Instr.index, asIntOf, run_underlying ht, sizeOf, typeInfo, hj, hb.1, hb.2, h1]

theorem len_sound (hR : HR P base ι C w) {ts : Array TypeId} {ty : TypeId} {x x' : Value} {r : Res} (h : alen P H ts x = some r) (hx : VR ι x x') (hrd : ∀ x ∈ r.rd, ι x ≠ none → C x = H x) :
    Good P base ι C H n r w ((do pure (Next.value (← Builtin.len_ ts ty #[x'])) : Sem Next).run P w) := by
  unfold alen at h
  cases ht0 : ts[0]? with
  | none => simp [ht0] at h
  | some t =>
    simp only [ht0, Option.bind_some] at h
    split at h
    · rename_i elem _ m _ ht
      cases h
      cases hx with
      | sliceNil a => exact good_value hR (run_value (by simp [Builtin.len_, ht0, run_underlying ht, goInt])) (.int _ _)
      | slice _ _ _ o c t' ht' ho hc hm how => exact good_value hR (run_value (by simp [Builtin.len_, ht0, run_underlying ht, goInt])) (.int _ _)
    · rename_i s ht
      cases h
      cases hx
      exact good_value hR (run_value (by simp [Builtin.len_, ht0, run_underlying ht, goInt])) (.int _ _)
    · rename_i k e ht
      cases h
      cases hx
      exact good_value hR (run_value (by simp [Builtin.len_, ht0, run_underlying ht, goInt])) (.int _ _)
    · rename_i k e y ht
      split at h
      case h_2 => cases h
      rename_i es clock hy
      cases h
      cases hx with
      | map _ t' ht' =>
        have hC := hrd y (by simp) (by simp [ht'])
        have hob := hR.obj y
        rw [hC, hy] at hob
        obtain ⟨t2, es', h2, _, hblk, hk, _⟩ := hob
        rw [ht'] at h2
        cases h2
        have hl : es.length = es'.size := by have := hk.1; simpa using this
        refine good_value hR (run_value (v := .int .i64 es.length) ?_) (.int _ _)
        have hg : (getObj t'.block).run P w = .ok (.map es' clock) w := by simp [getObj, Sem.run, hblk]
        simp [Builtin.len_, ht0, run_underlying ht, hg, goInt, hl]
    · cases h

end
end Go.AM
