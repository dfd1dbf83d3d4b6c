/- What arguments are: lists of integers, strings, rules; grammars. -/
import Derived.Test.YtplnndgdklfnfaaAmGram
import Derived.Test.YtplnndgdklfnfaaAmLaw
set_option linter.all false
namespace Go.AM
open Go.RowKit

theorem pick_list {α : Type} {Q : Nat → α → Prop} : ∀ (m : Nat), (∀ i, i < m → ∃ y, Q i y) → ∃ l : List α, l.length = m ∧ ∀ i y, l[i]? = some y → Q i y := by
  intro m
  induction m with
  | zero => intro _; exact ⟨[], rfl, fun i y h => by simp at h⟩
  | succ m ih =>
    intro h
    obtain ⟨l, h1, h2⟩ := ih fun i hi => h i (by omega)
    obtain ⟨y, hy⟩ := h m (by omega)
    refine ⟨l ++ [y], by simp [h1], fun i z e => ?_⟩
    by_cases hi : i < l.length
    · rw [List.getElem?_append_left hi] at e; exact h2 i z e
    · rw [List.getElem?_append_right (by omega)] at e
      have : i - l.length = 0 := by
        apply Classical.byContradiction
        intro hc
        obtain ⟨q, hq⟩ : ∃ q, i - l.length = q + 1 := ⟨i - l.length - 1, by omega⟩
        rw [hq] at e; simp at e
      have e' : i = m := by omega
      rw [this] at e
      simp at e
      subst e
      rw [e']; exact hy

theorem at1 {cs : List Value} {i : Nat} {v : Value} (h : (cs.drop i).take 1 = [v]) : cs[i]? = some v := by
  have : ((cs.drop i).take 1)[0]? = some v := by rw [h]; rfl
  rw [List.getElem?_take, List.getElem?_drop] at this
  simpa using this

variable {P : Program} {H : Heap}

theorem AR.int_inv {t : TypeId} {cs : List Value} (h : AR P H t cs) (ht : P.underlying t = some (.int .i64)) : ∃ n, cs = [.int .i64 n] ∧ inI n := by
  cases h with
  | int t k n ht' hw =>
    rw [ht] at ht'; cases ht'
    refine ⟨n, rfl, ?_⟩
    simp [Lit.wf, IntKind.min, IntKind.max, IntKind.signed, IntKind.bits] at hw
    unfold inI
    omega
  | _ => simp_all

theorem AR.str_inv {t : TypeId} {cs : List Value} (h : AR P H t cs) (ht : P.underlying t = some .string) : ∃ s, cs = [.string s] ∧ s.size ≤ maxL := by
  cases h with
  | string t s ht' hs =>
    refine ⟨s, rfl, Nat.le_trans hs ?_⟩
    unfold maxL maxLen
    omega
  | _ => simp_all

theorem AR.float_inv {t : TypeId} {cs : List Value} (h : AR P H t cs) (ht : P.underlying t = some (.float .f64)) : ∃ b, cs = [.float .f64 b] ∧ b < 2 ^ 64 := by
  cases h with
  | float t k b ht' hw =>
    rw [ht] at ht'; cases ht'
    refine ⟨b, rfl, ?_⟩
    simpa [Lit.wf] using hw
  | _ => simp_all

theorem AR.slice_inv {t e : TypeId} {cs : List Value} (h : AR P H t cs) (ht : P.underlying t = some (.slice e)) : cs = [.slice none 0 0] ∨ ∃ x m ds, cs = [.slice (some ⟨x, 0, none⟩) m m] ∧ H x = .cells ds e false ∧ m ≤ maxL ∧ ∀ i, i < m → AR P H e ((ds.drop (i * P.cellsOf e)).take (P.cellsOf e)) := by
  cases h with
  | nil => exact .inl rfl
  | slice t e' x m ds ht' hx hl hm he =>
    rw [ht] at ht'; cases ht'
    refine .inr ⟨x, m, ds, rfl, hx, Nat.le_trans hm ?_, he⟩
    unfold maxL maxLen
    omega
  | _ => simp_all

theorem AR.list_inv {α : Type} {enc : α → Value} {good : α → Prop} {t e : TypeId} {cs : List Value} (h : AR P H t cs) (ht : P.underlying t = some (.slice e)) (hc : P.cellsOf e = 1) (hi : ∀ ds, AR P H e ds → ∃ y, ds = [enc y] ∧ good y) :
    ∃ p l, cs = [.slice p l.length l.length] ∧ RA enc H p l ∧ l.length ≤ maxL ∧ ∀ y ∈ l, good y := by
  rcases h.slice_inv ht with rfl | ⟨x, m, ds, rfl, hx, hm, he⟩
  · exact ⟨none, [], rfl, fun h => absurd rfl h, by simp, fun y hy => by cases hy⟩
  · obtain ⟨l, h1, h2⟩ := pick_list (Q := fun i y => ds[i]? = some (enc y) ∧ good y) m fun i hi' => by
      obtain ⟨y, e1, e2⟩ := hi _ (he i hi')
      rw [hc, Nat.mul_one] at e1
      exact ⟨y, at1 e1, e2⟩
    subst h1
    refine ⟨_, l, rfl, fun _ => ⟨x, 0, ds, e, false, rfl, hx, fun i y e => by rw [Nat.zero_add]; exact (h2 i y e).1⟩, hm, fun y hy => ?_⟩
    obtain ⟨i, hi', rfl⟩ := List.getElem_of_mem hy
    exact (h2 i _ (List.getElem?_eq_getElem hi')).2

theorem AR.ints {t e : TypeId} {cs : List Value} (h : AR P H t cs) (ht : P.underlying t = some (.slice e)) (hc : P.cellsOf e = 1) (he : P.underlying e = some (.int .i64)) :
    ∃ p l, cs = [.slice p l.length l.length] ∧ RA (Value.int .i64) H p l ∧ l.length ≤ maxL ∧ ∀ y ∈ l, inI y := h.list_inv ht hc fun _ hd => hd.int_inv he
theorem AR.strs {t e : TypeId} {cs : List Value} (h : AR P H t cs) (ht : P.underlying t = some (.slice e)) (hc : P.cellsOf e = 1) (he : P.underlying e = some .string) :
    ∃ p l, cs = [.slice p l.length l.length] ∧ RA Value.string H p l ∧ l.length ≤ maxL ∧ ∀ y ∈ l, y.size ≤ maxL := h.list_inv ht hc fun _ hd => hd.str_inv he

/-- The types of a grammar. -/
structure GramT (P : Program) (tg tr ti tn tss trs tis tf : TypeId) : Prop where
  g : ∃ f1 f2 f3 : Field, P.underlying tg = some (.struct #[f1, f2, f3]) ∧ f1.type = tss ∧ f1.offset = 0 ∧ f2.type = tss ∧ f2.offset = 1 ∧ f3.type = trs ∧ f3.offset = 2
  r : ∃ f1 f2 f3 : Field, P.underlying tr = some (.struct #[f1, f2, f3]) ∧ f1.type = ti ∧ f1.offset = 0 ∧ f2.type = tis ∧ f2.offset = 1 ∧ f3.type = tf ∧ f3.offset = 2
  i : P.underlying ti = some (.int .i64)
  n : P.underlying tn = some .string
  ss : P.underlying tss = some (.slice tn)
  rs : P.underlying trs = some (.slice tr)
  is : P.underlying tis = some (.slice ti)
  f : P.underlying tf = some (.float .f64)
  ci : P.cellsOf ti = 1
  cn : P.cellsOf tn = 1
  css : P.cellsOf tss = 1
  crs : P.cellsOf trs = 1
  cis : P.cellsOf tis = 1
  cf : P.cellsOf tf = 1
  cr : P.cellsOf tr = 3
  cg : P.cellsOf tg = 3

theorem AR.struct_inv {t : TypeId} {fs : Array Field} {cs : List Value} (h : AR P H t cs) (ht : P.underlying t = some (.struct fs)) : cs.length = P.cellsOf t ∧ ∀ (i : Nat) (f : Field), fs[i]? = some f → AR P H f.type ((cs.drop f.offset).take (P.cellsOf f.type)) := by
  cases h with
  | struct t fs' cs ht' hl hf =>
    rw [ht] at ht'; cases ht'
    exact ⟨hl, hf⟩
  | _ => simp_all

section
variable {tg tr ti tn tss trs tis tf : TypeId}

theorem AR.rule (T : GramT P tg tr ti tn tss trs tis tf) {cs : List Value} (h : AR P H tr cs) : ∃ (r : GRule) (p : Option Addr), cs = [.int .i64 r.left, .slice p r.right.length r.right.length, .float .f64 r.weight] ∧ RA (Value.int .i64) H p r.right ∧ inI r.left ∧ r.right.length ≤ maxL ∧ (∀ s ∈ r.right, inI s) ∧ r.weight < 2 ^ 64 := by
  obtain ⟨f1, f2, f3, e, a1, b1, a2, b2, a3, b3⟩ := T.r
  obtain ⟨hl, hf⟩ := h.struct_inv e
  rw [T.cr] at hl
  match cs, hl with
  | [x, y, z], _ =>
    have h1 := hf 0 f1 rfl
    have h2 := hf 1 f2 rfl
    have h3 := hf 2 f3 rfl
    rw [a1, b1, T.ci] at h1
    rw [a2, b2, T.cis] at h2
    rw [a3, b3, T.cf] at h3
    obtain ⟨n, e1, hn⟩ := h1.int_inv T.i
    obtain ⟨p, l, e2, hp, hl, hs⟩ := h2.ints T.is T.ci T.i
    obtain ⟨w, e3, hw⟩ := h3.float_inv T.f
    simp at e1 e2 e3
    subst e1 e2 e3
    exact ⟨⟨n, l, w⟩, p, rfl, hp, hn, hl, hs, hw⟩

theorem AR.rules (T : GramT P tg tr ti tn tss trs tis tf) {cs : List Value} (h : AR P H trs cs) : ∃ p l, cs = [.slice p l.length l.length] ∧ RR H p l ∧ l.length ≤ maxL ∧ ∀ r ∈ l, inI r.left ∧ (r.right.length ≤ maxL ∧ ∀ s ∈ r.right, inI s) ∧ r.weight < 2 ^ 64 := by
  rcases h.slice_inv T.rs with rfl | ⟨x, m, ds, rfl, hx, hm, he⟩
  · exact ⟨none, [], rfl, fun h => absurd rfl h, by simp, fun y hy => by cases hy⟩
  · obtain ⟨l, h1, h2⟩ := pick_list (Q := fun i (r : GRule) => (∃ p, ds[i * 3]? = some (.int .i64 r.left) ∧ ds[i * 3 + 1]? = some (.slice p r.right.length r.right.length) ∧ ds[i * 3 + 2]? = some (.float .f64 r.weight) ∧ RA (Value.int .i64) H p r.right) ∧ inI r.left ∧ (r.right.length ≤ maxL ∧ ∀ s ∈ r.right, inI s) ∧ r.weight < 2 ^ 64) m fun i hi' => by
      have h := he i hi'
      rw [T.cr] at h
      obtain ⟨r, p, e, hp, q1, q2, q3, q4⟩ := AR.rule T h
      have g : ∀ j, j < 3 → ds[i * 3 + j]? = ((ds.drop (i * 3)).take 3)[j]? := fun j hj => by rw [List.getElem?_take, if_pos hj, List.getElem?_drop]
      refine ⟨r, ⟨p, ?_, ?_, ?_, hp⟩, q1, ⟨q2, q3⟩, q4⟩
      · have := g 0 (by omega); rw [e] at this; simpa using this
      · have := g 1 (by omega); rw [e] at this; simpa using this
      · have := g 2 (by omega); rw [e] at this; simpa using this
    subst h1
    refine ⟨_, l, rfl, fun _ => ⟨x, 0, ds, tr, false, rfl, hx, fun i r e => ?_⟩, hm, fun r hr => ?_⟩
    · obtain ⟨⟨p, c0, c1, c2, c3⟩, _⟩ := h2 i r e
      exact ⟨p, by rw [Nat.zero_add]; exact c0, by rw [Nat.zero_add]; exact c1, by rw [Nat.zero_add]; exact c2, c3⟩
    · obtain ⟨i, hi', rfl⟩ := List.getElem_of_mem hr
      exact (h2 i _ (List.getElem?_eq_getElem hi')).2

theorem ARV.gram (T : GramT P tg tr ti tn tss trs tis tf) {v : Value} (ha : aggT P tg = some true) (h : ARV P H tg v) : ∃ g, RG H v g ∧ WG g := by
  obtain ⟨h1, h2, _⟩ := h
  obtain ⟨cs, rfl⟩ := h2 ha
  obtain ⟨f1, f2, f3, e, a1, b1, a2, b2, a3, b3⟩ := T.g
  have hvc : vcells (.agg cs) = cs.toList := rfl
  rw [hvc] at h1
  obtain ⟨hl, hf⟩ := h1.struct_inv e
  rw [T.cg] at hl
  obtain ⟨cs⟩ := cs
  simp only at hl hf
  match cs, hl with
  | [x, y, z], _ =>
    have h1 := hf 0 f1 rfl
    have h2 := hf 1 f2 rfl
    have h3 := hf 2 f3 rfl
    rw [a1, b1, T.css] at h1
    rw [a2, b2, T.css] at h2
    rw [a3, b3, T.crs] at h3
    obtain ⟨pt, lt, e1, ht, ht1, ht2⟩ := h1.strs T.ss T.cn T.n
    obtain ⟨pv, lv, e2, hv, hv1, hv2⟩ := h2.strs T.ss T.cn T.n
    obtain ⟨pr, lr, e3, hr, hr1, hr2⟩ := AR.rules T h3
    simp at e1 e2 e3
    subst e1 e2 e3
    refine ⟨⟨lt, lv, lr⟩, ⟨pt, pv, pr, rfl, ht, hv, hr⟩, ht1, hv1, hr1, fun r h => (hr2 r h).1, fun r h => (hr2 r h).2.1, fun r h => (hr2 r h).2.2, fun s hs => ?_⟩
    rcases List.mem_append.1 hs with hs | hs
    · exact ht2 s hs
    · exact hv2 s hs

theorem ARV.gramI (T : GramT P tg tr ti tn tss trs tis tf) {v : Value} (ha : aggT P tg = some true) (h : ARV P H tg v) : ∃ g, RG H v g ∧ WG g := ARV.gram T ha h
end

theorem vcells_one {v : Value} (h : one v = true) : vcells v = [v] := by cases v <;> first | rfl | (simp [one] at h)

theorem ARV.intI {v : Value} {t : TypeId} (ht : P.underlying t = some (.int .i64)) (ha : aggT P t = some false) (h : ARV P H t v) : ∃ n, v = .int .i64 n ∧ inI n := by
  obtain ⟨h1, _, h3⟩ := h
  obtain ⟨n, e, hn⟩ := h1.int_inv ht
  refine ⟨n, ?_, hn⟩
  have ho := h3 ha
  rw [vcells_one ho] at e
  simpa using e

theorem ARV.intsI {v : Value} {t e : TypeId} (ht : P.underlying t = some (.slice e)) (hc : P.cellsOf e = 1) (he : P.underlying e = some (.int .i64)) (ha : aggT P t = some false) (h : ARV P H t v) :
    ∃ p l, v = .slice p l.length l.length ∧ RA (Value.int .i64) H p l ∧ l.length ≤ maxL ∧ ∀ y ∈ l, inI y := by
  obtain ⟨h1, _, h3⟩ := h
  obtain ⟨p, l, e', hp, hl, hs⟩ := h1.ints ht hc he
  refine ⟨p, l, ?_, hp, hl, hs⟩
  have ho := h3 ha
  rw [vcells_one ho] at e'
  simpa using e'

end Go.AM
