/- The machine's append: what it does in the model. -/
import Derived.Test.YtplnndgdklfnfaaAmOps
set_option linter.all false
namespace Go.AM
open Go.RowKit

section
variable {P : Program} {base : Nat} {ι : Inj} {C H : Heap} {n : Nat} {w : World}

theorem below_alloc (hR : HR P base ι C w) (o : Obj) : Below base w (w.drew.alloc o) := (Below.refl _ _).drew.alloc hR.size _

theorem run_append_room' {ts : Array TypeId} {t u ty e : TypeId} {du : TypeDesc} {i : TypeInfo} {x' : Value} {m sLen sCap : Nat} {b o : Nat} {cur : Array Value} {ety : TypeId} {ys : List Value}
    (h0 : ts[0]? = some t) (h1 : ts[1]? = some u) (ht : P.underlying t = some (.slice e)) (hu : P.underlying u = some du) (hdu : srcT du = true)
    (hi : P.info? e = some i) (hlen : (Builtin.lenOf x').run P w = .ok m w) (hsrc : (Builtin.firstCells i.size m x').run P w = .ok ys.toArray w)
    (hcur : w.heap[b]? = some (.cells cur ety (0, 0))) (hroom : sLen + m ≤ sCap) (hfit : o + sLen * i.size + ys.length ≤ cur.size) (h1c : ∀ v ∈ ys, v.oneCell' = true) :
    (Builtin.append_ ts ty #[.slice (some ⟨b, o, none⟩) sLen sCap, x']).run P w =
      .ok (.slice (some ⟨b, o, none⟩) (sLen + m) sCap) (w.setRow b (cur.toList.take (o + sLen * i.size) ++ ys ++ cur.toList.drop (o + sLen * i.size + ys.length)).toArray) := by
  have hst := run_storeCells_at (P := P) b (o + sLen * i.size) ety ys 0 cur w hcur (by simpa using hfit) h1c
  simp only [Nat.add_zero] at hst
  cases du <;> simp [srcT] at hdu <;>
    simp [Builtin.append_, h0, h1, run_underlying ht, run_underlying hu, sizeOf, typeInfo, hi, hlen, hroom, hsrc, add_lit, hst]

theorem run_append_zero {ts : Array TypeId} {t u ty e : TypeId} {du : TypeDesc} {i : TypeInfo} {x' : Value} (ad : Option Addr)
    (h0 : ts[0]? = some t) (h1 : ts[1]? = some u) (ht : P.underlying t = some (.slice e)) (hu : P.underlying u = some du) (hdu : srcT du = true)
    (hi : P.info? e = some i) (hlen : (Builtin.lenOf x').run P w = .ok 0 w) (hsrc : (Builtin.firstCells i.size 0 x').run P w = .ok #[] w) :
    (Builtin.append_ ts ty #[.slice ad 0 0, x']).run P w = .ok (.slice ad 0 0) w := by
  cases du <;> simp [srcT] at hdu <;>
    (cases ad <;> simp [Builtin.append_, h0, h1, run_underlying ht, run_underlying hu, sizeOf, typeInfo, hi, hlen, hsrc, storeCells])

theorem run_append_grow' {ts : Array TypeId} {t u ty e : TypeId} {du : TypeDesc} {i : TypeInfo} {z : Value} {s' x' : Value} {m sLen sCap : Nat} {base' : Option Addr} {olds ys : List Value}
    (h0 : ts[0]? = some t) (h1 : ts[1]? = some u) (ht : P.underlying t = some (.slice e)) (hu : P.underlying u = some du) (hdu : srcT du = true)
    (hi : P.info? e = some i) (hz : i.zero = some z) (hs : s' = .slice base' sLen sCap) (hlen : (Builtin.lenOf x').run P w = .ok m w) (hsrc : (Builtin.firstCells i.size m x').run P w.drew = .ok ys.toArray w.drew)
    (hold : (Builtin.firstCells i.size sLen s').run P w.drew = .ok olds.toArray w.drew)
    (hg : sCap < sLen + m) (hb : sLen + m ≤ bigN) (hby : i.bytes ≤ 4096) :
    (Builtin.append_ ts ty #[s', x']).run P w =
      .ok (.slice (some ⟨w.heap.size, 0, none⟩) (sLen + m) (grownCap w (sLen + m) sCap e))
        (w.drew.alloc (.cells (olds.toArray ++ ys.toArray ++ Builtin.zeroCells z.cells (grownCap w (sLen + m) sCap e - (sLen + m))) e)) := by
  subst hs
  have hn : ¬ (sLen + m ≤ sCap) := by omega
  have hb' : sLen + m ≤ 4294967296 := hb
  have h63' : ¬ (9223372036854775807 < ((sLen : Int) + (m : Int))) := by omega
  have hmul : (sLen + m) * i.bytes ≤ 4294967296 * 4096 := Nat.mul_le_mul hb' hby
  have hfit := growslice_fits (need := sLen + m) (old := sCap) (bytes := i.bytes) (by omega) (by omega)
  have h48' : ¬ (281474976710656 < Builtin.nextslicecap (sLen + m) sCap * i.bytes) := by omega
  cases du <;> simp [srcT] at hdu <;>
    (simp [Builtin.append_, h0, h1, run_underlying ht, run_underlying hu, sizeOf, typeInfo, zeroValue, hi, hz, hlen, hn, h63', h48', Question.forced, hold, hsrc, newRow, grownCap]
     try (congr 2; apply Array.ext'; simp [List.append_assoc]))

theorem src_spec (hR : HR P base ι C w) {size : Nat} {x x' : Value} {ys : List Value} {rd : List Nat} {m : Nat} (h : asrc H size x = some (ys, rd, m)) (hx : VR ι x x') (hrd : ∀ x ∈ rd, ι x ≠ none → C x = H x) (hs : 0 < size) :
    ∃ ys' : List Value, VRs ι ys ys' ∧ ys.all one = true ∧ ys.length = m * size ∧ (Builtin.lenOf x').run P w = .ok m w ∧ ∀ w' : World, w'.heap = w.heap → (Builtin.firstCells size m x').run P w' = .ok ys'.toArray w' := by
  unfold asrc at h
  split at h
  · cases h
    cases hx with
    | sliceNil a => exact ⟨[], .nil ι, rfl, by simp, by simp [Builtin.lenOf], fun w' _ => by cases a <;> simp [Builtin.firstCells, loadCells, loadCellsFrom]⟩
  · rename_i y k m' c'
    split at h
    case h_2 => cases h
    rename_i cs ty own hy
    split at h
    case isFalse => cases h
    rename_i hk
    cases h
    cases hx with
    | slice _ _ _ o c t' ht' ho hc hm how =>
      have hC := hrd y (by simp) (by simp [ht'])
      have hob := hR.obj y
      rw [hC, hy] at hob
      obtain ⟨t2, h2, hto, hcell, hw⟩ := hob
      rw [ht'] at h2
      cases h2
      obtain ⟨l, hl, hv, hcl⟩ := cells_list hcell k (m * size) hk
      refine ⟨l, hv, all_take_drop (one_list hcell) _ _, by simp; omega, by simp [Builtin.lenOf], fun w' hw' => ?_⟩
      by_cases hm0 : m = 0
      · subst hm0
        have hl0 : l = [] := List.eq_nil_of_length_eq_zero (by simpa using hl)
        subst hl0
        simp [Builtin.firstCells, loadCells, loadCellsFrom]
      · rw [ho hm0]
        refine run_firstCells_some w' size m _ m c l hl fun j v e => ?_
        have := hcl j v e
        rw [World.cell?] at this ⊢
        rw [hw']; exact this
  · rename_i s
    split at h
    case isFalse => cases h
    rename_i h1
    cases h
    cases hx
    subst h1
    refine ⟨s.data.toList.map fun b => .int .u8 b.toNat, all_flat1_refl ι ?_, ?_, ?_, by simp [Builtin.lenOf], fun w' _ => ?_⟩
    · rw [List.all_eq_true]; intro v hv; simp at hv; obtain ⟨b, _, rfl⟩ := hv; rfl
    · rw [List.all_eq_true]; intro v hv; simp at hv; obtain ⟨b, _, rfl⟩ := hv; rfl
    · rw [List.length_map, Nat.mul_one, Array.length_toList]; rfl
    · simp [Builtin.firstCells]
      exact Array.ext' (by simp)
  · cases h

theorem append_sound (hR : HR P base ι C w) {ts : Array TypeId} {ty : TypeId} {s s' x x' : Value} {r : Res} (h : aappend P n H ts s x = some r) (hs : VR ι s s') (hx : VR ι x x')
    (hrd : ∀ x ∈ r.rd, ι x ≠ none → C x = H x) (hwr : ∀ x o, r.wr = some (x, o) → ι x ≠ none → C x = H x) (hn : r.news ≠ [] → ι n = none ∧ H n = .dead) :
    Good P base ι C H n r w ((do pure (Next.value (← Builtin.append_ ts ty #[s', x'])) : Sem Next).run P w) := by
  unfold aappend at h
  split at h
  case h_2 => cases h
  rename_i t u h0 h1
  split at h
  case h_2 => cases h
  rename_i elem ht
  split at h
  case h_2 => cases h
  rename_i j zs du hj hzs hdu
  split at h
  case isTrue => cases h
  rename_i hcond
  simp only [not_or, Nat.not_lt, Decidable.not_not, Bool.not_eq_false] at hcond
  obtain ⟨hby, hjs, hzl, hduo⟩ := hcond
  obtain ⟨i, z, hi, hz, rfl, hf⟩ := zero_spec hzs
  rw [hj] at hi
  cases hi
  have hzs' : z.cells.size = j.size := by simpa using hzl
  have hjp : 0 < j.size := Nat.pos_of_ne_zero hjs
  have hcof : P.cellsOf elem = j.size := by simp [Program.cellsOf, hj]
  split at h
  case h_2 => cases h
  rename_i ys rd m hsrc
  split at h
  · -- nil
    cases hs with
    | sliceNil ad =>
      split at h
      case isTrue => cases h
      rename_i hbig
      split at h
      · rename_i hm0
        cases h
        obtain ⟨ys', hv, hone, hyl, hlen, hfc⟩ := src_spec hR hsrc hx hrd hjp
        subst hm0
        have hys : ys' = [] := List.eq_nil_of_length_eq_zero (by rw [← hv.1, hyl]; simp)
        subst hys
        exact good_value hR (run_value (run_append_zero ad h0 h1 ht hdu hduo hj hlen (hfc w rfl))) (.sliceNil ad)
      · rename_i hm0
        cases h
        obtain ⟨ys', hv, hone, hyl, hlen, hfc⟩ := src_spec hR hsrc hx hrd hjp
        obtain ⟨g1, g2⟩ := hn (by simp)
        have hrun := run_append_grow' (P := P) (ty := ty) (olds := []) h0 h1 ht hdu hduo hj hz (rfl : Value.slice ad 0 0 = .slice ad 0 0) hlen (hfc w.drew rfl) (by cases ad <;> simp [Builtin.firstCells, loadCells, loadCellsFrom]) (by omega) (by omega) hby
        simp only [Nat.zero_add] at hrun
        have hge := grownCap_ge w m 0 elem
        have hle := grownCap_le_maxLen w m 0 elem (by have : m ≤ 4294967296 := by simpa [bigN] using hbig
                                                      unfold maxLen; omega)
        have hcsz : ((([] : List Value).toArray ++ ys'.toArray ++ Builtin.zeroCells z.cells (grownCap w m 0 elem - m)) : Array Value).size = grownCap w m 0 elem * j.size := by
          have h2 : ys'.length = m * j.size := by rw [← hyl, hv.1]
          simp only [Array.size_append, List.size_toArray, List.length_nil, Nat.zero_add, size_zeroCells, hzs', h2, ← Nat.add_mul]
          congr 1; omega
        refine good_new (w1 := w.drew) hR rfl (Below.refl _ _).drew g1 g2 ?_ ?_ (run_value hrun) (.slice n 0 m 0 _ _ (iset_same _ _ _) (fun _ => rfl) hge hle (fun _ => ?_))
        · intro q v e
          obtain ⟨v', e1, e2⟩ := hv.get e
          refine ⟨v', ?_, e2, List.all_eq_true.1 hone v (List.mem_of_getElem? e)⟩
          have hq : q < ys'.length := by
            rcases Nat.lt_or_ge q ys'.length with g | g
            · exact g
            · rw [List.getElem?_eq_none g] at e1; cases e1
          simp only [Array.empty_append]
          rw [Array.getElem?_append_left (by simpa using hq)]
          simpa using e1
        · rw [hcsz, hyl]; exact Nat.mul_le_mul_right _ hge
        · simp only [hcsz, hcof, Nat.zero_add]; exact Nat.le_refl _
  · rename_i y k len cc
    split at h
    case h_2 => cases h
    rename_i cs ety hy
    split at h
    case isFalse => cases h
    rename_i hc2
    obtain ⟨hbig, hfit, hety, hnr⟩ := hc2
    subst hety
    cases h
    obtain ⟨ys', hv, hone, hyl, hlen, hfc⟩ := src_spec hR hsrc hx hrd hjp
    obtain ⟨g1, g2⟩ := hn (by simp)
    have hyl' : ys'.length = m * j.size := by rw [← hyl, hv.1]
    cases hs with
    | slice _ _ _ o c t' ht' ho hc hm how =>
      have hC := hwr y _ rfl (by simp [ht'])
      have hob := hR.obj y
      rw [hC, hy] at hob
      obtain ⟨t2, h2, hto, hcell, hw⟩ := hob
      rw [ht'] at h2
      cases h2
      obtain ⟨hesz, hbs, cur, hcur, hcsz⟩ := hw rfl
      have hyn : y ≠ n := by intro e; subst e; rw [ht'] at g1; cases g1
      have hcap := how hto
      rw [hesz, hcof] at hcap
      have hCy : C y ≠ .dead := by rw [hC, hy]; intro e; cases e
      obtain ⟨ol, holl, holv, holc⟩ := cells_list hcell k (len * j.size) hfit
      have hone2 : ((cs.drop k).take (len * j.size) ++ ys).all one = true := by
        rw [List.all_append, Bool.and_eq_true]; exact ⟨all_take_drop (one_list hcell) _ _, hone⟩
      by_cases hroom : len + m ≤ c
      · -- in place
        have hmul : (len + m) * j.size ≤ c * j.size := Nat.mul_le_mul_right _ hroom
        rw [Nat.add_mul] at hmul
        have hrun := run_append_room' (P := P) (ty := ty) (o := o) (sLen := len) (sCap := c) h0 h1 ht hdu hduo hj hlen (hfc w rfl) hcur hroom (by rw [hyl', hcsz]; omega) (hv.all_one hone)
        have hL : (cur.toList.take (o + len * j.size) ++ ys' ++ cur.toList.drop (o + len * j.size + ys'.length)).length = cur.size := by
          have := Array.length_toList (xs := cur)
          simp only [List.length_append, List.length_take, List.length_drop]; omega
        have htn : iset ι n ⟨t'.block, o, true, t'.esz, t'.bsize⟩ n = some ⟨t'.block, o, true, t'.esz, t'.bsize⟩ := iset_same _ _ _
        refine ⟨_, _, iset ι n ⟨t'.block, o, true, t'.esz, t'.bsize⟩, _, run_value hrun, .inl rfl, ?_, iset_le _ g1, fun q hq => ?_, ?_, ?_, fun z ob e => by (cases e; simp [ht']), fun _ => by simp [iset_same]⟩
        · exact .slice n 0 (len + m) o c ⟨t'.block, o, true, t'.esz, t'.bsize⟩ htn (fun _ => rfl) hroom hm (fun _ => by rw [hesz, hcof]; exact hcap)
        · rcases hq with hq | hq
          · exact iset_other _ _ hq
          · cases hq
        · show HR P base _ (patch C H (hset (hset H y .dead) n _)) _
          rw [patch_set2 hyn (.inl hC) (by rw [g2]; intro e; cases e)]
          refine (hR.kill y).update (t := ⟨t'.block, o, true, t'.esz, t'.bsize⟩) (iset_le _ g1) htn (fun q hq => iset_other _ _ hq) (by simp) (fun q _ hq => setRow_other w _ q _ hq) ?_ rfl ((hR.rng y t' ht').2.1 hto) (by rw [setRow_size]; exact (hR.rng y t' ht').1) ?_
          · intro q v hq hd e hbl
            by_cases hqy : q = y
            · subst hqy; rw [hset_same] at hd; exact hd rfl
            · rw [hset_other _ _ hqy] at hd
              exact hqy (hR.inj y q t' v hCy hd ht' e hto hbl.symm).symm
          · refine ⟨_, htn, rfl, fun q v e => ?_, fun _ => ⟨hesz, ?_, _, setRow_heap w _ cur _ _ _ hcur, by rw [List.size_toArray, hL, hcsz]⟩⟩
            · have hb2 : q < len * j.size + ys.length := by
                rcases Nat.lt_or_ge q (len * j.size + ys.length) with g | g
                · exact g
                · rw [List.getElem?_eq_none (by simp; omega)] at e; cases e
              have hv2 : one v = true := List.all_eq_true.1 hone2 v (List.mem_of_getElem? e)
              rw [cell_of_row _ _ _ _ _ _ (setRow_heap w _ cur _ _ _ hcur)]
              have hrow := row_get cur.toList ys' (o + len * j.size) (by have := Array.length_toList (xs := cur); omega) (o + q)
              simp only [List.getElem?_toArray]
              rw [hrow]
              by_cases hq : q < len * j.size
              · rw [if_neg (by omega)]
                have hl0 : len ≠ 0 := by intro e0; subst e0; simp at hq
                rw [List.getElem?_append_left (by simp; omega), List.getElem?_take, if_pos hq, List.getElem?_drop] at e
                obtain ⟨v', e1, e2, e3⟩ := hcell _ _ e
                rw [cell_of_row _ _ _ _ _ _ hcur] at e1
                rw [ho hl0]
                exact ⟨v', by rw [show t'.off + k + q = t'.off + (k + q) by omega]; simpa using e1, e2.mono (iset_le _ g1), hv2⟩
              · rw [if_pos (by omega)]
                rw [List.getElem?_append_right (by simp; omega)] at e
                have hlen2 : ((cs.drop k).take (len * j.size)).length = len * j.size := by simp; omega
                rw [hlen2] at e
                obtain ⟨v', e1, e2⟩ := hv.get e
                exact ⟨v', by rw [show o + q - (o + len * j.size) = q - len * j.size by omega]; exact e1, e2.mono (iset_le _ g1), hv2⟩
            · simp only [List.length_append, List.length_take, List.length_drop, hyl]; omega
        · exact below_setRow (Below.refl _ _) ((hR.rng y t' ht').2.1 hto) _
      · -- it grows
        have hold : (Builtin.firstCells j.size len (.slice (some ⟨t'.block, o, none⟩) len c)).run P w.drew = .ok ol.toArray w.drew := by
          by_cases hl0 : len = 0
          · subst hl0
            have : ol = [] := List.eq_nil_of_length_eq_zero (by simpa using holl)
            subst this
            simp [Builtin.firstCells, loadCells, loadCellsFrom]
          · rw [ho hl0]
            exact run_firstCells_some w.drew j.size len _ len c ol holl (fun q v e => by simpa using holc q v e)
        have hrun := run_append_grow' (P := P) (ty := ty) (olds := ol) h0 h1 ht hdu hduo hj hz (rfl : Value.slice (some ⟨t'.block, o, none⟩) len c = _) hlen (hfc w.drew rfl) hold (by omega) hbig hby
        have hge := grownCap_ge w (len + m) c ety
        have hle := grownCap_le_maxLen w (len + m) c ety (by have : len + m ≤ 4294967296 := hbig
                                                             unfold maxLen; omega)
        have hcz : ((ol.toArray ++ ys'.toArray ++ Builtin.zeroCells z.cells (grownCap w (len + m) c ety - (len + m))) : Array Value).size = grownCap w (len + m) c ety * j.size := by
          simp only [Array.size_append, List.size_toArray, size_zeroCells, hzs', hyl', holl, ← Nat.add_mul]
          congr 1; omega
        have hvv : VRs ι ((cs.drop k).take (len * j.size) ++ ys) (ol ++ ys') := holv.append hv
        refine ⟨_, _, iset ι n ⟨w.heap.size, 0, true, P.cellsOf ety, (ol.toArray ++ ys'.toArray ++ Builtin.zeroCells z.cells (grownCap w (len + m) c ety - (len + m))).size⟩, _, run_value hrun, .inl rfl, ?_, iset_le _ g1, fun q hq => ?_, ?_, ?_, fun z ob e => by (cases e; simp [ht']), fun _ => by simp [iset_same]⟩
        · exact .slice n 0 (len + m) 0 _ _ (iset_same _ _ _) (fun _ => rfl) hge hle (fun _ => by simp only [hcof, Nat.zero_add]; exact Nat.le_of_eq hcz.symm)
        · rcases hq with hq | hq
          · exact iset_other _ _ hq
          · cases hq
        · show HR P base _ (patch C H (hset (hset H y .dead) n _)) _
          rw [patch_set2 hyn (.inl hC) (by rw [g2]; intro e; cases e)]
          have h3 := ((hR.kill y).same (w' := w.drew) rfl).alloc (n := n) (cs := (cs.drop k).take (len * j.size) ++ ys) (cur := ol.toArray ++ ys'.toArray ++ Builtin.zeroCells z.cells (grownCap w (len + m) c ety - (len + m))) (ty := ety) g1 ?_ ?_
          · exact h3
          · intro q v e
            obtain ⟨v', e1, e2⟩ := hvv.get e
            refine ⟨v', ?_, e2, List.all_eq_true.1 hone2 v (List.mem_of_getElem? e)⟩
            have hq : q < (ol ++ ys').length := by
              rcases Nat.lt_or_ge q (ol ++ ys').length with g | g
              · exact g
              · rw [List.getElem?_eq_none g] at e1; cases e1
            rw [Array.getElem?_append_left (by simpa using hq)]
            simpa using e1
          · rw [hcz]
            have : ((cs.drop k).take (len * j.size) ++ ys).length = (len + m) * j.size := by
              rw [hvv.1, List.length_append, holl, hyl', ← Nat.add_mul]
            rw [this]; exact Nat.mul_le_mul_right _ hge
        · exact (Below.refl _ _).drew.alloc hR.size _
  · cases h

end
end Go.AM
