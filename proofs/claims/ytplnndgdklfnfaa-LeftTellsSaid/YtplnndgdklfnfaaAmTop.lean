/- The same operations once more, for rewriting: no case is looked at before what it hangs on is known. -/
import Derived.Test.YtplnndgdklfnfaaAmWk
set_option linter.all false
namespace Go.AM
open Go.RowKit

def tval : Option Value → Option Res
  | some v => some { v := v }
  | none => none
def tor : Option Value → Option Res → Option Res
  | some v, _ => some { v := v }
  | none, a => a
def tload3 : Option Value → Nat → Option Res
  | some v, x => some { v := v, rd := [x] }
  | none, _ => none
def tload2 (P : Program) (t : TypeId) (b : Option Bool) (k x : Nat) : AObj → Option Res
  | .cells cs _ _ => match b with
    | some true => if k + P.cellsOf t ≤ cs.length then some { v := .agg ((cs.drop k).take (P.cellsOf t)).toArray, rd := [x] } else none
    | some false => tload3 (cs[k]?) x
    | none => none
  | _ => none
def tload (P : Program) (t : TypeId) (H : Heap) : Value → Option Res
  | .pointer (some ⟨x, k, none⟩) => tload2 P t (aggT P t) k x (H x)
  | _ => none
def tstore3 (sz : Option Nat) (y k : Nat) (ty : TypeId) (cs vs : List Value) : Option Res :=
  if sz = some vs.length ∧ vs.all one = true ∧ k + vs.length ≤ cs.length then some { v := undef, wr := some (y, .cells (splice cs k vs) ty true) } else none
def tstore2 (sz : Option Nat) (y k : Nat) (vs : List Value) : AObj → Option Res
  | .cells cs ty true => tstore3 sz y k ty cs vs
  | _ => none
def tstore (P : Program) (t : TypeId) (H : Heap) (v : Value) : Value → Option Res
  | .pointer (some ⟨y, k, none⟩) => tstore2 (isz P t) y k (vcells v) (H y)
  | _ => none
def tidx2 : Option (TypeId × Nat) → Nat → Nat → Nat → Int → Option Res
  | some (_, j), y, k, len, i => if 0 ≤ i ∧ i < len then some { v := .pointer (some ⟨y, k + i.toNat * j, none⟩) } else none
  | none, _, _, _, _ => none
def tidx (P : Program) (t : TypeId) : Value → Value → Option Res
  | .slice (some ⟨y, k, none⟩) len _, .int _ i => tidx2 (esz P t) y k len i
  | _, _ => none
def tfa2 : Option Nat → Nat → Nat → Option Res
  | some f, y, k => some { v := .pointer (some ⟨y, k + f, none⟩) }
  | none, _, _ => none
def tfa (P : Program) (t : TypeId) (i : Nat) : Value → Option Res
  | .pointer (some ⟨y, k, none⟩) => tfa2 (fofs P t i) y k
  | _ => none
def tlen2 : Option TypeDesc → Value → Option Res
  | some (.slice _), .slice _ m _ => some { v := .int .i64 m }
  | some .string, .string s => some { v := .int .i64 s.size }
  | _, _ => none
def tpick (a b : Value) : Value → Option Res
  | .bool t => some { v := cond t a b }
  | _ => none
def textr (i : Nat) : Value → Option Res
  | .tuple vs => tval (vs.toList[i]?)
  | _ => none
def tbox (n : Nat) (t : TypeId) (vs : List Value) : Option Res :=
  if vs.all one = true then some { v := .pointer (some ⟨n, 0, none⟩), news := [.cells vs t true] } else none
def talloc (n : Nat) (t : TypeId) : Option Value → Option Res
  | some z => if still z = true ∧ (vcells z).all one = true then some { v := .pointer (some ⟨n, 0, none⟩), news := [.cells (vcells z) t true] } else none
  | none => none
def tmake (n : Nat) : Option (TypeId × List Value) → Value → Value → Option Res
  | some (elem, zs), .int _ l, .int _ c => if 0 ≤ l ∧ l ≤ c ∧ c ≤ bigN then some { v := .slice (some ⟨n, 0, none⟩) l.toNat l.toNat, news := [.cells (rep l.toNat zs) elem true] } else none
  | _, _, _ => none
def tbuild : Option (List Value × List (Nat × Nat)) → List (Nat × Value) → Option Res
  | some (zs, places), ps => (afill (fun i => places[i]?) zs ps).map fun cs => { v := .agg cs.toArray }
  | none, _ => none
def tbs2 (n : Nat) (elem : TypeId) (len : Nat) : Option (List Value) → Option Res
  | some cs => some { v := .slice (some ⟨n, 0, none⟩) len len, news := [.cells cs elem true] }
  | none => none
def tbs (n : Nat) (len : Nat) : Option (TypeId × Nat × List Value) → List (Nat × Value) → Option Res
  | some (elem, sz, zs), ps => tbs2 n elem len (afill (fun i => some (i * sz, sz)) (rep len zs) ps)
  | none, _ => none
def tfld2 : Option (Bool × Nat × Nat) → List Value → Option Res
  | some (true, off, sz), cs => if off + sz ≤ cs.length then some { v := .agg ((cs.drop off).take sz).toArray } else none
  | some (false, off, _), cs => tval (cs[off]?)
  | none, _ => none
def tfld (P : Program) (t : TypeId) (i : Nat) : Value → Option Res
  | .agg cs => tfld2 (fcel P t i) cs.toList
  | _ => none
def tsl3 (P : Program) (y k j l h len : Nat) : AObj → Option Res
  | .cells _ ty own => if l ≤ h ∧ h ≤ len ∧ (own = true → isz P ty = some j) then some { v := .slice (some ⟨y, k + l * j, none⟩) (h - l) (h - l), rd := [y] } else none
  | _ => none
def tsl2 (P : Program) (H : Heap) (y k len : Nat) : Option (TypeId × Nat) → Option Nat → Option Nat → Option Res
  | some (_, j), some l, some h => tsl3 P y k j l h len (H y)
  | _, _, _ => none
def tsl (P : Program) (t : TypeId) (H : Heap) (alt : Option Res) (lo hi : Option Value) : Value → Option Res
  | .slice (some ⟨y, k, none⟩) len _ => tsl2 P H y k len (esz P t) (bound lo 0) (bound hi len)
  | .slice none 0 0 => alt
  | .string _ => alt
  | _ => none
def tix2 : Option UInt8 → Option Res
  | some b => some { v := .int .u8 b.toNat }
  | none => none
def tix1 (s : ByteArray) (i : Int) : Option TypeDesc → Option Res
  | some .string => if 0 ≤ i then tix2 (s[i.toNat]?) else none
  | _ => none
def tix (P : Program) (t : TypeId) : Value → Value → Option Res
  | .string s, .int _ i => tix1 s i (P.underlying t)
  | _, _ => none
def tap4 (n : Nat) (elem j : Nat) (y k len : Nat) (ys : List Value) (rd : List Nat) (m : Nat) : AObj → Option Res
  | .cells cs ty true => if len + m ≤ bigN ∧ k + len * j ≤ cs.length ∧ ty = elem ∧ rd.contains y = false then
      some { v := .slice (some ⟨n, 0, none⟩) (len + m) (len + m), news := [.cells ((cs.drop k).take (len * j) ++ ys) elem true], wr := some (y, .dead), rd := rd } else none
  | _ => none
def tap3 (n : Nat) (H : Heap) (elem j : Nat) (ys : List Value) (rd : List Nat) (m : Nat) : Value → Option Res
  | .slice none 0 0 => if m > bigN then none else if m = 0 then some { v := .slice none 0 0, rd := rd } else some { v := .slice (some ⟨n, 0, none⟩) m m, news := [.cells ys elem true], rd := rd }
  | .slice (some ⟨y, k, none⟩) len _ => tap4 n elem j y k len ys rd m (H y)
  | _ => none
def tap2 (n : Nat) (H : Heap) (elem j : Nat) (s : Value) : Option (List Value × List Nat × Nat) → Option Res
  | some (ys, rd, m) => tap3 n H elem j ys rd m s
  | none => none
def tsrc2 (size y k m : Nat) : AObj → Option (List Value × List Nat × Nat)
  | .cells cs _ _ => if k + m * size ≤ cs.length then some ((cs.drop k).take (m * size), [y], m) else none
  | _ => none
def tsrc (H : Heap) (size : Nat) : Value → Option (List Value × List Nat × Nat)
  | .slice none 0 0 => some ([], [], 0)
  | .slice (some ⟨y, k, none⟩) m _ => tsrc2 size y k m (H y)
  | _ => none
def tap (n : Nat) (H : Heap) (s x : Value) : Option (TypeId × Nat) → Option Res
  | some (elem, j) => tap2 n H elem j s (tsrc H j x)
  | none => none

def top (P : Program) (ρ : Operand → Value) (n : Nat) (H : Heap) (o : Oper) : Option Res :=
  match o.op with
  | .move x | .assign x => some { v := ρ x }
  | .pick c a b => tpick (ρ a) (ρ b) (ρ c)
  | .binOp op t x y _ => tor (vsh op (ρ x) (ρ y)) (tor (vbin P op t (ρ x) (ρ y)) (aop P ρ n H o))
  | .unOp op _ x => tval (vun op (ρ x))
  | .convert s d x => tor (vconv P s d (ρ x)) (aop P ρ n H o)
  | .index t x i => tix P t (ρ x) (ρ i)
  | .fieldAddr t x i => tfa P t i (ρ x)
  | .indexAddr t x i => tidx P t (ρ x) (ρ i)
  | .alloc t => talloc n t (zeroT P t)
  | .box t x => tbox n t (vcells (ρ x))
  | .load t a => tload P t H (ρ a)
  | .store t a x => tstore P t H (ρ x) (ρ a)
  | .makeSlice t l c => tmake n (emk P t) (ρ l) (ρ c)
  | .field t x i => tfld P t i (ρ x)
  | .build t ps => tbuild (ebd P t) (ps.toList.map fun (i, x) => (i, ρ x))
  | .buildSlice t len ps => tbs n len (ebs P t len) (ps.toList.map fun (i, x) => (i, ρ x))
  | .slice t x lo hi none => tsl P t H (aop P ρ n H o) (lo.map ρ) (hi.map ρ) (ρ x)
  | .extract x i => textr i (ρ x)
  | .call { callee := .builtin .len, args, argTypes } => match args.toList with
    | [x] => tlen2 (undT P argTypes) (ρ x)
    | _ => none
  | .call { callee := .builtin .append, args, argTypes } => match args.toList with
    | [s, x] => tap n H (ρ s) (ρ x) (eapp P argTypes)
    | _ => none
  | _ => aop P ρ n H o

section
variable {P : Program} {ρ : Operand → Value} {n : Nat} {H : Heap}

theorem tsrc_eq {j : Nat} {x : Value} {r} (h : tsrc H j x = some r) : asrc H j x = some r := by
  unfold tsrc at h
  unfold asrc
  split at h
  · exact h
  · unfold tsrc2 at h
    split at h
    · rename_i hy; simp only [hy]; exact h
    · cases h
  · cases h

theorem top_sound {o : Oper} {r : Res} (h : top P ρ n H o = some r) : aop P ρ n H o = some r := by
  unfold top at h
  split at h
  · rename_i ho; unfold aop; simp only [ho]; exact h
  · rename_i ho; unfold aop; simp only [ho]; exact h
  · rename_i ho; unfold aop; simp only [ho]; unfold tpick at h; exact h
  · rename_i ho
    unfold tor at h
    split at h
    · rename_i hv; cases h; exact vsh_sound ho hv
    · split at h
      · rename_i hv; cases h; exact vbin_sound ho hv
      · exact h
  · rename_i ho
    unfold tval at h
    split at h
    · rename_i hv; cases h; exact vun_sound ho hv
    · cases h
  · rename_i ho
    unfold tor at h
    split at h
    · rename_i hv; cases h; exact vconv_sound ho hv
    · exact h
  · rename_i ho
    unfold tix at h
    split at h
    · rename_i hx hi
      unfold tix1 at h
      split at h
      case h_2 => cases h
      rename_i hu
      split at h
      case isFalse => cases h
      rename_i hc
      unfold tix2 at h
      split at h
      case h_2 => cases h
      rename_i hb
      cases h
      refine sop_sound ?_
      unfold sop
      simp only [ho, hx, hi, hu, if_pos hc, hb, Option.map_some]
    · cases h
  · rename_i ho
    refine sop_sound ?_
    unfold sop
    simp only [ho]
    unfold tfa at h
    split at h
    case h_2 => cases h
    rename_i hx
    simp only [hx]
    unfold tfa2 at h
    split at h
    case h_2 => cases h
    rename_i hf
    simp only [hf]; exact h
  · rename_i ho
    refine sop_sound ?_
    unfold sop
    simp only [ho]
    unfold tidx at h
    split at h
    case h_2 => cases h
    rename_i hx hi
    simp only [hx, hi]
    unfold tidx2 at h
    split at h
    case h_2 => cases h
    rename_i he
    simp only [he]; exact h
  · rename_i ho
    refine sop_sound ?_
    unfold sop
    simp only [ho]
    unfold talloc at h
    exact h
  · rename_i ho
    unfold aop abox
    simp only [ho]
    exact h
  · rename_i ho
    unfold aop
    simp only [ho]
    unfold tload at h
    split at h
    case h_2 => cases h
    rename_i hx
    simp only [aload, hx]
    unfold tload2 at h
    split at h
    case h_2 => cases h
    rename_i hy
    simp only [hy]
    split at h
    · rename_i hb; simp only [hb]; exact h
    · rename_i hb
      simp only [hb]
      unfold tload3 at h
      split at h
      · rename_i hv; simp only [hv]; exact h
      · cases h
    · cases h
  · rename_i ho
    refine sop_sound ?_
    unfold sop
    simp only [ho]
    unfold tstore at h
    split at h
    case h_2 => cases h
    rename_i hx
    simp only [hx]
    unfold tstore2 at h
    split at h
    case h_2 => cases h
    rename_i hy
    simp only [hy]
    exact h
  · rename_i ho
    refine sop_sound ?_
    unfold sop
    simp only [ho]
    unfold tmake at h
    exact h
  · rename_i ho
    refine sop_sound ?_
    unfold sop
    simp only [ho]
    unfold tfld at h
    split at h
    case h_2 => cases h
    rename_i hx
    simp only [hx]
    unfold tfld2 at h
    split at h
    · rename_i hf; simp only [hf]; exact h
    · rename_i hf
      simp only [hf]
      unfold tval at h
      split at h
      · rename_i hv; simp only [hv, Option.map_some]; exact h
      · cases h
    · cases h
  · rename_i ho
    refine sop_sound ?_
    unfold sop
    simp only [ho]
    unfold tbuild at h
    split at h
    · rename_i he; simp only [he]; exact h
    · cases h
  · rename_i ho
    refine sop_sound ?_
    unfold sop
    simp only [ho]
    unfold tbs at h
    split at h
    · rename_i he
      simp only [he]
      unfold tbs2 at h
      split at h
      · rename_i hf; simp only [hf, Option.map_some]; exact h
      · cases h
    · cases h
  · rename_i t x lo hi ho
    unfold tsl at h
    split at h
    · rename_i hx
      refine sop_sound ?_
      unfold sop
      simp only [ho, hx]
      unfold tsl2 at h
      split at h
      case h_2 => cases h
      rename_i he hl hh
      simp only [he, hl, hh]
      unfold tsl3 at h
      split at h
      · rename_i hy; simp only [hy]; exact h
      · cases h
    · exact h
    · exact h
    · cases h
  · rename_i ho
    unfold aop
    simp only [ho]
    unfold textr at h
    split at h
    · rename_i hx
      simp only [hx]
      unfold tval at h
      unfold ok
      split at h
      · rename_i hv; rw [hv]; exact h
      · cases h
    · cases h
  · rename_i ho
    split at h
    case h_2 => cases h
    rename_i hx
    refine sop_sound ?_
    unfold sop
    simp only [ho, hx]
    unfold tlen2 at h
    split at h
    · rename_i hu hv; simp only [hu, hv]; exact h
    · rename_i hu hv; simp only [hu, hv]; exact h
    · cases h
  · rename_i ho
    split at h
    case h_2 => cases h
    rename_i hx
    refine sop_sound ?_
    unfold sop
    simp only [ho, hx]
    unfold tap at h
    split at h
    case h_2 => cases h
    rename_i he
    simp only [he]
    unfold tap2 at h
    split at h
    case h_2 => cases h
    rename_i hs
    simp only [tsrc_eq hs]
    unfold tap3 at h
    split at h
    · rename_i hv; simp only [hv]; exact h
    · rename_i hv
      simp only [hv]
      unfold tap4 at h
      split at h
      · rename_i hy; simp only [hy]; exact h
      · cases h
    · cases h
  · exact h

end

/-! ### Rewriting -/

section
variable {P : Program} {ρ : Operand → Value} {n : Nat} {H : Heap} {d : Option Nat} {ty : TypeId} {p : String} {af : Array Edge} {g : Option (Nat × Bool)}
end
end Go.AM
