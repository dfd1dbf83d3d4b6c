/- A part of a proof. Its conditions: none. -/
import Derived.Test.YtddpnhhgmfaloaaDoorAmD
set_option linter.all false
/- Strings: lengths, places, parts, for rewriting. -/
namespace Go.AM
open Go.RowKit

def BA (l : List UInt8) : ByteArray := ⟨l.toArray⟩
theorem ba_def (l : List UInt8) : (⟨l.toArray⟩ : ByteArray) = BA l := rfl
theorem ba_size (l : List UInt8) : (BA l).size = l.length := by simp [BA, ByteArray.size]
theorem ba_data (l : List UInt8) : (BA l).data.toList = l := rfl
theorem ba_loop (l : List UInt8) : ∀ (k i : Nat) (r : List UInt8), l.length - i = k → ByteArray.toList.loop (BA l) i r = r.reverse ++ l.drop i := by
  intro k
  induction k with
  | zero =>
    intro i r h
    rw [ByteArray.toList.loop, if_neg (by rw [ba_size]; omega), List.drop_eq_nil_of_le (by omega), List.append_nil]
  | succ k ih =>
    intro i r h
    have hi : i < l.length := by omega
    rw [ByteArray.toList.loop, if_pos (by rw [ba_size]; exact hi), ih (i + 1) _ (by omega), List.drop_eq_getElem_cons hi]
    have hg : (BA l).get! i = l[i] := by
      show l.toArray[i]! = l[i]
      simp [hi]
    rw [hg, List.reverse_cons, List.append_assoc]; rfl
theorem ba_list (l : List UInt8) : (BA l).toList = l := by
  have := ba_loop l l.length 0 [] rfl
  simpa [ByteArray.toList] using this
theorem ba_get (l : List UInt8) (i : Nat) : (BA l)[i]? = l[i]? := by
  by_cases h : i < l.length
  · rw [getElem?_pos (BA l) i (by rw [ba_size]; exact h), getElem?_pos l i h]; rfl
  · rw [getElem?_neg (BA l) i (by rw [ba_size]; exact h), getElem?_neg l i h]
theorem ba_app (a b : List UInt8) : BA a ++ BA b = BA (a ++ b) := by
  apply ByteArray.ext
  simp [BA]
theorem ba_ext (l : List UInt8) (a b : Nat) : (BA l).extract a b = BA ((l.take b).drop a) := by
  apply ByteArray.ext
  simp [BA, List.drop_take]
theorem ba_inj {a b : List UInt8} (h : BA a = BA b) : a = b := by
  have := congrArg (fun x => x.data.toList) h; simpa [BA] using this
theorem ba_of (s : ByteArray) : s = BA s.data.toList := rfl

def sbnd (d : Nat) : Option Value → Option Nat
  | none => some d
  | some (.int _ i) => if 0 ≤ i then some i.toNat else none
  | _ => none
def tss2 (s : ByteArray) (alt : Option Res) : Option TypeDesc → Option Nat → Option Nat → Option Res
  | some .string, some l, some h => if l ≤ h ∧ h ≤ s.size then some { v := .string (s.extract l h) } else alt
  | _, _, _ => alt
def tss (P : Program) (t : TypeId) (alt : Option Res) (lo hi : Option Value) : Value → Option Res
  | .string s => tss2 s alt (P.underlying t) (sbnd 0 lo) (sbnd s.size hi)
  | _ => alt
/-- The same, out of rewriting's reach. -/
def aopK (P : Program) (ρ : Operand → Value) (n : Nat) (H : Heap) (o : Oper) : Option Res := aop P ρ n H o

theorem bounds_run {P : Program} {N : Nat} {lo hi : Option Value} {l h : Nat} (hl : sbnd 0 lo = some l) (hh : sbnd N hi = some h) (h1 : l ≤ h) (h2 : h ≤ N) :
    pureRun P (Instr.sliceBounds false N N lo hi none) = some (l, h, N) := by
  have ilo : lo = none ∧ l = 0 ∨ ∃ k i, lo = some (.int k i) ∧ 0 ≤ i ∧ i.toNat = l := by
    cases lo with
    | none => left; cases hl; exact ⟨rfl, rfl⟩
    | some v =>
      right
      cases v <;> try (cases hl; done)
      rename_i k i
      simp only [sbnd] at hl
      split at hl
      · cases hl; exact ⟨k, i, rfl, by omega, rfl⟩
      · cases hl
  have ihi : hi = none ∧ h = N ∨ ∃ k i, hi = some (.int k i) ∧ 0 ≤ i ∧ i.toNat = h := by
    cases hi with
    | none => left; cases hh; exact ⟨rfl, rfl⟩
    | some v =>
      right
      cases v <;> try (cases hh; done)
      rename_i k i
      simp only [sbnd] at hh
      split at hh
      · cases hh; exact ⟨k, i, rfl, by omega, rfl⟩
      · cases hh
  rcases ilo with ⟨rfl, rfl⟩ | ⟨k, i, rfl, hi0, rfl⟩ <;> rcases ihi with ⟨rfl, rfl⟩ | ⟨k', j, rfl, hj0, rfl⟩
  · rfl
  · have c : 0 ≤ j ∧ j ≤ N := by omega
    simp [Instr.sliceBounds, Instr.sliceBound, asIntOf, bind, Sem.bind, pure, c, pureRun]
  · have c : 0 ≤ i ∧ i ≤ h := by omega
    simp [Instr.sliceBounds, Instr.sliceBound, asIntOf, bind, Sem.bind, pure, c, pureRun]
  · have c : 0 ≤ j ∧ j ≤ N := by omega
    have c2 : 0 ≤ i ∧ i ≤ j := by omega
    simp [Instr.sliceBounds, Instr.sliceBound, asIntOf, bind, Sem.bind, pure, c, pureRun]
    rw [if_pos (by omega)]; rfl

theorem slice_run {P : Program} {t : TypeId} {s : ByteArray} {lo hi : Option Value} {l h : Nat} (ht : P.underlying t = some .string) (hl : sbnd 0 lo = some l) (hh : sbnd s.size hi = some h) (h1 : l ≤ h) (h2 : h ≤ s.size) :
    pureRun P (Instr.sliceAt t (.string s) lo hi none) = some (.string (s.extract l h)) := by
  have hu : pureRun P (underlying t) = some .string := by
    unfold underlying
    refine (pureRun_bind _ _ (a := P) rfl).trans ?_
    rw [ht]; rfl
  unfold Instr.sliceAt
  refine (pureRun_bind _ _ hu).trans ?_
  show pureRun P (Instr.slice t (.string s) lo hi none) = _
  unfold Instr.slice
  refine (pureRun_bind _ _ hu).trans ?_
  refine (pureRun_bind _ _ (a := (l, h, s.size)) (bounds_run hl hh h1 h2)).trans rfl

theorem aop_ssl {P : Program} {f : Fr} {n : Nat} {H : Heap} {d : Option Nat} {t : TypeId} {x : Operand} {lo hi : Option Operand} {ty : TypeId} {p : String} {af : Array Edge} {gd : Option (Nat × Bool)} :
    aop P (evalA f) n H ⟨d, .slice t x lo hi none, ty, p, af, gd⟩ = tss P t (aopK P (evalA f) n H ⟨d, .slice t x lo hi none, ty, p, af, gd⟩) (lo.map (evalA f)) (hi.map (evalA f)) (evalA f x) := by
  unfold tss
  split
  · rename_i s hx
    unfold tss2
    split
    · rename_i l h ht hl hh
      split
      · rename_i hb
        have hr := slice_run ht hl hh hb.1 hb.2
        have fl : ∀ (o : Option Operand) (d m : Nat), sbnd d (o.map (evalA f)) = some m → ∀ y ∈ o.toList, flat (evalA f y) = true := by
          intro o d m ho y hy
          cases o with
          | none => simp at hy
          | some z =>
            simp at hy; subst hy
            simp only [Option.map_some] at ho
            cases hv : evalA f y <;> rw [hv] at ho <;> first | rfl | (simp [sbnd] at ho)
        simp only [aop, hx]
        unfold aflat
        have hf : opFlat (evalA f) ⟨d, .slice t x lo hi none, ty, p, af, gd⟩ = true := by
          unfold opFlat
          rw [Array.all_eq_true']
          intro y hy
          simp only [Op.operands, Array.mem_append, Option.mem_toArray] at hy
          rcases hy with ((hy | hy) | hy) | hy
          · simp at hy; subst hy; rw [hx]; rfl
          · exact fl lo _ _ hl y (by simpa using hy)
          · exact fl hi _ _ hh y (by simpa using hy)
          · cases hy
        rw [if_pos hf]
        have he : pureRun P (execOp (evalA f) ⟨d, .slice t x lo hi none, ty, p, af, gd⟩) = some (.value (.string (s.extract l h))) := by
          simp only [execOp, hx]
          exact (pureRun_bind _ _ hr).trans rfl
        rw [he]; rfl
      · rfl
    · rfl
  · rfl

def tan (alt : Option Res) : Value → Value → Option Res
  | .int k a, .int k' b => if k = k' then some { v := .int k (k.wrap (BitVec.ofInt k.bits a &&& ~~~ BitVec.ofInt k.bits b).toNat) } else alt
  | _, _ => alt
theorem aop_andnot {P : Program} {f : Fr} {n : Nat} {H : Heap} {d : Option Nat} {t u : TypeId} {x y : Operand} {ty : TypeId} {p : String} {af : Array Edge} {gd : Option (Nat × Bool)} :
    aop P (evalA f) n H ⟨d, .binOp .andNot t x y u, ty, p, af, gd⟩ = tan (aopK P (evalA f) n H ⟨d, .binOp .andNot t x y u, ty, p, af, gd⟩) (evalA f x) (evalA f y) := by
  unfold tan
  split
  · rename_i k a k' b e1 e2
    split
    · rename_i hk
      subst hk
      have h0 : aeqNil P t (evalA f x) (evalA f y) = none := by
        unfold aeqNil; rw [e1, e2]; split <;> first | rfl | simp_all
      have h2 : anan P .andNot t (evalA f x) (evalA f y) = none := by rw [e1, e2]; exact anan_int
      unfold aop
      simp only [h0, h2]
      refine flat_op (by simp [opFlat, Op.operands, e1, e2, flat, flat1]) ?_ (by simp [flat, flat1])
      simp [execOp, eqGuard, binOp, Op.intBits, pureRun, bind, Sem.bind, pure, e1, e2]
    · rfl
  · rfl
theorem andnot_u64 (a b : Nat) (ha : a < 18446744073709551616) (hb : b < 18446744073709551616) :
    IntKind.u64.wrap ((BitVec.ofInt IntKind.u64.bits (a : Int) &&& ~~~ BitVec.ofInt IntKind.u64.bits (b : Int)).toNat : Int) = ((a &&& (18446744073709551615 - b) : Nat) : Int) := by
  have e : (BitVec.ofInt IntKind.u64.bits (a : Int) &&& ~~~ BitVec.ofInt IntKind.u64.bits (b : Int)).toNat = a &&& (18446744073709551615 - b) := by
    show (BitVec.ofInt 64 (a : Int) &&& ~~~ BitVec.ofInt 64 (b : Int)).toNat = _
    rw [BitVec.toNat_and, BitVec.toNat_not, ofInt_toNat 64 a ha, ofInt_toNat 64 b hb]
  rw [e, wrap_u64n, Nat.mod_eq_of_lt (Nat.lt_of_le_of_lt Nat.and_le_left ha)]
end Go.AM
