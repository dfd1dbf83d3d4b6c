/- Grammars, as the machine holds them. -/
import Derived.Test.YtplnndgdklfnfaaAmRep
set_option linter.all false
namespace Go.AM
open Go.RowKit

structure GRule where
  left : Int
  right : List Int
  weight : Nat
structure Gram where
  terms : List ByteArray
  vars : List ByteArray
  rules : List GRule

def RR (H : Heap) (a : Option Addr) (l : List GRule) : Prop :=
  l ≠ [] → ∃ x k cs ty own, a = some ⟨x, k, none⟩ ∧ H x = .cells cs ty own ∧ ∀ i r, l[i]? = some r →
    ∃ p, cs[k + i * 3]? = some (.int .i64 r.left) ∧ cs[k + i * 3 + 1]? = some (.slice p r.right.length r.right.length) ∧ cs[k + i * 3 + 2]? = some (.float .f64 r.weight) ∧ RA (Value.int .i64) H p r.right

theorem RR.mono {n n' : Nat} {H H' : Heap} {a : Option Addr} {l : List GRule} (h : RR H a l) (hw : WF n H) (hk : Kp n H n' H') : RR H' a l := by
  intro hl
  obtain ⟨x, k, cs, ty, own, e1, e2, e3⟩ := h hl
  refine ⟨x, k, cs, ty, own, e1, ?_, fun i r hi => ?_⟩
  · rw [hk.keep x, e2]
    apply Classical.byContradiction
    intro hx
    rw [hw x (by omega)] at e2; cases e2
  · obtain ⟨p, c1, c2, c3, c4⟩ := e3 i r hi
    exact ⟨p, c1, c2, c3, c4.mono hw hk⟩

theorem RR.at {H : Heap} {a : Option Addr} {l : List GRule} (h : RR H a l) {i : Nat} (hi : i < l.length) :
    ∃ x k cs ty own p, a = some ⟨x, k, none⟩ ∧ H x = .cells cs ty own ∧ cs[k + i * 3]? = some (.int .i64 l[i].left) ∧ cs[k + i * 3 + 1]? = some (.slice p l[i].right.length l[i].right.length) ∧
      cs[k + i * 3 + 2]? = some (.float .f64 l[i].weight) ∧ RA (Value.int .i64) H p l[i].right := by
  obtain ⟨x, k, cs, ty, own, e1, e2, e3⟩ := h (by intro e; simp [e] at hi)
  obtain ⟨p, c1, c2, c3, c4⟩ := e3 i _ (List.getElem?_eq_getElem hi)
  exact ⟨x, k, cs, ty, own, p, e1, e2, c1, c2, c3, c4⟩

/-- The cells of a rule that is loaded whole. -/
theorem take3 {cs : List Value} {k : Nat} {a b c : Value} (h0 : cs[k]? = some a) (h1 : cs[k + 1]? = some b) (h2 : cs[k + 2]? = some c) : (cs.drop k).take 3 = [a, b, c] := by
  apply List.ext_getElem?
  intro i
  rw [List.getElem?_take, List.getElem?_drop]
  match i with
  | 0 => simpa using h0
  | 1 => simpa using h1
  | 2 => simpa using h2
  | i + 3 => simp; omega

theorem len3 {cs : List Value} {k : Nat} {c : Value} (h2 : cs[k + 2]? = some c) : k + 3 ≤ cs.length := by
  rcases Nat.lt_or_ge (k + 2) cs.length with h | h
  · omega
  · rw [List.getElem?_eq_none h] at h2; cases h2

def gcells (pt pv pr : Option Addr) (g : Gram) : List Value :=
  [.slice pt g.terms.length g.terms.length, .slice pv g.vars.length g.vars.length, .slice pr g.rules.length g.rules.length]

/-- A grammar by value. -/
def RG (H : Heap) (v : Value) (g : Gram) : Prop :=
  ∃ pt pv pr, v = .agg (gcells pt pv pr g).toArray ∧ RA Value.string H pt g.terms ∧ RA Value.string H pv g.vars ∧ RR H pr g.rules

theorem RG.mono {n n' : Nat} {H H' : Heap} {v : Value} {g : Gram} (h : RG H v g) (hw : WF n H) (hk : Kp n H n' H') : RG H' v g := by
  obtain ⟨pt, pv, pr, e, h1, h2, h3⟩ := h
  exact ⟨pt, pv, pr, e, h1.mono hw hk, h2.mono hw hk, h3.mono hw hk⟩

/-- What integers and lengths are. -/
def inI (n : Int) : Prop := -9223372036854775808 ≤ n ∧ n ≤ 9223372036854775807
def maxL : Nat := 9223372036854775807
structure WG (g : Gram) : Prop where
  terms : g.terms.length ≤ maxL
  vars : g.vars.length ≤ maxL
  rules : g.rules.length ≤ maxL
  left : ∀ r ∈ g.rules, inI r.left
  right : ∀ r ∈ g.rules, r.right.length ≤ maxL ∧ ∀ s ∈ r.right, inI s
  weight : ∀ r ∈ g.rules, r.weight < 2 ^ 64
  size : ∀ s ∈ g.terms ++ g.vars, s.size ≤ maxL

theorem box_cells (pt pv pr : Option Addr) (g : Gram) : vcells (.agg (gcells pt pv pr g).toArray) = gcells pt pv pr g := rfl
theorem box_one (pt pv pr : Option Addr) (g : Gram) : (gcells pt pv pr g).all one = true := rfl
theorem gc_0 (pt pv pr : Option Addr) (g : Gram) : (gcells pt pv pr g)[0]? = some (.slice pt g.terms.length g.terms.length) := rfl
theorem gc_1 (pt pv pr : Option Addr) (g : Gram) : (gcells pt pv pr g)[1]? = some (.slice pv g.vars.length g.vars.length) := rfl
theorem gc_2 (pt pv pr : Option Addr) (g : Gram) : (gcells pt pv pr g)[2]? = some (.slice pr g.rules.length g.rules.length) := rfl
theorem gc_len (pt pv pr : Option Addr) (g : Gram) : (gcells pt pv pr g).length = 3 := rfl
theorem gc_all (pt pv pr : Option Addr) (g : Gram) : ((gcells pt pv pr g).drop 0).take 3 = gcells pt pv pr g := rfl

end Go.AM
