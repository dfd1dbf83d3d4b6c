/- A deterministic abstract machine over the model's Code: its definitions. A heap is a function from object numbers; append makes a new object and kills the one that it grew from. -/
import Derived.WalkKit
import Derived.Orders
set_option linter.all false
namespace Go.AM

/-- An abstract object. -/
inductive AObj where
  | dead
  | cells (cs : List Value) (ty : TypeId) (own : Bool)
  | map (es : List MapEntry) (clock : Nat)

instance : Inhabited AObj := ⟨.dead⟩

abbrev Heap := Nat → AObj
def hset (H : Heap) (x : Nat) (o : AObj) : Heap := fun y => cond (Nat.beq y x) o (H y)
abbrev Fr := Nat → Value
def fset (f : Fr) (d : Nat) (v : Value) : Fr := fun t => cond (Nat.beq t d) v (f t)
def fput (f : Fr) (d : Option Nat) (v : Value) : Fr := match d with | some d => fset f d v | none => f

theorem nbeq (y x : Nat) : Nat.beq y x = decide (y = x) := by
  cases h : Nat.beq y x
  · symm; simp only [decide_eq_false_iff_not]; intro e; subst e; simp at h
  · symm; simp only [decide_eq_true_eq]; exact Nat.eq_of_beq_eq_true h
theorem hset_apply (H : Heap) (x : Nat) (o : AObj) (y : Nat) : hset H x o y = if y = x then o else H y := by
  unfold hset
  rw [nbeq]
  by_cases h : y = x <;> simp [h]
theorem fset_apply (f : Fr) (d : Nat) (v : Value) (t : Nat) : fset f d v t = if t = d then v else f t := by
  unfold fset
  rw [nbeq]
  by_cases h : t = d <;> simp [h]

def evalA (f : Fr) : Operand → Value
  | .tmp t => f t
  | .const v => v
  | .global g => .pointer (some ⟨g, 0, some 0⟩)
  | .func g => .func (.func g) #[] #[]

/-- A computation of the model that neither reads nor writes the world. -/
def pureRun (P : Program) {α : Type} : Sem α → Option α
  | .pure a => some a
  | .program k => pureRun P (k P)
  | _ => none

theorem pureRun_run {P : Program} {α : Type} : ∀ (s : Sem α) {a : α}, pureRun P s = some a → ∀ w, s.run P w = .ok a w
  | .pure _, _, h, w => by simp [pureRun] at h; subst h; rfl
  | .program k, _, h, w => by simp only [pureRun] at h; exact pureRun_run (k P) h w
  | .load .., _, h, _ | .store .., _, h, _ | .new .., _, h, _ | .shape .., _, h, _ | .freeze .., _, h, _ | .frozen .., _, h, _
  | .getObj .., _, h, _ | .setObj .., _, h, _ | .choose .., _, h, _ | .sys .., _, h, _ | .mark .., _, h, _ | .halt .., _, h, _ => by simp [pureRun] at h

/-- Values of one cell that hold no place in memory. -/
def flat1 : Value → Bool
  | .bool _ | .int .. | .float .. | .string _ | .nilFunc | .nilIface | .pointer none | .map none => true
  | _ => false
def flat : Value → Bool
  | .agg cs => cs.toList.all flat1
  | .tuple cs => cs.toList.all flat1
  | v => flat1 v

/-- .. or a nil slice: values that stand for themselves. -/
def still1 : Value → Bool
  | .slice none 0 0 => true
  | v => flat1 v
def still : Value → Bool
  | .agg cs => cs.toList.all still1
  | .tuple cs => cs.toList.all still1
  | v => still1 v

def one : Value → Bool
  | .agg _ | .tuple _ => false
  | _ => true
def vcells (v : Value) : List Value := v.cells.toList

/-- Is a type a struct or an array? (None: there is no such type.) -/
def aggT (P : Program) (t : TypeId) : Option Bool :=
  match P.underlying t with
  | some (.struct _) | some (.array _ _) => some true
  | some _ => some false
  | none => none

/-- What an operation does: its value; new objects; an object written; objects read. -/
structure Res where
  v : Value
  news : List AObj := []
  wr : Option (Nat × AObj) := none
  rd : List Nat := []

def Res.heap (r : Res) (n : Nat) (H : Heap) : Heap :=
  let H1 := match r.wr with | some (x, o) => hset H x o | none => H
  match r.news with
  | [] => H1
  | o :: _ => hset H1 n o
def Res.next (r : Res) (n : Nat) : Nat := match r.news with | [] => n | _ :: _ => n + 1

def splice (cs : List Value) (k : Nat) : List Value → List Value
  | [] => cs
  | v :: vs => splice (cs.set k v) (k + 1) vs

def aload (P : Program) (t : TypeId) (H : Heap) : Value → Option Res
  | .pointer (some ⟨x, k, none⟩) =>
    match H x with
    | .cells cs _ _ =>
      match aggT P t with
      | some true => if k + P.cellsOf t ≤ cs.length then some { v := .agg ((cs.drop k).take (P.cellsOf t)).toArray, rd := [x] } else none
      | some false => match cs[k]? with
        | some v => some { v := v, rd := [x] }
        | none => none
      | none => none
    | _ => none
  | _ => none

def astore (P : Program) (t : TypeId) (H : Heap) (a v : Value) : Option Res :=
  match a with
  | .pointer (some ⟨x, k, none⟩) =>
    match H x with
    | .cells cs ty true => match P.info? t with
      | some j => if (vcells v).length = j.size ∧ (vcells v).all one = true ∧ k + (vcells v).length ≤ cs.length then
        some { v := undef, wr := some (x, .cells (splice cs k (vcells v)) ty true) } else none
      | none => none
    | _ => none
  | _ => none

def abox (n : Nat) (t : TypeId) (v : Value) : Option Res :=
  if (vcells v).all one = true then some { v := .pointer (some ⟨n, 0, none⟩), news := [.cells (vcells v) t true] } else none

def aalloc (P : Program) (n : Nat) (t : TypeId) : Option Res :=
  match (P.info? t).bind (·.zero) with
  | some z => if still z = true then abox n t z else none
  | none => none

/-- Parts of a struct or an array laid into its cells. -/
def afill (place : Nat → Option (Nat × Nat)) (cs : List Value) : List (Nat × Value) → Option (List Value)
  | [] => some cs
  | (i, v) :: rest =>
    match place i with
    | none => none
    | some (off, size) => if (vcells v).length ≠ size ∨ off + size > cs.length ∨ (vcells v).all one ≠ true then none else afill place (splice cs off (vcells v)) rest

def zeroCellsOf (P : Program) (t : TypeId) : Option (List Value) :=
  match (P.info? t).bind (·.zero) with
  | some z => if (vcells z).all still1 = true then some (vcells z) else none
  | none => none

/-- Where the fields of a struct lie, and how many cells each has. -/
def fplaces (P : Program) : List Field → Option (List (Nat × Nat))
  | [] => some []
  | f :: fs => match P.info? f.type, fplaces P fs with
    | some j, some l => some ((f.offset, j.size) :: l)
    | _, _ => none

def abuild (P : Program) (t : TypeId) (parts : List (Nat × Value)) : Option Value :=
  match P.underlying t, zeroCellsOf P t with
  | some (.struct fields), some zs => match fplaces P fields.toList with
    | some places => (afill (fun i => places[i]?) zs parts).map fun cs => .agg cs.toArray
    | none => none
  | some (.array _ elem), some zs => match P.info? elem with
    | some j => (afill (fun i => some (i * j.size, j.size)) zs parts).map fun cs => .agg cs.toArray
    | none => none
  | _, _ => none

def rep (n : Nat) (z : List Value) : List Value := match n with | 0 => [] | n + 1 => z ++ rep n z

def abuildSlice (P : Program) (n : Nat) (t : TypeId) (len : Nat) (parts : List (Nat × Value)) : Option Res :=
  match P.underlying t with
  | some (.slice elem) =>
    match P.info? elem, zeroCellsOf P elem with
    | some j, some zs =>
      if len * j.size > 16777216 ∨ len > 1048576 ∨ zs.length ≠ j.size ∨ j.size = 0 then none else
      (afill (fun i => some (i * j.size, j.size)) (rep len zs) parts).map fun cs => { v := .slice (some ⟨n, 0, none⟩) len len, news := [.cells cs elem true] }
    | _, _ => none
  | _ => none

/-- No list of the machine may be longer: far below every bound of the model. -/
def bigN : Nat := 4294967296

def amakeSlice (P : Program) (n : Nat) (t : TypeId) (len cap : Value) : Option Res :=
  match P.underlying t, len, cap with
  | some (.slice elem), .int _ l, .int _ c =>
    match P.info? elem, zeroCellsOf P elem with
    | some j, some zs =>
      if 0 ≤ l ∧ l ≤ c ∧ c ≤ bigN ∧ j.bytes ≤ 4096 ∧ zs.length = j.size ∧ j.size ≠ 0 then
        some { v := .slice (some ⟨n, 0, none⟩) l.toNat l.toNat, news := [.cells (rep l.toNat zs) elem true] } else none
    | _, _ => none
  | _, _, _ => none

def bound (x : Option Value) (d : Nat) : Option Nat :=
  match x with
  | none => some d
  | some (.int _ i) => if 0 ≤ i then some i.toNat else none
  | some _ => none

def aslice (P : Program) (H : Heap) (t : TypeId) (x : Value) (lo hi : Option Value) : Option Res :=
  match P.underlying t, x with
  | some (.slice elem), .slice (some ⟨y, k, none⟩) len _ =>
    match P.info? elem, bound lo 0, bound hi len, H y with
    | some j, some l, some h, .cells _ ty own =>
      if l ≤ h ∧ h ≤ len ∧ (own = true → P.cellsOf ty = j.size) then some { v := .slice (some ⟨y, k + l * j.size, none⟩) (h - l) (h - l), rd := [y] } else none
    | _, _, _, _ => none
  | some (.slice elem), .slice none 0 0 =>
    match P.info? elem, bound lo 0, bound hi 0 with
    | some _, some 0, some 0 => some { v := .slice none 0 0 }
    | _, _, _ => none
  | _, _ => none

def afieldAddr (P : Program) (t : TypeId) (x : Value) (i : Nat) : Option Value :=
  match P.underlying t, x with
  | some (.struct fields), .pointer (some ⟨y, k, none⟩) =>
    match fields[i]? with
    | some f => match P.info? f.type with
      | some j => if j.size = 0 then none else some (.pointer (some ⟨y, k + f.offset, none⟩))
      | none => none
    | none => none
  | _, _ => none

def aindexAddr (P : Program) (t : TypeId) (x i : Value) : Option Value :=
  match P.underlying t, x, i with
  | some (.slice elem), .slice (some ⟨y, k, none⟩) len _, .int _ i =>
    match P.info? elem with
    | some j => if 0 ≤ i ∧ i < len then some (.pointer (some ⟨y, k + i.toNat * j.size, none⟩)) else none
    | none => none
  | some (.array len elem), .pointer (some ⟨y, k, none⟩), .int _ i =>
    match P.info? elem with
    | some j => if 0 ≤ i ∧ i < len then some (.pointer (some ⟨y, k + i.toNat * j.size, none⟩)) else none
    | none => none
  | _, _, _ => none

/-- A part of a struct or an array by value. -/
def apart (P : Program) (t : TypeId) (cs : List Value) (off : Nat) : Option Value :=
  match P.info? t with
  | some j => match aggT P t with
    | some true => if off + j.size ≤ cs.length then some (.agg ((cs.drop off).take j.size).toArray) else none
    | some false => cs[off]?
    | none => none
  | none => none

def afield (P : Program) (t : TypeId) (x : Value) (i : Nat) : Option Value :=
  match P.underlying t, x with
  | some (.struct fields), .agg cs => match fields[i]? with
    | some f => apart P f.type cs.toList f.offset
    | none => none
  | _, _ => none

def aindex (P : Program) (t : TypeId) (x i : Value) : Option Value :=
  match P.underlying t, x, i with
  | some (.array len elem), .agg cs, .int _ i => match P.info? elem with
    | some j => if 0 ≤ i ∧ i < len then apart P elem cs.toList (i.toNat * j.size) else none
    | none => none
  | _, _, _ => none

/-- The cells of what is appended. -/
def asrc (H : Heap) (size : Nat) : Value → Option (List Value × List Nat × Nat)
  | .slice none 0 0 => some ([], [], 0)
  | .slice (some ⟨y, k, none⟩) m _ =>
    match H y with
    | .cells cs _ _ => if k + m * size ≤ cs.length then some ((cs.drop k).take (m * size), [y], m) else none
    | _ => none
  | .string s => if size = 1 then some (s.data.toList.map fun b => .int .u8 b.toNat, [], s.size) else none
  | _ => none

def srcT : TypeDesc → Bool | .slice _ | .string => true | _ => false

def aappend (P : Program) (n : Nat) (H : Heap) (ts : Array TypeId) (s x : Value) : Option Res :=
  match ts[0]?, ts[1]? with
  | some t, some u =>
    match P.underlying t with
    | some (.slice elem) =>
      match P.info? elem, zeroCellsOf P elem, P.underlying u with
      | some j, some zs, some du =>
        if j.bytes > 4096 ∨ j.size = 0 ∨ zs.length ≠ j.size ∨ srcT du = false then none else
        match asrc H j.size x with
        | some (ys, rd, m) =>
          match s with
          | .slice none 0 0 => if m > bigN then none else if m = 0 then some { v := .slice none 0 0, rd := rd } else some { v := .slice (some ⟨n, 0, none⟩) m m, news := [.cells ys elem true], rd := rd }
          | .slice (some ⟨y, k, none⟩) len _ =>
            match H y with
            | .cells cs ty true =>
              if len + m ≤ bigN ∧ k + len * j.size ≤ cs.length ∧ ty = elem ∧ rd.contains y = false then
                some { v := .slice (some ⟨n, 0, none⟩) (len + m) (len + m), news := [.cells ((cs.drop k).take (len * j.size) ++ ys) elem true], wr := some (y, .dead), rd := rd } else none
            | _ => none
          | _ => none
        | none => none
      | _, _, _ => none
    | _ => none
  | _, _ => none

def alen (P : Program) (H : Heap) (ts : Array TypeId) (x : Value) : Option Res :=
  match (ts[0]?).bind P.underlying, x with
  | some (.slice _), .slice _ m _ => some { v := .int .i64 m }
  | some .string, .string s => some { v := .int .i64 s.size }
  | some (.map _ _), .map none => some { v := .int .i64 0 }
  | some (.map _ _), .map (some y) => match H y with
    | .map es _ => some { v := .int .i64 es.length, rd := [y] }
    | _ => none
  | _, _ => none

def isNilPtr : Value → Bool
  | .pointer none => true
  | _ => false

/-- The comparison of a pointer with nil. -/
def aeqNil (P : Program) (t : TypeId) (x y : Value) : Option Bool :=
  match P.underlying t, x, y with
  | some (.pointer _), .pointer (some _), .pointer none | some (.pointer _), .pointer none, .pointer (some _) => some false
  | _, _, _ => none

def opFlat (ρ : Operand → Value) (o : Oper) : Bool := o.op.operands.all fun x => flat (ρ x)

def aflat (P : Program) (ρ : Operand → Value) (o : Oper) : Option Res :=
  if opFlat ρ o then
    match pureRun P (execOp ρ o) with
    | some (.value v) => if flat v then some { v := v } else none
    | _ => none
  else none

/-- Functions of the library without a body. -/
def aext (P : Program) (g : FuncId) (args : List Value) : Option Value :=
  match P.funcs[g]? with
  | some fn =>
    if fn.body.isNone && fn.origin == "" then
      match args with
      | [.float .f64 b] => if fn.name == "math.Float64bits" then some (.int .u64 b) else none
      | [.int .u64 b] => if fn.name == "math.Float64frombits" then some (.float .f64 b.toNat) else none
      | _ => none
    else none
  | none => none

def ok (v : Option Value) : Option Res := v.map fun v => { v := v }

/-- AN OPERATION, but for calls of Go functions. -/
def aop (P : Program) (ρ : Operand → Value) (n : Nat) (H : Heap) (o : Oper) : Option Res :=
  match o.op with
  | .move x | .assign x => some { v := ρ x }
  | .pick c a b => match ρ c with
    | .bool t => some { v := cond t (ρ a) (ρ b) }
    | _ => none
  | .alloc t => aalloc P n t
  | .box t x => abox n t (ρ x)
  | .build t ps => ok (abuild P t (ps.toList.map fun (i, x) => (i, ρ x)))
  | .buildSlice t len ps => abuildSlice P n t len (ps.toList.map fun (i, x) => (i, ρ x))
  | .load t a => aload P t H (ρ a)
  | .store t a x => astore P t H (ρ a) (ρ x)
  | .nilCheck x => match ρ x with
    | .pointer (some a) => some { v := .pointer (some a) }
    | .func (.func g) a b => some { v := .func (.func g) a b }
    | _ => none
  | .binOp op t x y _ => match aeqNil P t (ρ x) (ρ y) with
    | some b => match op with
      | .eql => some { v := .bool b }
      | .neq => some { v := .bool (!b) }
      | _ => none
    | none => aflat P ρ o
  | .makeFunc (.func g) first captured => some { v := .func (.func g) (first.toList.map ρ).toArray (captured.toList.map ρ).toArray }
  | .makeSlice t l c => amakeSlice P n t (ρ l) (ρ c)
  | .slice t x lo hi none => match ρ x with
    | .slice a b c => aslice P H t (.slice a b c) (lo.map ρ) (hi.map ρ)
    | _ => aflat P ρ o
  | .fieldAddr t x i => ok (afieldAddr P t (ρ x) i)
  | .field t x i => ok (afield P t (ρ x) i)
  | .indexAddr t x i => ok (aindexAddr P t (ρ x) (ρ i))
  | .index t x i => match ρ x with
    | .agg cs => ok (aindex P t (.agg cs) (ρ i))
    | _ => aflat P ρ o
  | .extract x i => match ρ x with
    | .tuple vs => ok (vs.toList[i]?)
    | _ => none
  | .call { callee := .builtin .len, args, argTypes } => match args.toList with
    | [x] => alen P H argTypes (ρ x)
    | _ => none
  | .call { callee := .builtin .append, args, argTypes } => match args.toList with
    | [s, x] => aappend P n H argTypes (ρ s) (ρ x)
    | _ => none
  | .call { callee := .value g, args, .. } => match ρ g with
    | .func (.func g) first captured => if first.isEmpty && captured.isEmpty then ok (aext P g (args.toList.map ρ)) else none
    | _ => none
  | .call { callee := .invoke .., .. } => none
  | .unOp .. | .convert .. | .call { callee := .builtin .min, .. } | .call { callee := .builtin .max, .. } => aflat P ρ o
  | _ => none

/-- The function that a call enters, and its arguments. -/
def acallee (ρ : Operand → Value) (o : Oper) : Option (FuncId × List Value) :=
  match o.op with
  | .call { callee := .value g, args, .. } => match ρ g with
    | .func (.func g) first captured => some (g, first.toList ++ args.toList.map ρ ++ captured.toList)
    | _ => none
  | _ => none

end Go.AM
