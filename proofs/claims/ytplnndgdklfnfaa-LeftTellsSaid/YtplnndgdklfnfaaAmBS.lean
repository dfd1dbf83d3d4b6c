/- The abstract machine's runs: a big step relation over the model's Code. -/
import Derived.Test.YtplnndgdklfnfaaAmOp
set_option linter.all false
namespace Go.AM
open Go.RowKit

structure St where
  f : Fr
  n : Nat
  H : Heap

inductive AExit where
  | normal
  | exit (id : Nat)
  | ret
  deriving DecidableEq

/-- One operation of a region, as it went. -/
structure Rec where
  pre : St
  v : Value
  n : Nat
  H : Heap
  rd : List Nat
  wr : Option Nat
  call : Bool

def wantedA (ops : Array Oper) (f : Fr) (o : Oper) : Bool :=
  match o.guard with
  | none => true
  | some (j, want) => match (ops[j]?).bind (·.dst) with
    | some d => match f d with
      | .bool b => b == want
      | _ => false
    | none => false

/-! ### What the program's text must keep to -/

def operandOK (nt : Nat) : Operand → Bool
  | .tmp t => decide (t < nt)
  | .const v => still v
  | .func _ => true
  | .global _ => false

def operOK (nt : Nat) (ops : Array Oper) (o : Oper) : Bool :=
  (match o.dst with | some d => decide (d < nt) | none => true) && o.op.operands.toList.all (operandOK nt) &&
  (match o.guard with | some (j, _) => (match (ops[j]?).bind (·.dst) with | some d => decide (d < nt) | none => false) | none => true) &&
  (match o.op with | .select .. => false | _ => true)

/-- Which operations come ahead of each in every order, as bits. -/
def masksGo (acc : List Nat) : List Oper → List Nat
  | [] => acc
  | o :: rest => masksGo (acc ++ [o.after.toList.foldl (fun m e => if Region.binds .any e then Nat.lor m (Nat.lor (2 ^ e.on) (acc.getD e.on 0)) else m) 0]) rest
def masks (ops : Array Oper) : List Nat := masksGo [] ops.toList
def forced (ms : List Nat) (i j : Nat) : Bool := (ms.getD j 0).testBit i

def isCall (o : Oper) : Bool := match o.op with | .call { callee := .value _, .. } => true | _ => false
def mayWrite (o : Oper) : Bool := match o.op with
  | .store .. | .call { callee := .builtin .append, .. } | .mapUpdate .. | .insert .. | .call { callee := .builtin .delete, .. } | .call { callee := .builtin .copy, .. } | .next .. => true
  | _ => false
def mayTouch (o : Oper) : Bool := match o.op with
  | .move _ | .assign _ | .pick .. | .binOp .. | .unOp .. | .fieldAddr .. | .indexAddr .. | .field .. | .index .. | .nilCheck _ | .extract .. | .box .. | .alloc _ | .build .. | .buildSlice .. | .makeSlice .. | .makeMap .. | .makeFunc .. | .convert .. => false
  | _ => true

def allPairs (n : Nat) (q : Nat → Nat → Bool) : Bool := (List.range n).all fun j => (List.range j).all fun i => q i j

/-- A region that draws its order: what its text must keep to. -/
def drawStatic (ops : Array Oper) : Bool :=
  let ms := masks ops
  ((List.range ops.size).all fun j => match ops[j]? with | some o => o.after.toList.all fun e => !Region.binds .any e || decide (e.on < j) | none => false) &&
  allPairs ops.size fun i j => match ops[i]?, ops[j]? with
    | some x, some y => forced ms i j || (x.apart ops y && !(isCall x && mayWrite y) && !(isCall y && mayWrite x))
    | _, _ => false

/-- The pairs that may come in either order, of which one may write what the other touches. -/
def sPairs (ops : Array Oper) : List (Nat × Nat) :=
  let ms := masks ops
  (List.range ops.size).flatMap fun j => (List.range j).filterMap fun i => match ops[i]?, ops[j]? with
    | some x, some y => if !forced ms i j && ((mayWrite x && mayTouch y) || (mayWrite y && mayTouch x)) then some (i, j) else none
    | _, _ => none

def codeOK (nt : Nat) : Code → Bool
  | .skip | .ret | .exit _ | .label _ => true
  | .seq a b => codeOK nt a && codeOK nt b
  | .cond c a b => operandOK nt c && codeOK nt a && codeOK nt b
  | .block _ a | .loop a => codeOK nt a
  | .region _ ops draw => ops.toList.all (operOK nt ops) && (!draw || drawStatic ops)
  | _ => false

def resOK (nt : Nat) : ResultVar → Bool
  | .tmp t => decide (t < nt)
  | .cell a _ => decide (a < nt)
def resultsOK (fn : Func) : Bool := fn.results.toList.all (resOK fn.ntmps)

/-! ### The checks at a region that draws, as it went -/

def touches (l : List Rec) (i x : Nat) : Prop := ∃ r, l[i]? = some r ∧ (x ∈ r.rd ∨ r.wr = some x)
def writes (l : List Rec) (i x : Nat) : Prop := ∃ r, l[i]? = some r ∧ r.wr = some x
def drawOK (ops : Array Oper) (l : List Rec) : Prop :=
  (∀ p ∈ sPairs ops, ∀ x, ¬ (writes l p.1 x ∧ touches l p.2 x) ∧ ¬ (writes l p.2 x ∧ touches l p.1 x)) ∧
  ∀ r ∈ l, r.call = true → ∀ x, x < r.pre.n → r.H x = r.pre.H x

/-! ### The relation -/

inductive Job where
  | code (c : Code) (s : St)
  | ops (all : Array Oper) (rest : List Oper) (s : St)
  | call (g : FuncId) (args : List Value) (n : Nat) (H : Heap)
inductive Out where
  | at (e : AExit) (s : St)
  | log (s : St) (l : List Rec)
  | ret (v : Value) (n : Nat) (H : Heap)

def aresult (P : Program) (s : St) : ResultVar → Option Value
  | .tmp t => some (s.f t)
  | .cell a ty => (aload P ty s.H (s.f a)).map (·.v)
def aresultsL (P : Program) (s : St) : List ResultVar → Option (List Value)
  | [] => some []
  | r :: rs => match aresult P s r, aresultsL P s rs with
    | some v, some l => some (v :: l)
    | _, _ => none
def aresults (P : Program) (fn : Func) (s : St) : Option Value :=
  (aresultsL P s fn.results.toList).map fun
    | [v] => v
    | l => .tuple l.toArray

def blockExit (id : Nat) : AExit → AExit
  | .exit i => if i = id then .normal else .exit i
  | e => e

/-- Functions that the machine may enter. -/
structure FnOK (P : Program) (g : FuncId) (fn : Func) (c : Code) : Prop where
  get : P.funcs[g]? = some fn
  body : fn.body = some c
  name : (fn.name == "runtime.NumGoroutine") = false
  code : codeOK fn.ntmps c = true
  results : resultsOK fn = true

inductive BS (P : Program) : Job → Out → Prop where
  | skip (s : St) : BS P (.code .skip s) (.at .normal s)
  | label (l : Nat) (s : St) : BS P (.code (.label l) s) (.at .normal s)
  | ret (s : St) : BS P (.code .ret s) (.at .ret s)
  | exit (id : Nat) (s : St) : BS P (.code (.exit id) s) (.at (.exit id) s)
  | seq {a b : Code} {s s1 s2 : St} {e : AExit} : BS P (.code a s) (.at .normal s1) → BS P (.code b s1) (.at e s2) → BS P (.code (.seq a b) s) (.at e s2)
  | seqOut {a b : Code} {s s1 : St} {e : AExit} : e ≠ .normal → BS P (.code a s) (.at e s1) → BS P (.code (.seq a b) s) (.at e s1)
  | cond {x : Operand} {a b : Code} {s s1 : St} {e : AExit} (t : Bool) : evalA s.f x = .bool t → BS P (.code (cond t a b) s) (.at e s1) → BS P (.code (.cond x a b) s) (.at e s1)
  | block {id : Nat} {c : Code} {s s1 : St} {e : AExit} : BS P (.code c s) (.at e s1) → BS P (.code (.block id c) s) (.at (blockExit id e) s1)
  | loop {c : Code} {s s1 s2 : St} {e : AExit} : BS P (.code c s) (.at .normal s1) → BS P (.code (.loop c) s1) (.at e s2) → BS P (.code (.loop c) s) (.at e s2)
  | loopOut {c : Code} {s s1 : St} {e : AExit} : e ≠ .normal → BS P (.code c s) (.at e s1) → BS P (.code (.loop c) s) (.at e s1)
  | region {id : Nat} {ops : Array Oper} {s s1 : St} {l : List Rec} : BS P (.ops ops ops.toList s) (.log s1 l) → BS P (.code (.region id ops false) s) (.at .normal s1)
  | regionDraw {id : Nat} {ops : Array Oper} {s s1 : St} {l : List Rec} : BS P (.ops ops ops.toList s) (.log s1 l) → drawOK ops l → BS P (.code (.region id ops true) s) (.at .normal s1)
  | opsNil (all : Array Oper) (s : St) : BS P (.ops all [] s) (.log s [])
  | opsSkip {all : Array Oper} {o : Oper} {rest : List Oper} {s s1 : St} {l : List Rec} : wantedA all s.f o = false →
      BS P (.ops all rest ⟨fput s.f o.dst undef, s.n, s.H⟩) (.log s1 l) → BS P (.ops all (o :: rest) s) (.log s1 (⟨s, undef, s.n, s.H, [], none, false⟩ :: l))
  | opsOp {all : Array Oper} {o : Oper} {rest : List Oper} {s s1 : St} {l : List Rec} {r : Res} : wantedA all s.f o = true → aop P (evalA s.f) s.n s.H o = some r →
      BS P (.ops all rest ⟨fput s.f o.dst r.v, r.next s.n, r.heap s.n s.H⟩) (.log s1 l) →
      BS P (.ops all (o :: rest) s) (.log s1 (⟨s, r.v, r.next s.n, r.heap s.n s.H, r.rd, r.wr.map (·.1), false⟩ :: l))
  | opsCall {all : Array Oper} {o : Oper} {rest : List Oper} {s s1 : St} {l : List Rec} {g : FuncId} {args : List Value} {v : Value} {n : Nat} {H : Heap} : wantedA all s.f o = true →
      acallee (evalA s.f) o = some (g, args) → BS P (.call g args s.n s.H) (.ret v n H) →
      BS P (.ops all rest ⟨fput s.f o.dst v, n, H⟩) (.log s1 l) → BS P (.ops all (o :: rest) s) (.log s1 (⟨s, v, n, H, [], none, true⟩ :: l))
  | call {g : FuncId} {args : List Value} {n : Nat} {H : Heap} {fn : Func} {c : Code} {e : AExit} {s : St} {v : Value} : FnOK P g fn c → args.length ≤ fn.ntmps →
      BS P (.code c ⟨fun t => args.getD t undef, n, H⟩) (.at e s) → (e = .normal ∨ e = .ret) → aresults P fn s = some v → BS P (.call g args n H) (.ret v s.n s.H)
  /-- A call without arguments that asks for nothing of what there is: what it made is forgotten. -/
  | closed {g : FuncId} {b : Bool} {n1 : Nat} {H1 : Heap} {n : Nat} {H : Heap} : BS P (.call g [] 0 fun _ => .dead) (.ret (.bool b) n1 H1) → BS P (.call g [] n H) (.ret (.bool b) n H)

end Go.AM
