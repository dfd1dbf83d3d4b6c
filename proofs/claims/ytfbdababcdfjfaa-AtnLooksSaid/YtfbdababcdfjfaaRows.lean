/-
  No cell of these rows narrows 'for every input' (looked for: loops, veiled, ifaces, maps, wideKeys, modest, calm, conditions, laid).
  DERIVED. THE GIVEN ROWS OF THIS SEAT. 4 by the template 'for every input the law returns true; each argument reads behind the call as it read before'; 0 by the template 'total and deterministic' (their statements: YtfbdababcdfjfaaTotals.lean).
  GIVEN WITH THE SEED: the statements are not yours to turn. If you find one false, say at which input.
  Laid BY PROGRAM, IN A SANDBOX (cutbox-rows.mjs): the forced cells as the released guide's own fill.sh prints them over the translation f4c071a4714866b3… (all of the seat's roots in one cut). By AI agents, Wed Nov 11 2026. No macro, syntax, notation, axiom, sorry.
-/
import Derived.Test.YtfbdababcdfjfaaChecked
import GoSem.Claim
import GoSem.ClaimJoined
import GoSem.ClaimMapViews
import Derived.JoinedTies
import Derived.KernelRfl
namespace Go.Proofs.Ytfbdababcdfjfaa
/- THE CELL 'sum', in the pinned program and in every row, IS THE sha256 OF THE DUMP (.gsa) THAT YtfbdababcdfjfaaProg.lean LOADS. Nothing in Lean hashes anything: it is a label: what it is worth is what the hold of that sum in a sandbox is worth. -/
noncomputable def Try.pinned : Pinned := { name := "ytfbdababcdfjfaa", sum := "f4c071a4714866b3abfd4f7016dfabb44e0822798838e00a7844b218b9629278", checked := Try.checked }
namespace Rows
def none {H : Type} : Left H := { results := [], args := [] }

/-- 'accidencelaw14.AtnWalks': WHATEVER THE INPUT: true; the input reads as it did. -/
def atnWalksSpec : ChangeSpec := { name := "atnWalks", fn := fun _ => fun
  | [d1, d2, d3, d4, d5] => { results := [.lit (.bool true)], args := [d1, d2, d3, d4, d5] }
  | _ => none }
def atnWalksRow : OpenClaim := { program := "ytfbdababcdfjfaa", sum := "f4c071a4714866b3abfd4f7016dfabb44e0822798838e00a7844b218b9629278", func := "accidence/accidencelaw14.AtnWalks", spec := "atnWalks", inPlace := ["slices.overlaps[accidence/atn.Config]", "math.Float64frombits", "math.Float64bits"], unfollowed := true, recurses := true, apart := false }
def AtnWalksSaid : Prop := atnWalksRow.holds Try.pinned (OpenSpec.ofChange atnWalksSpec)

/-- ITS FALSE NEIGHBOUR: 'it returns false'. Refute it at one input. -/
def atnWalksWrong : ChangeSpec := { name := "atnWalks", fn := fun _ => fun
  | [d1, d2, d3, d4, d5] => { results := [.lit (.bool false)], args := [d1, d2, d3, d4, d5] }
  | _ => none }
def AtnWalksWrongFalsely : Prop := atnWalksRow.holds Try.pinned (OpenSpec.ofChange atnWalksWrong)

/-- 'accidencelaw14.AtnLooks': WHATEVER THE INPUT: true; the input reads as it did. -/
def atnLooksSpec : ChangeSpec := { name := "atnLooks", fn := fun _ => fun
  | [d1, d2, d3, d4] => { results := [.lit (.bool true)], args := [d1, d2, d3, d4] }
  | _ => none }
def atnLooksRow : OpenClaim := { program := "ytfbdababcdfjfaa", sum := "f4c071a4714866b3abfd4f7016dfabb44e0822798838e00a7844b218b9629278", func := "accidence/accidencelaw14.AtnLooks", spec := "atnLooks", inPlace := ["slices.overlaps[accidence/atn.Config]", "math.Float64frombits", "math.Float64bits"], unfollowed := true, recurses := true, apart := false }
def AtnLooksSaid : Prop := atnLooksRow.holds Try.pinned (OpenSpec.ofChange atnLooksSpec)

/-- ITS FALSE NEIGHBOUR: 'it returns false'. Refute it at one input. -/
def atnLooksWrong : ChangeSpec := { name := "atnLooks", fn := fun _ => fun
  | [d1, d2, d3, d4] => { results := [.lit (.bool false)], args := [d1, d2, d3, d4] }
  | _ => none }
def AtnLooksWrongFalsely : Prop := atnLooksRow.holds Try.pinned (OpenSpec.ofChange atnLooksWrong)

/-- 'accidencelaw14.AtnOrders': WHATEVER THE INPUT: true; the input reads as it did. -/
def atnOrdersSpec : ChangeSpec := { name := "atnOrders", fn := fun _ => fun
  | [d1, d2, d3, d4, d5] => { results := [.lit (.bool true)], args := [d1, d2, d3, d4, d5] }
  | _ => none }
def atnOrdersRow : OpenClaim := { program := "ytfbdababcdfjfaa", sum := "f4c071a4714866b3abfd4f7016dfabb44e0822798838e00a7844b218b9629278", func := "accidence/accidencelaw14.AtnOrders", spec := "atnOrders", inPlace := ["slices.overlaps[accidence/atn.Config]", "math.Float64frombits", "math.Float64bits"], unfollowed := true, recurses := true, apart := false }
def AtnOrdersSaid : Prop := atnOrdersRow.holds Try.pinned (OpenSpec.ofChange atnOrdersSpec)

/-- ITS FALSE NEIGHBOUR: 'it returns false'. Refute it at one input. -/
def atnOrdersWrong : ChangeSpec := { name := "atnOrders", fn := fun _ => fun
  | [d1, d2, d3, d4, d5] => { results := [.lit (.bool false)], args := [d1, d2, d3, d4, d5] }
  | _ => none }
def AtnOrdersWrongFalsely : Prop := atnOrdersRow.holds Try.pinned (OpenSpec.ofChange atnOrdersWrong)

/-- 'accidencelaw14.AtnKeeps': WHATEVER THE INPUT: true; the input reads as it did. -/
def atnKeepsSpec : ChangeSpec := { name := "atnKeeps", fn := fun _ => fun
  | [d1, d2, d3] => { results := [.lit (.bool true)], args := [d1, d2, d3] }
  | _ => none }
def atnKeepsRow : OpenClaim := { program := "ytfbdababcdfjfaa", sum := "f4c071a4714866b3abfd4f7016dfabb44e0822798838e00a7844b218b9629278", func := "accidence/accidencelaw14.AtnKeeps", spec := "atnKeeps", inPlace := ["slices.overlaps[accidence/atn.Config]", "math.Float64frombits", "math.Float64bits"], unfollowed := true, recurses := true, apart := false }
def AtnKeepsSaid : Prop := atnKeepsRow.holds Try.pinned (OpenSpec.ofChange atnKeepsSpec)

/-- ITS FALSE NEIGHBOUR: 'it returns false'. Refute it at one input. -/
def atnKeepsWrong : ChangeSpec := { name := "atnKeeps", fn := fun _ => fun
  | [d1, d2, d3] => { results := [.lit (.bool false)], args := [d1, d2, d3] }
  | _ => none }
def AtnKeepsWrongFalsely : Prop := atnKeepsRow.holds Try.pinned (OpenSpec.ofChange atnKeepsWrong)

/- THE SECOND FORM. 'bulk': how many values and letters a reading holds, each counted each time it is reached (what is shared counts as often as it is met; a slice's spare places count too). A statement '..UptoSaid' is the law's where the arguments, and the package variables that the reading takes, are together of bulk at most 1048576: NARROWER than '..Said'. Prove '..Said' where nothing that the law and all that it calls make is longer than what came in: it says more and counts as full. Else prove '..UptoSaid'. A law counts once. -/
mutual
def uptoBulk {H : Type} : DataW H → Nat
  | .lit (.string bytes) => bytes.length + 1
  | .lit _ => 1
  | .nil => 1
  | .ptr d => uptoBulk d + 1
  | .slice elems spare => uptoBulkAll elems + uptoBulkAll spare + 1
  | .agg parts => uptoBulkAll parts + 1
  | .iface _ d => uptoBulk d + 1
  | .map entries => uptoBulkEntries entries + 1
  | .held _ => 1
def uptoBulkAll {H : Type} : List (DataW H) → Nat
  | [] => 0
  | d :: r => uptoBulk d + uptoBulkAll r
def uptoBulkEntries {H : Type} : List (Lit × DataW H) → Nat
  | [] => 0
  | x :: r => uptoBulkEntry x + uptoBulkEntries r
def uptoBulkEntry {H : Type} : Lit × DataW H → Nat
  | (.string bytes, d) => bytes.length + uptoBulk d + 1
  | (_, d) => uptoBulk d + 1
 end
def uptoSmall : (H : Type) → List (DataW H) → Bool := fun _ ds => decide (uptoBulkAll ds ≤ 1048576)
def OpenSpec.upto (s : _root_.Go.ChangeSpec) : _root_.Go.OpenSpec := { _root_.Go.OpenSpec.ofChange s with cond := some uptoSmall }

/-- 'accidencelaw14.AtnWalks', WHERE WHAT IT READS IS OF BULK AT MOST 1048576: true; the input reads as it did. -/
def atnWalksUptoRow : OpenClaim := { program := "ytfbdababcdfjfaa", sum := "f4c071a4714866b3abfd4f7016dfabb44e0822798838e00a7844b218b9629278", func := "accidence/accidencelaw14.AtnWalks", spec := "atnWalks", inPlace := ["slices.overlaps[accidence/atn.Config]", "math.Float64frombits", "math.Float64bits"], unfollowed := true, recurses := true, apart := false, narrowed := true }
def AtnWalksUptoSaid : Prop := atnWalksUptoRow.holds Try.pinned (OpenSpec.upto atnWalksSpec)

/-- 'accidencelaw14.AtnLooks', WHERE WHAT IT READS IS OF BULK AT MOST 1048576: true; the input reads as it did. -/
def atnLooksUptoRow : OpenClaim := { program := "ytfbdababcdfjfaa", sum := "f4c071a4714866b3abfd4f7016dfabb44e0822798838e00a7844b218b9629278", func := "accidence/accidencelaw14.AtnLooks", spec := "atnLooks", inPlace := ["slices.overlaps[accidence/atn.Config]", "math.Float64frombits", "math.Float64bits"], unfollowed := true, recurses := true, apart := false, narrowed := true }
def AtnLooksUptoSaid : Prop := atnLooksUptoRow.holds Try.pinned (OpenSpec.upto atnLooksSpec)

/-- 'accidencelaw14.AtnOrders', WHERE WHAT IT READS IS OF BULK AT MOST 1048576: true; the input reads as it did. -/
def atnOrdersUptoRow : OpenClaim := { program := "ytfbdababcdfjfaa", sum := "f4c071a4714866b3abfd4f7016dfabb44e0822798838e00a7844b218b9629278", func := "accidence/accidencelaw14.AtnOrders", spec := "atnOrders", inPlace := ["slices.overlaps[accidence/atn.Config]", "math.Float64frombits", "math.Float64bits"], unfollowed := true, recurses := true, apart := false, narrowed := true }
def AtnOrdersUptoSaid : Prop := atnOrdersUptoRow.holds Try.pinned (OpenSpec.upto atnOrdersSpec)

/-- 'accidencelaw14.AtnKeeps', WHERE WHAT IT READS IS OF BULK AT MOST 1048576: true; the input reads as it did. -/
def atnKeepsUptoRow : OpenClaim := { program := "ytfbdababcdfjfaa", sum := "f4c071a4714866b3abfd4f7016dfabb44e0822798838e00a7844b218b9629278", func := "accidence/accidencelaw14.AtnKeeps", spec := "atnKeeps", inPlace := ["slices.overlaps[accidence/atn.Config]", "math.Float64frombits", "math.Float64bits"], unfollowed := true, recurses := true, apart := false, narrowed := true }
def AtnKeepsUptoSaid : Prop := atnKeepsUptoRow.holds Try.pinned (OpenSpec.upto atnKeepsSpec)

end Rows
end Go.Proofs.Ytfbdababcdfjfaa
