/-
  No cell of these rows narrows 'for every input' (looked for: loops, veiled, ifaces, maps, wideKeys, modest, calm, conditions, laid).
  DERIVED. THE GIVEN ROWS OF THIS SEAT. 5 by the template 'for every input the law returns true; each argument reads behind the call as it read before'; 0 by the template 'total and deterministic' (their statements: YtpdlmpbhohinpaaTotals.lean).
  GIVEN WITH THE SEED: the statements are not yours to turn. If you find one false, say at which input.
  Laid BY PROGRAM, IN A SANDBOX (cutbox-rows.mjs): the forced cells as the released guide's own fill.sh prints them over the translation 949f3d167902b69e… (all of the seat's roots in one cut). By AI agents, Wed Nov 11 2026. No macro, syntax, notation, axiom, sorry.
-/
import Derived.Test.YtpdlmpbhohinpaaChecked
import GoSem.Claim
import GoSem.ClaimJoined
import GoSem.ClaimMapViews
import Derived.JoinedTies
import Derived.KernelRfl
namespace Go.Proofs.Ytpdlmpbhohinpaa
/- THE CELL 'sum', in the pinned program and in every row, IS THE sha256 OF THE DUMP (.gsa) THAT YtpdlmpbhohinpaaProg.lean LOADS. Nothing in Lean hashes anything: it is a label: what it is worth is what the hold of that sum in a sandbox is worth. -/
noncomputable def Try.pinned : Pinned := { name := "ytpdlmpbhohinpaa", sum := "949f3d167902b69ec305ddeed88fb10d3af8f6d25c00d648bacb7df6beff8915", checked := Try.checked }
namespace Rows
def none {H : Type} : Left H := { results := [], args := [] }

/-- 'accidencelaw17.ChartWords': WHATEVER THE INPUT: true; the input reads as it did. -/
def chartWordsSpec : ChangeSpec := { name := "chartWords", fn := fun _ => fun
  | [d1, d2] => { results := [.lit (.bool true)], args := [d1, d2] }
  | _ => none }
def chartWordsRow : OpenClaim := { program := "ytpdlmpbhohinpaa", sum := "949f3d167902b69ec305ddeed88fb10d3af8f6d25c00d648bacb7df6beff8915", func := "accidence/accidencelaw17.ChartWords", spec := "chartWords", inPlace := ["math.Float64frombits", "math.Float64bits"], unfollowed := true, recurses := true, plainKeys := false, apart := false }
def ChartWordsSaid : Prop := chartWordsRow.holds Try.pinned (OpenSpec.ofChange chartWordsSpec)

/-- ITS FALSE NEIGHBOUR: 'it returns false'. Refute it at one input. -/
def chartWordsWrong : ChangeSpec := { name := "chartWords", fn := fun _ => fun
  | [d1, d2] => { results := [.lit (.bool false)], args := [d1, d2] }
  | _ => none }
def ChartWordsWrongFalsely : Prop := chartWordsRow.holds Try.pinned (OpenSpec.ofChange chartWordsWrong)

/-- 'accidencelaw17.ChartGoes': WHATEVER THE INPUT: true; the input reads as it did. -/
def chartGoesSpec : ChangeSpec := { name := "chartGoes", fn := fun _ => fun
  | [d1, d2, d3] => { results := [.lit (.bool true)], args := [d1, d2, d3] }
  | _ => none }
def chartGoesRow : OpenClaim := { program := "ytpdlmpbhohinpaa", sum := "949f3d167902b69ec305ddeed88fb10d3af8f6d25c00d648bacb7df6beff8915", func := "accidence/accidencelaw17.ChartGoes", spec := "chartGoes", inPlace := ["math.Float64frombits", "math.Float64bits"], unfollowed := true, recurses := true, plainKeys := false, apart := false }
def ChartGoesSaid : Prop := chartGoesRow.holds Try.pinned (OpenSpec.ofChange chartGoesSpec)

/-- ITS FALSE NEIGHBOUR: 'it returns false'. Refute it at one input. -/
def chartGoesWrong : ChangeSpec := { name := "chartGoes", fn := fun _ => fun
  | [d1, d2, d3] => { results := [.lit (.bool false)], args := [d1, d2, d3] }
  | _ => none }
def ChartGoesWrongFalsely : Prop := chartGoesRow.holds Try.pinned (OpenSpec.ofChange chartGoesWrong)

/-- 'accidencelaw17.ChartCuts': WHATEVER THE INPUT: true; the input reads as it did. -/
def chartCutsSpec : ChangeSpec := { name := "chartCuts", fn := fun _ => fun
  | [d1, d2, d3] => { results := [.lit (.bool true)], args := [d1, d2, d3] }
  | _ => none }
def chartCutsRow : OpenClaim := { program := "ytpdlmpbhohinpaa", sum := "949f3d167902b69ec305ddeed88fb10d3af8f6d25c00d648bacb7df6beff8915", func := "accidence/accidencelaw17.ChartCuts", spec := "chartCuts", inPlace := ["math.Float64frombits", "math.Float64bits"], unfollowed := true, recurses := true, plainKeys := false, apart := false }
def ChartCutsSaid : Prop := chartCutsRow.holds Try.pinned (OpenSpec.ofChange chartCutsSpec)

/-- ITS FALSE NEIGHBOUR: 'it returns false'. Refute it at one input. -/
def chartCutsWrong : ChangeSpec := { name := "chartCuts", fn := fun _ => fun
  | [d1, d2, d3] => { results := [.lit (.bool false)], args := [d1, d2, d3] }
  | _ => none }
def ChartCutsWrongFalsely : Prop := chartCutsRow.holds Try.pinned (OpenSpec.ofChange chartCutsWrong)

/-- 'accidencelaw17.ChartPops': WHATEVER THE INPUT: true; the input reads as it did. -/
def chartPopsSpec : ChangeSpec := { name := "chartPops", fn := fun _ => fun
  | [d1, d2] => { results := [.lit (.bool true)], args := [d1, d2] }
  | _ => none }
def chartPopsRow : OpenClaim := { program := "ytpdlmpbhohinpaa", sum := "949f3d167902b69ec305ddeed88fb10d3af8f6d25c00d648bacb7df6beff8915", func := "accidence/accidencelaw17.ChartPops", spec := "chartPops", inPlace := ["math.Float64frombits", "math.Float64bits"], unfollowed := true, recurses := true, plainKeys := false, apart := false }
def ChartPopsSaid : Prop := chartPopsRow.holds Try.pinned (OpenSpec.ofChange chartPopsSpec)

/-- ITS FALSE NEIGHBOUR: 'it returns false'. Refute it at one input. -/
def chartPopsWrong : ChangeSpec := { name := "chartPops", fn := fun _ => fun
  | [d1, d2] => { results := [.lit (.bool false)], args := [d1, d2] }
  | _ => none }
def ChartPopsWrongFalsely : Prop := chartPopsRow.holds Try.pinned (OpenSpec.ofChange chartPopsWrong)

/-- 'accidencelaw17.ChartDerives': WHATEVER THE INPUT: true; the input reads as it did. -/
def chartDerivesSpec : ChangeSpec := { name := "chartDerives", fn := fun _ => fun
  | [d1, d2] => { results := [.lit (.bool true)], args := [d1, d2] }
  | _ => none }
def chartDerivesRow : OpenClaim := { program := "ytpdlmpbhohinpaa", sum := "949f3d167902b69ec305ddeed88fb10d3af8f6d25c00d648bacb7df6beff8915", func := "accidence/accidencelaw17.ChartDerives", spec := "chartDerives", inPlace := ["math.Float64frombits", "math.Float64bits"], unfollowed := true, recurses := true, plainKeys := false, apart := false }
def ChartDerivesSaid : Prop := chartDerivesRow.holds Try.pinned (OpenSpec.ofChange chartDerivesSpec)

/-- ITS FALSE NEIGHBOUR: 'it returns false'. Refute it at one input. -/
def chartDerivesWrong : ChangeSpec := { name := "chartDerives", fn := fun _ => fun
  | [d1, d2] => { results := [.lit (.bool false)], args := [d1, d2] }
  | _ => none }
def ChartDerivesWrongFalsely : Prop := chartDerivesRow.holds Try.pinned (OpenSpec.ofChange chartDerivesWrong)

/- THE SECOND FORM. 'bulk': how many values and letters a reading holds, each counted each time it is reached (what is shared counts as often as it is met; a slice's spare places count too). A statement '..UptoSaid' is the law's where the arguments, and the package variables that the reading takes, are together of bulk at most 1048576: NARROWER than '..Said'. Prove '..Said' where nothing that the law and all that it calls make is longer than what came in: it says more and counts as full. Else prove '..UptoSaid'. A law counts once. -/
mutual
def uptoBulk {H : Type} : DataW H → Nat
  | .lit (.string bytes) => bytes.length + 1
  | .lit _ => 1
  | .nil => 1
  | .ptr d => uptoBulk d + 1
  | .slice elems spare => uptoBulkAll elems + uptoBulkAll spare + 1
  | .agg parts => uptoBulkAll parts + 1
  | .iface _ d => uptoBulk d + 1
  | .map entries => uptoBulkEntries entries + 1
  | .held _ => 1
def uptoBulkAll {H : Type} : List (DataW H) → Nat
  | [] => 0
  | d :: r => uptoBulk d + uptoBulkAll r
def uptoBulkEntries {H : Type} : List (Lit × DataW H) → Nat
  | [] => 0
  | x :: r => uptoBulkEntry x + uptoBulkEntries r
def uptoBulkEntry {H : Type} : Lit × DataW H → Nat
  | (.string bytes, d) => bytes.length + uptoBulk d + 1
  | (_, d) => uptoBulk d + 1
 end
def uptoSmall : (H : Type) → List (DataW H) → Bool := fun _ ds => decide (uptoBulkAll ds ≤ 1048576)
def OpenSpec.upto (s : _root_.Go.ChangeSpec) : _root_.Go.OpenSpec := { _root_.Go.OpenSpec.ofChange s with cond := some uptoSmall }

/-- 'accidencelaw17.ChartWords', WHERE WHAT IT READS IS OF BULK AT MOST 1048576: true; the input reads as it did. -/
def chartWordsUptoRow : OpenClaim := { program := "ytpdlmpbhohinpaa", sum := "949f3d167902b69ec305ddeed88fb10d3af8f6d25c00d648bacb7df6beff8915", func := "accidence/accidencelaw17.ChartWords", spec := "chartWords", inPlace := ["math.Float64frombits", "math.Float64bits"], unfollowed := true, recurses := true, plainKeys := false, apart := false, narrowed := true }
def ChartWordsUptoSaid : Prop := chartWordsUptoRow.holds Try.pinned (OpenSpec.upto chartWordsSpec)

/-- 'accidencelaw17.ChartGoes', WHERE WHAT IT READS IS OF BULK AT MOST 1048576: true; the input reads as it did. -/
def chartGoesUptoRow : OpenClaim := { program := "ytpdlmpbhohinpaa", sum := "949f3d167902b69ec305ddeed88fb10d3af8f6d25c00d648bacb7df6beff8915", func := "accidence/accidencelaw17.ChartGoes", spec := "chartGoes", inPlace := ["math.Float64frombits", "math.Float64bits"], unfollowed := true, recurses := true, plainKeys := false, apart := false, narrowed := true }
def ChartGoesUptoSaid : Prop := chartGoesUptoRow.holds Try.pinned (OpenSpec.upto chartGoesSpec)

/-- 'accidencelaw17.ChartCuts', WHERE WHAT IT READS IS OF BULK AT MOST 1048576: true; the input reads as it did. -/
def chartCutsUptoRow : OpenClaim := { program := "ytpdlmpbhohinpaa", sum := "949f3d167902b69ec305ddeed88fb10d3af8f6d25c00d648bacb7df6beff8915", func := "accidence/accidencelaw17.ChartCuts", spec := "chartCuts", inPlace := ["math.Float64frombits", "math.Float64bits"], unfollowed := true, recurses := true, plainKeys := false, apart := false, narrowed := true }
def ChartCutsUptoSaid : Prop := chartCutsUptoRow.holds Try.pinned (OpenSpec.upto chartCutsSpec)

/-- 'accidencelaw17.ChartPops', WHERE WHAT IT READS IS OF BULK AT MOST 1048576: true; the input reads as it did. -/
def chartPopsUptoRow : OpenClaim := { program := "ytpdlmpbhohinpaa", sum := "949f3d167902b69ec305ddeed88fb10d3af8f6d25c00d648bacb7df6beff8915", func := "accidence/accidencelaw17.ChartPops", spec := "chartPops", inPlace := ["math.Float64frombits", "math.Float64bits"], unfollowed := true, recurses := true, plainKeys := false, apart := false, narrowed := true }
def ChartPopsUptoSaid : Prop := chartPopsUptoRow.holds Try.pinned (OpenSpec.upto chartPopsSpec)

/-- 'accidencelaw17.ChartDerives', WHERE WHAT IT READS IS OF BULK AT MOST 1048576: true; the input reads as it did. -/
def chartDerivesUptoRow : OpenClaim := { program := "ytpdlmpbhohinpaa", sum := "949f3d167902b69ec305ddeed88fb10d3af8f6d25c00d648bacb7df6beff8915", func := "accidence/accidencelaw17.ChartDerives", spec := "chartDerives", inPlace := ["math.Float64frombits", "math.Float64bits"], unfollowed := true, recurses := true, plainKeys := false, apart := false, narrowed := true }
def ChartDerivesUptoSaid : Prop := chartDerivesUptoRow.holds Try.pinned (OpenSpec.upto chartDerivesSpec)

end Rows
end Go.Proofs.Ytpdlmpbhohinpaa
