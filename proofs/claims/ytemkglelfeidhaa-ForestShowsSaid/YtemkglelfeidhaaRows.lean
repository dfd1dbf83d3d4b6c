/-
  No cell of these rows narrows 'for every input' (looked for: loops, veiled, ifaces, maps, wideKeys, modest, calm, conditions, laid).
  DERIVED. THE GIVEN ROWS OF THIS SEAT. 4 by the template 'for every input the law returns true; each argument reads behind the call as it read before'; 0 by the template 'total and deterministic' (their statements: YtemkglelfeidhaaTotals.lean).
  GIVEN WITH THE SEED: the statements are not yours to turn. If you find one false, say at which input.
  Laid BY PROGRAM, IN A SANDBOX (cutbox-rows.mjs): the forced cells as the released guide's own fill.sh prints them over the translation 6b1798b54b66de76… (all of the seat's roots in one cut). By AI agents, Wed Nov 11 2026. No macro, syntax, notation, axiom, sorry.
-/
import Derived.Test.YtemkglelfeidhaaChecked
import GoSem.Claim
import GoSem.ClaimJoined
import GoSem.ClaimMapViews
import Derived.JoinedTies
import Derived.KernelRfl
namespace Go.Proofs.Ytemkglelfeidhaa
/- THE CELL 'sum', in the pinned program and in every row, IS THE sha256 OF THE DUMP (.gsa) THAT YtemkglelfeidhaaProg.lean LOADS. Nothing in Lean hashes anything: it is a label: what it is worth is what the hold of that sum in a sandbox is worth. -/
noncomputable def Try.pinned : Pinned := { name := "ytemkglelfeidhaa", sum := "6b1798b54b66de76c8136c0c1843cb9a1fc60761d5d7e0c4bbb9562dc80925b8", checked := Try.checked }
namespace Rows
def none {H : Type} : Left H := { results := [], args := [] }

/-- 'accidencelaw18.ForestCounts': WHATEVER THE INPUT: true; the input reads as it did. -/
def forestCountsSpec : ChangeSpec := { name := "forestCounts", fn := fun _ => fun
  | [d1, d2] => { results := [.lit (.bool true)], args := [d1, d2] }
  | _ => none }
def forestCountsRow : OpenClaim := { program := "ytemkglelfeidhaa", sum := "6b1798b54b66de76c8136c0c1843cb9a1fc60761d5d7e0c4bbb9562dc80925b8", func := "accidence/accidencelaw18.ForestCounts", spec := "forestCounts", inPlace := ["math.Float64frombits", "math.Float64bits"], unfollowed := true, recurses := true, plainKeys := false, apart := false }
def ForestCountsSaid : Prop := forestCountsRow.holds Try.pinned (OpenSpec.ofChange forestCountsSpec)

/-- ITS FALSE NEIGHBOUR: 'it returns false'. Refute it at one input. -/
def forestCountsWrong : ChangeSpec := { name := "forestCounts", fn := fun _ => fun
  | [d1, d2] => { results := [.lit (.bool false)], args := [d1, d2] }
  | _ => none }
def ForestCountsWrongFalsely : Prop := forestCountsRow.holds Try.pinned (OpenSpec.ofChange forestCountsWrong)

/-- 'accidencelaw18.ForestMore': WHATEVER THE INPUT: true; the input reads as it did. -/
def forestMoreSpec : ChangeSpec := { name := "forestMore", fn := fun _ => fun
  | [d1, d2, d3] => { results := [.lit (.bool true)], args := [d1, d2, d3] }
  | _ => none }
def forestMoreRow : OpenClaim := { program := "ytemkglelfeidhaa", sum := "6b1798b54b66de76c8136c0c1843cb9a1fc60761d5d7e0c4bbb9562dc80925b8", func := "accidence/accidencelaw18.ForestMore", spec := "forestMore", inPlace := ["math.Float64frombits", "math.Float64bits"], unfollowed := true, recurses := true, plainKeys := false, apart := false }
def ForestMoreSaid : Prop := forestMoreRow.holds Try.pinned (OpenSpec.ofChange forestMoreSpec)

/-- ITS FALSE NEIGHBOUR: 'it returns false'. Refute it at one input. -/
def forestMoreWrong : ChangeSpec := { name := "forestMore", fn := fun _ => fun
  | [d1, d2, d3] => { results := [.lit (.bool false)], args := [d1, d2, d3] }
  | _ => none }
def ForestMoreWrongFalsely : Prop := forestMoreRow.holds Try.pinned (OpenSpec.ofChange forestMoreWrong)

/-- 'accidencelaw18.ForestLess': WHATEVER THE INPUT: true; the input reads as it did. -/
def forestLessSpec : ChangeSpec := { name := "forestLess", fn := fun _ => fun
  | [d1, d2, d3] => { results := [.lit (.bool true)], args := [d1, d2, d3] }
  | _ => none }
def forestLessRow : OpenClaim := { program := "ytemkglelfeidhaa", sum := "6b1798b54b66de76c8136c0c1843cb9a1fc60761d5d7e0c4bbb9562dc80925b8", func := "accidence/accidencelaw18.ForestLess", spec := "forestLess", inPlace := ["math.Float64frombits", "math.Float64bits"], unfollowed := true, recurses := true, plainKeys := false, apart := false }
def ForestLessSaid : Prop := forestLessRow.holds Try.pinned (OpenSpec.ofChange forestLessSpec)

/-- ITS FALSE NEIGHBOUR: 'it returns false'. Refute it at one input. -/
def forestLessWrong : ChangeSpec := { name := "forestLess", fn := fun _ => fun
  | [d1, d2, d3] => { results := [.lit (.bool false)], args := [d1, d2, d3] }
  | _ => none }
def ForestLessWrongFalsely : Prop := forestLessRow.holds Try.pinned (OpenSpec.ofChange forestLessWrong)

/-- 'accidencelaw18.ForestShows': WHATEVER THE INPUT: true; the input reads as it did. -/
def forestShowsSpec : ChangeSpec := { name := "forestShows", fn := fun _ => fun
  | [d1, d2] => { results := [.lit (.bool true)], args := [d1, d2] }
  | _ => none }
def forestShowsRow : OpenClaim := { program := "ytemkglelfeidhaa", sum := "6b1798b54b66de76c8136c0c1843cb9a1fc60761d5d7e0c4bbb9562dc80925b8", func := "accidence/accidencelaw18.ForestShows", spec := "forestShows", inPlace := ["math.Float64frombits", "math.Float64bits"], unfollowed := true, recurses := true, plainKeys := false, apart := false }
def ForestShowsSaid : Prop := forestShowsRow.holds Try.pinned (OpenSpec.ofChange forestShowsSpec)

/-- ITS FALSE NEIGHBOUR: 'it returns false'. Refute it at one input. -/
def forestShowsWrong : ChangeSpec := { name := "forestShows", fn := fun _ => fun
  | [d1, d2] => { results := [.lit (.bool false)], args := [d1, d2] }
  | _ => none }
def ForestShowsWrongFalsely : Prop := forestShowsRow.holds Try.pinned (OpenSpec.ofChange forestShowsWrong)

/- THE SECOND FORM. 'bulk': how many values and letters a reading holds, each counted each time it is reached (what is shared counts as often as it is met; a slice's spare places count too). A statement '..UptoSaid' is the law's where the arguments, and the package variables that the reading takes, are together of bulk at most 1048576: NARROWER than '..Said'. Prove '..Said' where nothing that the law and all that it calls make is longer than what came in: it says more and counts as full. Else prove '..UptoSaid'. A law counts once. -/
mutual
def uptoBulk {H : Type} : DataW H → Nat
  | .lit (.string bytes) => bytes.length + 1
  | .lit _ => 1
  | .nil => 1
  | .ptr d => uptoBulk d + 1
  | .slice elems spare => uptoBulkAll elems + uptoBulkAll spare + 1
  | .agg parts => uptoBulkAll parts + 1
  | .iface _ d => uptoBulk d + 1
  | .map entries => uptoBulkEntries entries + 1
  | .held _ => 1
def uptoBulkAll {H : Type} : List (DataW H) → Nat
  | [] => 0
  | d :: r => uptoBulk d + uptoBulkAll r
def uptoBulkEntries {H : Type} : List (Lit × DataW H) → Nat
  | [] => 0
  | x :: r => uptoBulkEntry x + uptoBulkEntries r
def uptoBulkEntry {H : Type} : Lit × DataW H → Nat
  | (.string bytes, d) => bytes.length + uptoBulk d + 1
  | (_, d) => uptoBulk d + 1
 end
def uptoSmall : (H : Type) → List (DataW H) → Bool := fun _ ds => decide (uptoBulkAll ds ≤ 1048576)
def OpenSpec.upto (s : _root_.Go.ChangeSpec) : _root_.Go.OpenSpec := { _root_.Go.OpenSpec.ofChange s with cond := some uptoSmall }

/-- 'accidencelaw18.ForestCounts', WHERE WHAT IT READS IS OF BULK AT MOST 1048576: true; the input reads as it did. -/
def forestCountsUptoRow : OpenClaim := { program := "ytemkglelfeidhaa", sum := "6b1798b54b66de76c8136c0c1843cb9a1fc60761d5d7e0c4bbb9562dc80925b8", func := "accidence/accidencelaw18.ForestCounts", spec := "forestCounts", inPlace := ["math.Float64frombits", "math.Float64bits"], unfollowed := true, recurses := true, plainKeys := false, apart := false, narrowed := true }
def ForestCountsUptoSaid : Prop := forestCountsUptoRow.holds Try.pinned (OpenSpec.upto forestCountsSpec)

/-- 'accidencelaw18.ForestMore', WHERE WHAT IT READS IS OF BULK AT MOST 1048576: true; the input reads as it did. -/
def forestMoreUptoRow : OpenClaim := { program := "ytemkglelfeidhaa", sum := "6b1798b54b66de76c8136c0c1843cb9a1fc60761d5d7e0c4bbb9562dc80925b8", func := "accidence/accidencelaw18.ForestMore", spec := "forestMore", inPlace := ["math.Float64frombits", "math.Float64bits"], unfollowed := true, recurses := true, plainKeys := false, apart := false, narrowed := true }
def ForestMoreUptoSaid : Prop := forestMoreUptoRow.holds Try.pinned (OpenSpec.upto forestMoreSpec)

/-- 'accidencelaw18.ForestLess', WHERE WHAT IT READS IS OF BULK AT MOST 1048576: true; the input reads as it did. -/
def forestLessUptoRow : OpenClaim := { program := "ytemkglelfeidhaa", sum := "6b1798b54b66de76c8136c0c1843cb9a1fc60761d5d7e0c4bbb9562dc80925b8", func := "accidence/accidencelaw18.ForestLess", spec := "forestLess", inPlace := ["math.Float64frombits", "math.Float64bits"], unfollowed := true, recurses := true, plainKeys := false, apart := false, narrowed := true }
def ForestLessUptoSaid : Prop := forestLessUptoRow.holds Try.pinned (OpenSpec.upto forestLessSpec)

/-- 'accidencelaw18.ForestShows', WHERE WHAT IT READS IS OF BULK AT MOST 1048576: true; the input reads as it did. -/
def forestShowsUptoRow : OpenClaim := { program := "ytemkglelfeidhaa", sum := "6b1798b54b66de76c8136c0c1843cb9a1fc60761d5d7e0c4bbb9562dc80925b8", func := "accidence/accidencelaw18.ForestShows", spec := "forestShows", inPlace := ["math.Float64frombits", "math.Float64bits"], unfollowed := true, recurses := true, plainKeys := false, apart := false, narrowed := true }
def ForestShowsUptoSaid : Prop := forestShowsUptoRow.holds Try.pinned (OpenSpec.upto forestShowsSpec)

end Rows
end Go.Proofs.Ytemkglelfeidhaa
