/-
  DERIVED. GIVEN WITH THE SEED: THE CARDS: each row of YtddpnhhgmfaloaaGreatDoorRows.lean that lists a variable, with what it lists TIED to the program's text (the seventh form; the later family's looks); each row that meets fmt, with fmt's text TOLD by the authors' own Lean function (tested against real Go, not proved from fmt's source: count such statements apart). THE CARD IS WHAT COUNTS. Prove the row's statement (the work); the ties are given (YtddpnhhgmfaloaaGreatDoorTie.lean); close each card by the builder's one call (the guide's Derived/Test/ToyasCard.lean, 'card_holds'). Laid BY PROGRAM, IN A SANDBOX (cutbox-door.mjs). By AI agents, Wed Nov 11 2026. No macro, syntax, notation, axiom, sorry.
-/
import Derived.Test.YtddpnhhgmfaloaaGreatDoorRows
import GoSem.ClaimSeven
namespace Go.Proofs.YtddpnhhgmfaloaaGreatDoor
namespace Rows

/-- THE TIED CARD OF 'accidencelaw01.EdgeReads'. -/
def edgeReadsCard : Claim7 := { stood := { row := edgeReadsRow, standIns := [], harness := (true, "17e230b94dcd5d8da8ebb1a95567aa9ea737ad1d0b606de0dec2337d2a5336c4"), looks := false }, kinds := [], alts := [], laidByText := true, laidKinds := [.data, .data, .data, .data, .pinned, .pinned], laidTests := true, laidLooks := .later }
def EdgeReadsCardSaid : Prop := Claim7.holds Tryz.pinned (.plain (OpenSpec.ofChange edgeReadsSpec)) edgeReadsCard

/-- THE SECOND FORM's CARD OF 'accidencelaw01.EdgeReads'. -/
def edgeReadsUptoCard : Claim7 := { stood := { row := edgeReadsUptoRow, standIns := [], harness := (true, "17e230b94dcd5d8da8ebb1a95567aa9ea737ad1d0b606de0dec2337d2a5336c4"), looks := false }, kinds := [], alts := [], laidByText := true, laidKinds := [.data, .data, .data, .data, .pinned, .pinned], laidTests := true, laidLooks := .later }
def EdgeReadsUptoCardSaid : Prop := Claim7.holds Tryz.pinned (.plain (OpenSpec.upto edgeReadsSpec)) edgeReadsUptoCard
end Rows
end Go.Proofs.YtddpnhhgmfaloaaGreatDoor
