/-
  DERIVED. GIVEN WITH THE SEED: THE CARDS: each row of YtjlgpanihjnaeaaGreatDoorRows.lean that lists a variable, with what it lists TIED to the program's text (the seventh form; the later family's looks); each row that meets fmt, with fmt's text TOLD by the authors' own Lean function (tested against real Go, not proved from fmt's source: count such statements apart). THE CARD IS WHAT COUNTS. Prove the row's statement (the work); the ties are given (YtjlgpanihjnaeaaGreatDoorTie.lean); close each card by the builder's one call (the guide's Derived/Test/ToyasCard.lean, 'card_holds'). Laid BY PROGRAM, IN A SANDBOX (cutbox-door.mjs). By AI agents, Wed Nov 11 2026. No macro, syntax, notation, axiom, sorry.
-/
import Derived.Test.YtjlgpanihjnaeaaGreatDoorRows
import GoSem.ClaimSeven
namespace Go.Proofs.YtjlgpanihjnaeaaGreatDoor
namespace Rows

/-- THE TIED CARD OF 'accidencelaw16.MiniBuilds'. -/
def miniBuildsCard : Claim7 := { stood := { row := miniBuildsRow, standIns := [], harness := (true, "e2de9d04542d814f4f6a63f0e8b178b08263dff999e220359de0ffcb4c4e13d7"), looks := false }, kinds := [], alts := [], laidByText := true, laidKinds := [.data, .data, .data], laidTests := true, laidLooks := .later }
def MiniBuildsCardSaid : Prop := Claim7.holds Tryz.pinned (.plain (OpenSpec.ofChange miniBuildsSpec)) miniBuildsCard

/-- THE SECOND FORM's CARD OF 'accidencelaw16.MiniBuilds'. -/
def miniBuildsUptoCard : Claim7 := { stood := { row := miniBuildsUptoRow, standIns := [], harness := (true, "e2de9d04542d814f4f6a63f0e8b178b08263dff999e220359de0ffcb4c4e13d7"), looks := false }, kinds := [], alts := [], laidByText := true, laidKinds := [.data, .data, .data], laidTests := true, laidLooks := .later }
def MiniBuildsUptoCardSaid : Prop := Claim7.holds Tryz.pinned (.plain (OpenSpec.upto miniBuildsSpec)) miniBuildsUptoCard
end Rows
end Go.Proofs.YtjlgpanihjnaeaaGreatDoor
