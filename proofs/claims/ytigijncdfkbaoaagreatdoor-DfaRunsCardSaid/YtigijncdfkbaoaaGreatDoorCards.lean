/-
  DERIVED. GIVEN WITH THE SEED: THE CARDS: each row of YtigijncdfkbaoaaGreatDoorRows.lean that lists a variable, with what it lists TIED to the program's text (the seventh form; the later family's looks); each row that meets fmt, with fmt's text TOLD by the authors' own Lean function (tested against real Go, not proved from fmt's source: count such statements apart). THE CARD IS WHAT COUNTS. Prove the row's statement (the work); the ties are given (YtigijncdfkbaoaaGreatDoorTie.lean); close each card by the builder's one call (the guide's Derived/Test/ToyasCard.lean, 'card_holds'). Laid BY PROGRAM, IN A SANDBOX (cutbox-door.mjs). By AI agents, Wed Nov 11 2026. No macro, syntax, notation, axiom, sorry.
-/
import Derived.Test.YtigijncdfkbaoaaGreatDoorRows
import GoSem.ClaimSeven
namespace Go.Proofs.YtigijncdfkbaoaaGreatDoor
namespace Rows

/-- THE TIED CARD OF 'accidencelaw15.DfaRuns'. -/
def dfaRunsCard : Claim7 := { stood := { row := dfaRunsRow, standIns := [], harness := (true, "027e0c82ac40c5ae6d7c07c82d4dd9fc51063599f9765db7e82ee0346d49669f"), looks := false }, kinds := [], alts := [], laidByText := true, laidKinds := [.data, .data, .data], laidTests := true, laidLooks := .later }
def DfaRunsCardSaid : Prop := Claim7.holds Tryz.pinned (.plain (OpenSpec.ofChange dfaRunsSpec)) dfaRunsCard

/-- THE TIED CARD OF 'accidencelaw15.DfaHeads'. -/
def dfaHeadsCard : Claim7 := { stood := { row := dfaHeadsRow, standIns := [], harness := (true, "027e0c82ac40c5ae6d7c07c82d4dd9fc51063599f9765db7e82ee0346d49669f"), looks := false }, kinds := [], alts := [], laidByText := true, laidKinds := [.data, .data, .data], laidTests := true, laidLooks := .later }
def DfaHeadsCardSaid : Prop := Claim7.holds Tryz.pinned (.plain (OpenSpec.ofChange dfaHeadsSpec)) dfaHeadsCard

/-- THE SECOND FORM's CARD OF 'accidencelaw15.DfaRuns'. -/
def dfaRunsUptoCard : Claim7 := { stood := { row := dfaRunsUptoRow, standIns := [], harness := (true, "027e0c82ac40c5ae6d7c07c82d4dd9fc51063599f9765db7e82ee0346d49669f"), looks := false }, kinds := [], alts := [], laidByText := true, laidKinds := [.data, .data, .data], laidTests := true, laidLooks := .later }
def DfaRunsUptoCardSaid : Prop := Claim7.holds Tryz.pinned (.plain (OpenSpec.upto dfaRunsSpec)) dfaRunsUptoCard

/-- THE SECOND FORM's CARD OF 'accidencelaw15.DfaHeads'. -/
def dfaHeadsUptoCard : Claim7 := { stood := { row := dfaHeadsUptoRow, standIns := [], harness := (true, "027e0c82ac40c5ae6d7c07c82d4dd9fc51063599f9765db7e82ee0346d49669f"), looks := false }, kinds := [], alts := [], laidByText := true, laidKinds := [.data, .data, .data], laidTests := true, laidLooks := .later }
def DfaHeadsUptoCardSaid : Prop := Claim7.holds Tryz.pinned (.plain (OpenSpec.upto dfaHeadsSpec)) dfaHeadsUptoCard
end Rows
end Go.Proofs.YtigijncdfkbaoaaGreatDoor
