/-
  DERIVED. GIVEN WITH THE SEED: THE CARDS: each row of YtihjaobjhmmboaaGreatDoorRows.lean that lists a variable, with what it lists TIED to the program's text (the seventh form; the later family's looks); each row that meets fmt, with fmt's text TOLD by the authors' own Lean function (tested against real Go, not proved from fmt's source: count such statements apart). THE CARD IS WHAT COUNTS. Prove the row's statement (the work); the ties are given (YtihjaobjhmmboaaGreatDoorTie.lean); close each card by the builder's one call (the guide's Derived/Test/ToyasCard.lean, 'card_holds'). Laid BY PROGRAM, IN A SANDBOX (cutbox-door.mjs). By AI agents, Wed Nov 11 2026. No macro, syntax, notation, axiom, sorry.
-/
import Derived.Test.YtihjaobjhmmboaaGreatDoorRows
import GoSem.ClaimSeven
namespace Go.Proofs.YtihjaobjhmmboaaGreatDoor
namespace Rows

/-- THE TIED CARD OF 'accidencelaw09.UsefulTells'. -/
def usefulTellsCard : Claim7 := { stood := { row := usefulTellsRow, standIns := [], harness := (true, "c3fc6d5c6ba0ac050e9c10329e20332e4fe26f8f0bc990036971fabbf39d3227"), looks := false }, kinds := [], alts := [], laidByText := true, laidKinds := [.data, .data, .data, .data, .pinned, .pinned], laidTests := true, laidLooks := .later }
def UsefulTellsCardSaid : Prop := Claim7.holds Tryz.pinned (.plain (OpenSpec.ofChange usefulTellsSpec)) usefulTellsCard

/-- THE TIED CARD OF 'accidencelaw09.UsefulShortest'. -/
def usefulShortestCard : Claim7 := { stood := { row := usefulShortestRow, standIns := [], harness := (true, "c3fc6d5c6ba0ac050e9c10329e20332e4fe26f8f0bc990036971fabbf39d3227"), looks := false }, kinds := [], alts := [], laidByText := true, laidKinds := [.data, .data, .data, .data, .pinned, .pinned], laidTests := true, laidLooks := .later }
def UsefulShortestCardSaid : Prop := Claim7.holds Tryz.pinned (.plain (OpenSpec.ofChange usefulShortestSpec)) usefulShortestCard

/-- THE TIED CARD OF 'accidencelaw09.UsefulDerives'. -/
def usefulDerivesCard : Claim7 := { stood := { row := usefulDerivesRow, standIns := [], harness := (true, "c3fc6d5c6ba0ac050e9c10329e20332e4fe26f8f0bc990036971fabbf39d3227"), looks := false }, kinds := [], alts := [], laidByText := true, laidKinds := [.data, .data, .data, .data, .pinned, .pinned], laidTests := true, laidLooks := .later }
def UsefulDerivesCardSaid : Prop := Claim7.holds Tryz.pinned (.plain (OpenSpec.ofChange usefulDerivesSpec)) usefulDerivesCard

/-- THE TIED CARD OF 'accidencelaw09.UsefulGrows'. -/
def usefulGrowsCard : Claim7 := { stood := { row := usefulGrowsRow, standIns := [], harness := (true, "c3fc6d5c6ba0ac050e9c10329e20332e4fe26f8f0bc990036971fabbf39d3227"), looks := false }, kinds := [], alts := [], laidByText := true, laidKinds := [.data, .data, .data, .data, .pinned, .pinned], laidTests := true, laidLooks := .later }
def UsefulGrowsCardSaid : Prop := Claim7.holds Tryz.pinned (.plain (OpenSpec.ofChange usefulGrowsSpec)) usefulGrowsCard

/-- THE TIED CARD OF 'accidencelaw09.UsefulReduces'. -/
def usefulReducesCard : Claim7 := { stood := { row := usefulReducesRow, standIns := [], harness := (true, "c3fc6d5c6ba0ac050e9c10329e20332e4fe26f8f0bc990036971fabbf39d3227"), looks := false }, kinds := [], alts := [], laidByText := true, laidKinds := [.data, .data, .data, .data, .pinned, .pinned], laidTests := true, laidLooks := .later }
def UsefulReducesCardSaid : Prop := Claim7.holds Tryz.pinned (.plain (OpenSpec.ofChange usefulReducesSpec)) usefulReducesCard

/-- THE SECOND FORM's CARD OF 'accidencelaw09.UsefulTells'. -/
def usefulTellsUptoCard : Claim7 := { stood := { row := usefulTellsUptoRow, standIns := [], harness := (true, "c3fc6d5c6ba0ac050e9c10329e20332e4fe26f8f0bc990036971fabbf39d3227"), looks := false }, kinds := [], alts := [], laidByText := true, laidKinds := [.data, .data, .data, .data, .pinned, .pinned], laidTests := true, laidLooks := .later }
def UsefulTellsUptoCardSaid : Prop := Claim7.holds Tryz.pinned (.plain (OpenSpec.upto usefulTellsSpec)) usefulTellsUptoCard

/-- THE SECOND FORM's CARD OF 'accidencelaw09.UsefulShortest'. -/
def usefulShortestUptoCard : Claim7 := { stood := { row := usefulShortestUptoRow, standIns := [], harness := (true, "c3fc6d5c6ba0ac050e9c10329e20332e4fe26f8f0bc990036971fabbf39d3227"), looks := false }, kinds := [], alts := [], laidByText := true, laidKinds := [.data, .data, .data, .data, .pinned, .pinned], laidTests := true, laidLooks := .later }
def UsefulShortestUptoCardSaid : Prop := Claim7.holds Tryz.pinned (.plain (OpenSpec.upto usefulShortestSpec)) usefulShortestUptoCard

/-- THE SECOND FORM's CARD OF 'accidencelaw09.UsefulDerives'. -/
def usefulDerivesUptoCard : Claim7 := { stood := { row := usefulDerivesUptoRow, standIns := [], harness := (true, "c3fc6d5c6ba0ac050e9c10329e20332e4fe26f8f0bc990036971fabbf39d3227"), looks := false }, kinds := [], alts := [], laidByText := true, laidKinds := [.data, .data, .data, .data, .pinned, .pinned], laidTests := true, laidLooks := .later }
def UsefulDerivesUptoCardSaid : Prop := Claim7.holds Tryz.pinned (.plain (OpenSpec.upto usefulDerivesSpec)) usefulDerivesUptoCard

/-- THE SECOND FORM's CARD OF 'accidencelaw09.UsefulGrows'. -/
def usefulGrowsUptoCard : Claim7 := { stood := { row := usefulGrowsUptoRow, standIns := [], harness := (true, "c3fc6d5c6ba0ac050e9c10329e20332e4fe26f8f0bc990036971fabbf39d3227"), looks := false }, kinds := [], alts := [], laidByText := true, laidKinds := [.data, .data, .data, .data, .pinned, .pinned], laidTests := true, laidLooks := .later }
def UsefulGrowsUptoCardSaid : Prop := Claim7.holds Tryz.pinned (.plain (OpenSpec.upto usefulGrowsSpec)) usefulGrowsUptoCard

/-- THE SECOND FORM's CARD OF 'accidencelaw09.UsefulReduces'. -/
def usefulReducesUptoCard : Claim7 := { stood := { row := usefulReducesUptoRow, standIns := [], harness := (true, "c3fc6d5c6ba0ac050e9c10329e20332e4fe26f8f0bc990036971fabbf39d3227"), looks := false }, kinds := [], alts := [], laidByText := true, laidKinds := [.data, .data, .data, .data, .pinned, .pinned], laidTests := true, laidLooks := .later }
def UsefulReducesUptoCardSaid : Prop := Claim7.holds Tryz.pinned (.plain (OpenSpec.upto usefulReducesSpec)) usefulReducesUptoCard
end Rows
end Go.Proofs.YtihjaobjhmmboaaGreatDoor
