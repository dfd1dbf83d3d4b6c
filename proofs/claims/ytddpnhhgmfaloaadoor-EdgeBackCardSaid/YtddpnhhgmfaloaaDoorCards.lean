/-
  DERIVED. GIVEN WITH THE SEED: THE CARDS: each row of YtddpnhhgmfaloaaDoorRows.lean that lists a variable, with what it lists TIED to the program's text (the seventh form; the later family's looks); each row that meets fmt, with fmt's text TOLD by the authors' own Lean function (tested against real Go, not proved from fmt's source: count such statements apart). THE CARD IS WHAT COUNTS. Prove the row's statement (the work); the ties are given (YtddpnhhgmfaloaaDoorTie.lean); close each card by the builder's one call (the guide's Derived/Test/ToyasCard.lean, 'card_holds'). Laid BY PROGRAM, IN A SANDBOX (cutbox-door.mjs). By AI agents, Wed Nov 11 2026. No macro, syntax, notation, axiom, sorry.
-/
import Derived.Test.YtddpnhhgmfaloaaDoorRows
import GoSem.ClaimSeven
namespace Go.Proofs.YtddpnhhgmfaloaaDoor
namespace Rows

/-- THE TIED CARD OF 'accidencelaw01.EdgeOrders'. -/
def edgeOrdersCard : Claim7 := { stood := { row := edgeOrdersRow, standIns := [], harness := (true, "17297e75ae377292dca2c0687ad94f1465706bf4554f40b6e16cfbe84bbeac13"), looks := false }, kinds := [], alts := [], laidByText := true, laidKinds := [.data, .data, .data, .data, .pinned, .pinned], laidTests := true, laidLooks := .later }
def EdgeOrdersCardSaid : Prop := Claim7.holds Tryd.pinned (.plain (OpenSpec.ofChange edgeOrdersSpec)) edgeOrdersCard

/-- THE TIED CARD OF 'accidencelaw01.EdgeSums'. -/
def edgeSumsCard : Claim7 := { stood := { row := edgeSumsRow, standIns := [], harness := (true, "17297e75ae377292dca2c0687ad94f1465706bf4554f40b6e16cfbe84bbeac13"), looks := false }, kinds := [], alts := [], laidByText := true, laidKinds := [.data, .data, .data, .data, .pinned, .pinned], laidTests := true, laidLooks := .later }
def EdgeSumsCardSaid : Prop := Claim7.holds Tryd.pinned (.plain (OpenSpec.ofChange edgeSumsSpec)) edgeSumsCard

/-- THE TIED CARD OF 'accidencelaw01.EdgeLine'. -/
def edgeLineCard : Claim7 := { stood := { row := edgeLineRow, standIns := [], harness := (true, "17297e75ae377292dca2c0687ad94f1465706bf4554f40b6e16cfbe84bbeac13"), looks := false }, kinds := [], alts := [], laidByText := true, laidKinds := [.data, .data, .data, .data, .pinned, .pinned], laidTests := true, laidLooks := .later }
def EdgeLineCardSaid : Prop := Claim7.holds Tryd.pinned (.plain (OpenSpec.ofChange edgeLineSpec)) edgeLineCard

/-- THE TIED CARD OF 'accidencelaw01.EdgeBack'. -/
def edgeBackCard : Claim7 := { stood := { row := edgeBackRow, standIns := [], harness := (true, "17297e75ae377292dca2c0687ad94f1465706bf4554f40b6e16cfbe84bbeac13"), looks := false }, kinds := [], alts := [], laidByText := true, laidKinds := [.data, .data, .data, .data, .pinned, .pinned], laidTests := true, laidLooks := .later }
def EdgeBackCardSaid : Prop := Claim7.holds Tryd.pinned (.plain (OpenSpec.ofChange edgeBackSpec)) edgeBackCard

/-- THE SECOND FORM's CARD OF 'accidencelaw01.EdgeOrders'. -/
def edgeOrdersUptoCard : Claim7 := { stood := { row := edgeOrdersUptoRow, standIns := [], harness := (true, "17297e75ae377292dca2c0687ad94f1465706bf4554f40b6e16cfbe84bbeac13"), looks := false }, kinds := [], alts := [], laidByText := true, laidKinds := [.data, .data, .data, .data, .pinned, .pinned], laidTests := true, laidLooks := .later }
def EdgeOrdersUptoCardSaid : Prop := Claim7.holds Tryd.pinned (.plain (OpenSpec.upto edgeOrdersSpec)) edgeOrdersUptoCard

/-- THE SECOND FORM's CARD OF 'accidencelaw01.EdgeSums'. -/
def edgeSumsUptoCard : Claim7 := { stood := { row := edgeSumsUptoRow, standIns := [], harness := (true, "17297e75ae377292dca2c0687ad94f1465706bf4554f40b6e16cfbe84bbeac13"), looks := false }, kinds := [], alts := [], laidByText := true, laidKinds := [.data, .data, .data, .data, .pinned, .pinned], laidTests := true, laidLooks := .later }
def EdgeSumsUptoCardSaid : Prop := Claim7.holds Tryd.pinned (.plain (OpenSpec.upto edgeSumsSpec)) edgeSumsUptoCard

/-- THE SECOND FORM's CARD OF 'accidencelaw01.EdgeLine'. -/
def edgeLineUptoCard : Claim7 := { stood := { row := edgeLineUptoRow, standIns := [], harness := (true, "17297e75ae377292dca2c0687ad94f1465706bf4554f40b6e16cfbe84bbeac13"), looks := false }, kinds := [], alts := [], laidByText := true, laidKinds := [.data, .data, .data, .data, .pinned, .pinned], laidTests := true, laidLooks := .later }
def EdgeLineUptoCardSaid : Prop := Claim7.holds Tryd.pinned (.plain (OpenSpec.upto edgeLineSpec)) edgeLineUptoCard

/-- THE SECOND FORM's CARD OF 'accidencelaw01.EdgeBack'. -/
def edgeBackUptoCard : Claim7 := { stood := { row := edgeBackUptoRow, standIns := [], harness := (true, "17297e75ae377292dca2c0687ad94f1465706bf4554f40b6e16cfbe84bbeac13"), looks := false }, kinds := [], alts := [], laidByText := true, laidKinds := [.data, .data, .data, .data, .pinned, .pinned], laidTests := true, laidLooks := .later }
def EdgeBackUptoCardSaid : Prop := Claim7.holds Tryd.pinned (.plain (OpenSpec.upto edgeBackSpec)) edgeBackUptoCard
end Rows
end Go.Proofs.YtddpnhhgmfaloaaDoor
