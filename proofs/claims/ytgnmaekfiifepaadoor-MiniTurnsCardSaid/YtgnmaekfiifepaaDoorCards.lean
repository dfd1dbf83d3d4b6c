/-
  DERIVED. GIVEN WITH THE SEED: THE CARDS: each row of YtgnmaekfiifepaaDoorRows.lean that lists a variable, with what it lists TIED to the program's text (the seventh form; the later family's looks); each row that meets fmt, with fmt's text TOLD by the authors' own Lean function (tested against real Go, not proved from fmt's source: count such statements apart). THE CARD IS WHAT COUNTS. Prove the row's statement (the work); the ties are given (YtgnmaekfiifepaaDoorTie.lean); close each card by the builder's one call (the guide's Derived/Test/ToyasCard.lean, 'card_holds'). Laid BY PROGRAM, IN A SANDBOX (cutbox-door.mjs). By AI agents, Wed Nov 11 2026. No macro, syntax, notation, axiom, sorry.
-/
import Derived.Test.YtgnmaekfiifepaaDoorRows
import GoSem.ClaimSeven
namespace Go.Proofs.YtgnmaekfiifepaaDoor
namespace Rows

/-- THE TIED CARD OF 'accidencelaw16.MiniLeasts'. -/
def miniLeastsCard : Claim7 := { stood := { row := miniLeastsRow, standIns := [], harness := (true, "068b110a938226ea67627e814c85f3e6eb8ca7fbd168c939aeb786065e5062a8"), looks := false }, kinds := [], alts := [], laidByText := true, laidKinds := [.data, .data, .data], laidTests := true, laidLooks := .later }
def MiniLeastsCardSaid : Prop := Claim7.holds Tryd.pinned (.plain (OpenSpec.ofChange miniLeastsSpec)) miniLeastsCard

/-- THE TIED CARD OF 'accidencelaw16.MiniTurns'. -/
def miniTurnsCard : Claim7 := { stood := { row := miniTurnsRow, standIns := [], harness := (true, "068b110a938226ea67627e814c85f3e6eb8ca7fbd168c939aeb786065e5062a8"), looks := false }, kinds := [], alts := [], laidByText := true, laidKinds := [.data, .data, .data], laidTests := true, laidLooks := .later }
def MiniTurnsCardSaid : Prop := Claim7.holds Tryd.pinned (.plain (OpenSpec.ofChange miniTurnsSpec)) miniTurnsCard

/-- THE SECOND FORM's CARD OF 'accidencelaw16.MiniLeasts'. -/
def miniLeastsUptoCard : Claim7 := { stood := { row := miniLeastsUptoRow, standIns := [], harness := (true, "068b110a938226ea67627e814c85f3e6eb8ca7fbd168c939aeb786065e5062a8"), looks := false }, kinds := [], alts := [], laidByText := true, laidKinds := [.data, .data, .data], laidTests := true, laidLooks := .later }
def MiniLeastsUptoCardSaid : Prop := Claim7.holds Tryd.pinned (.plain (OpenSpec.upto miniLeastsSpec)) miniLeastsUptoCard

/-- THE SECOND FORM's CARD OF 'accidencelaw16.MiniTurns'. -/
def miniTurnsUptoCard : Claim7 := { stood := { row := miniTurnsUptoRow, standIns := [], harness := (true, "068b110a938226ea67627e814c85f3e6eb8ca7fbd168c939aeb786065e5062a8"), looks := false }, kinds := [], alts := [], laidByText := true, laidKinds := [.data, .data, .data], laidTests := true, laidLooks := .later }
def MiniTurnsUptoCardSaid : Prop := Claim7.holds Tryd.pinned (.plain (OpenSpec.upto miniTurnsSpec)) miniTurnsUptoCard
end Rows
end Go.Proofs.YtgnmaekfiifepaaDoor
