/- A part of a proof. Its conditions: none. -/
import Derived.Test.YtpdlmpbhohinpaaAmCChCw
import Derived.Test.YtpdlmpbhohinpaaAmCChCuts
set_option linter.all false
namespace Go.Proofs.Ytpdlmpbhohinpaa
open Go.AM Go.RowKit
set_option maxRecDepth 100000
end Go.Proofs.Ytpdlmpbhohinpaa
