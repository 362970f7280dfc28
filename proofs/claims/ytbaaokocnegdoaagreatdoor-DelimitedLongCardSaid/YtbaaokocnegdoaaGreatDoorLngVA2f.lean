/- A part of the proof for DelimitedLongCardSaid. -/
import Derived.Stop.LaidErr
import Derived.WalkKit
import Derived.Lib.LaidTab
import Derived.SevenTiedAt
import Derived.Test.YtbaaokocnegdoaaGreatDoorLngVT5
import Derived.Test.YtbaaokocnegdoaaGreatDoorCards
import Derived.Test.YtbaaokocnegdoaaGreatDoorTie
set_option maxRecDepth 100000
set_option linter.unusedVariables false
set_option linter.unusedSimpArgs false
namespace Go.Proofs.YtbaaokocnegdoaaGreatDoor.delimitedLongDone
open Go Go.Ab Go.RowKit Go.ChangeShapes Go.WideShapes Go.ChangeAt
theorem facts : joinedFacts Tryz.pinned.checked.prog 10 Tryz.f10 (OpenSpec.ofChange Rows.delimitedLongSpec).bare Rows.delimitedLongRow = true := by kernel_rfl
end Go.Proofs.YtbaaokocnegdoaaGreatDoor.delimitedLongDone
