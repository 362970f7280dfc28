/- A part of the proof. -/
import Derived.Stop.LaidErr
import Derived.WalkKit
import Derived.Lib.LaidTab
import Derived.SevenTiedAt
import Derived.Test.YtbaaokocnegdoaaGreatDoorAgVZm
import Derived.Test.YtbaaokocnegdoaaGreatDoorCards
import Derived.Test.YtbaaokocnegdoaaGreatDoorTie
set_option linter.unusedVariables false
set_option linter.unusedSimpArgs false
set_option maxRecDepth 100000
namespace Go.Proofs.YtbaaokocnegdoaaGreatDoor.delimitedAgainDone
open Go Go.Ab Go.RowKit Go.ChangeShapes Go.WideShapes Go.ChangeAt
theorem cWf:OpenClaim.wfByText (OpenSpec.ofChange Rows.delimitedAgainSpec) Rows.delimitedAgainRow=true:=by kernel_rfl
theorem SY:Tryz.pinned.checked.prog.mainIs=some (true,("87a0c3881f4b07dad0aba2799d2ca88705f76fe095d6c873a6e93c638e930ea5" : String).toList):=by kernel_rfl
theorem QF:true=Tryz.pinned.checked.prog.looks []:=by kernel_rfl
theorem SZ:false=Rows.delimitedAgainRow.goesBy Tryz.pinned.checked.prog:=by kernel_rfl
theorem QE:(([26,9,3]:List TypeId).all fun t=>!Tryz.prog.wantsStandIn t)=true:=by kernel_rfl
end Go.Proofs.YtbaaokocnegdoaaGreatDoor.delimitedAgainDone
