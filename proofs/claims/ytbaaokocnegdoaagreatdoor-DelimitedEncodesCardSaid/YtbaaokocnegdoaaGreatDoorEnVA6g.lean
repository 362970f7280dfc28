/- A part. -/
import Derived.Stop.LaidErr
import Derived.WalkKit
import Derived.Lib.LaidTab
import Derived.SevenTiedAt
import Derived.Test.YtbaaokocnegdoaaGreatDoorEnVT5E
import Derived.Test.YtbaaokocnegdoaaGreatDoorCards
import Derived.Test.YtbaaokocnegdoaaGreatDoorTie
set_option linter.unusedVariables false
set_option linter.unusedSimpArgs false
set_option maxRecDepth 100000
namespace Go.Proofs.YtbaaokocnegdoaaGreatDoor.delimitedEncodesDone
open Go Go.Ab Go.RowKit Go.ChangeShapes Go.WideShapes Go.ChangeAt
theorem cWf:OpenClaim.wfByText (OpenSpec.ofChange Rows.delimitedEncodesSpec) Rows.delimitedEncodesRow=true:=by kernel_rfl
theorem TC:Tryz.pinned.checked.prog.mainIs=some (true,("87a0c3881f4b07dad0aba2799d2ca88705f76fe095d6c873a6e93c638e930ea5" : String).toList):=by kernel_rfl
theorem Q8:true=Tryz.pinned.checked.prog.looks []:=by kernel_rfl
theorem TD:false=Rows.delimitedEncodesRow.goesBy Tryz.pinned.checked.prog:=by kernel_rfl
theorem Q7:(([26,31,3]:List TypeId).all fun t=>!Tryz.prog.wantsStandIn t)=true:=by kernel_rfl
