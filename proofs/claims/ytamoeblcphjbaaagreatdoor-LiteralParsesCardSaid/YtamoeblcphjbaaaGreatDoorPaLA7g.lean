/- A part of the proof. -/
import Derived.Stop.LaidErr
import Derived.WalkKit
import Derived.Lib.LaidTab
import Derived.SevenTiedAt
import Derived.Test.YtamoeblcphjbaaaGreatDoorPaMQ16
import Derived.Test.YtamoeblcphjbaaaGreatDoorCards
import Derived.Test.YtamoeblcphjbaaaGreatDoorTie
set_option maxRecDepth 100000
set_option linter.unusedVariables false
set_option linter.unusedSimpArgs false
namespace Go.Proofs.YtamoeblcphjbaaaGreatDoor.literalParsesDone
open Go Go.Ab Go.RowKit Go.ChangeShapes Go.WideShapes Go.ChangeAt
theorem cWf:OpenClaim.wfByText (OpenSpec.ofChange Rows.literalParsesSpec) Rows.literalParsesRow=true:=by kernel_rfl
theorem RJ:Tryz.pinned.checked.prog.mainIs=some (true,("7636b584a2e9c8b9f029b978eb79aa6cf462f64580768fb04d120eb6e3b97ae5" : String).toList):=by kernel_rfl
theorem OQ:true=Tryz.pinned.checked.prog.looks []:=by kernel_rfl
theorem RK:false=Rows.literalParsesRow.goesBy Tryz.pinned.checked.prog:=by kernel_rfl
theorem OP:(([9]:List TypeId).all fun t=>!Tryz.prog.wantsStandIn t)=true:=by kernel_rfl
end Go.Proofs.YtamoeblcphjbaaaGreatDoor.literalParsesDone
