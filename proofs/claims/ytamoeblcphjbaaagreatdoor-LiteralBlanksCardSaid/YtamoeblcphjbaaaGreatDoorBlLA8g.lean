/- A part. -/
import Derived.Stop.LaidErr
import Derived.WalkKit
import Derived.Lib.LaidTab
import Derived.SevenTiedAt
import Derived.Test.YtamoeblcphjbaaaGreatDoorBlLZE
import Derived.Test.YtamoeblcphjbaaaGreatDoorCards
import Derived.Test.YtamoeblcphjbaaaGreatDoorTie
set_option linter.unusedVariables false
set_option linter.unusedSimpArgs false
set_option maxRecDepth 100000
namespace Go.Proofs.YtamoeblcphjbaaaGreatDoor.literalBlanksDone
open Go Go.Ab Go.RowKit Go.ChangeShapes Go.WideShapes Go.ChangeAt
theorem cWf:OpenClaim.wfByText (OpenSpec.ofChange Rows.literalBlanksSpec) Rows.literalBlanksRow=true:=by kernel_rfl
theorem SI:Tryz.pinned.checked.prog.mainIs=some (true,("7636b584a2e9c8b9f029b978eb79aa6cf462f64580768fb04d120eb6e3b97ae5" : String).toList):=by kernel_rfl
theorem Qk:true=Tryz.pinned.checked.prog.looks []:=by kernel_rfl
theorem SJ:false=Rows.literalBlanksRow.goesBy Tryz.pinned.checked.prog:=by kernel_rfl
theorem Qj:(([9,37]:List TypeId).all fun t=>!Tryz.prog.wantsStandIn t)=true:=by kernel_rfl
