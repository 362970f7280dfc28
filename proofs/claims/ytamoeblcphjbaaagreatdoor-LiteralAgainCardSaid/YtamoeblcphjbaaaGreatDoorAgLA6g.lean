/- A part of the proof for LiteralAgainCardSaid. -/
import Derived.Stop.LaidErr
import Derived.WalkKit
import Derived.Lib.LaidTab
import Derived.SevenTiedAt
import Derived.Test.YtamoeblcphjbaaaGreatDoorAgLT5
import Derived.Test.YtamoeblcphjbaaaGreatDoorCards
import Derived.Test.YtamoeblcphjbaaaGreatDoorTie
set_option maxRecDepth 100000
set_option linter.unusedVariables false
set_option linter.unusedSimpArgs false
namespace Go.Proofs.YtamoeblcphjbaaaGreatDoor.literalAgainDone
open Go Go.Ab Go.RowKit Go.ChangeShapes Go.WideShapes Go.ChangeAt
theorem cWf:OpenClaim.wfByText (OpenSpec.ofChange Rows.literalAgainSpec) Rows.literalAgainRow=true:=by kernel_rfl
theorem QD:Tryz.pinned.checked.prog.mainIs=some (true,("7636b584a2e9c8b9f029b978eb79aa6cf462f64580768fb04d120eb6e3b97ae5" : String).toList):=by kernel_rfl
theorem NF:true=Tryz.pinned.checked.prog.looks []:=by kernel_rfl
theorem QE:false=Rows.literalAgainRow.goesBy Tryz.pinned.checked.prog:=by kernel_rfl
theorem NE:(([9]:List TypeId).all fun t=>!Tryz.prog.wantsStandIn t)=true:=by kernel_rfl
end Go.Proofs.YtamoeblcphjbaaaGreatDoor.literalAgainDone
