/- A part of the proof for LiteralDiffersCardSaid. -/
import Derived.Stop.LaidErr
import Derived.WalkKit
import Derived.Lib.LaidTab
import Derived.SevenTiedAt
import Derived.Test.YtamoeblcphjbaaaGreatDoorDiLT5E
import Derived.Test.YtamoeblcphjbaaaGreatDoorCards
import Derived.Test.YtamoeblcphjbaaaGreatDoorTie
set_option maxRecDepth 100000
set_option linter.unusedVariables false
set_option linter.unusedSimpArgs false
namespace Go.Proofs.YtamoeblcphjbaaaGreatDoor.literalDiffersDone
open Go Go.Ab Go.RowKit Go.ChangeShapes Go.WideShapes Go.ChangeAt
theorem cWf:OpenClaim.wfByText (OpenSpec.ofChange Rows.literalDiffersSpec) Rows.literalDiffersRow=true:=by kernel_rfl
theorem Je:Tryz.pinned.checked.prog.mainIs=some (true,("7636b584a2e9c8b9f029b978eb79aa6cf462f64580768fb04d120eb6e3b97ae5" : String).toList):=by kernel_rfl
theorem GR:true=Tryz.pinned.checked.prog.looks []:=by kernel_rfl
theorem Jf:false=Rows.literalDiffersRow.goesBy Tryz.pinned.checked.prog:=by kernel_rfl
theorem GQ:(([25,25]:List TypeId).all fun t=>!Tryz.prog.wantsStandIn t)=true:=by kernel_rfl
end Go.Proofs.YtamoeblcphjbaaaGreatDoor.literalDiffersDone
