/- A part. -/
import Derived.Stop.LaidErr
import Derived.WalkKit
import Derived.Lib.LaidTab
import Derived.SevenTiedAt
import Derived.Test.YtngchmkoadaecaaGreatDoorClJMl0
import Derived.Test.YtngchmkoadaecaaGreatDoorCards
import Derived.Test.YtngchmkoadaecaaGreatDoorTie
set_option linter.unusedVariables false
set_option linter.unusedSimpArgs false
set_option maxRecDepth 100000
namespace Go.Proofs.YtngchmkoadaecaaGreatDoor.resolveCleanDone
open Go Go.Ab Go.RowKit Go.ChangeShapes Go.WideShapes Go.ChangeAt
theorem cWf:OpenClaim.wfByText (OpenSpec.ofChange Rows.resolveCleanSpec) Rows.resolveCleanRow=true:=by kernel_rfl
theorem Sk:Tryz.pinned.checked.prog.mainIs=some (true,("572a9da4ff411a23f0c2564f0d1aec5890f687f78df10622adc428177dd27b0d" : String).toList):=by kernel_rfl
theorem P2:false=Tryz.pinned.checked.prog.looks []:=by kernel_rfl
theorem Sl:false=Rows.resolveCleanRow.goesBy Tryz.pinned.checked.prog:=by kernel_rfl
theorem P1:(([27]:List TypeId).all fun t=>!Tryz.prog.wantsStandIn t)=true:=by kernel_rfl
