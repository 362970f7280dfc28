/- A part of the proof. -/
import Derived.Stop.LaidErr
import Derived.WalkKit
import Derived.Lib.LaidTab
import Derived.SevenTiedAt
import Derived.Test.YtbojpfpliibfbaaGreatDoorDeRX20
import Derived.Test.YtbojpfpliibfbaaGreatDoorCards
import Derived.Test.YtbojpfpliibfbaaGreatDoorTie
set_option maxRecDepth 100000
set_option linter.unusedVariables false
set_option linter.unusedSimpArgs false
namespace Go.Proofs.YtbojpfpliibfbaaGreatDoor.fixedwidthDecodesDone
open Go Go.Ab Go.RowKit Go.ChangeShapes Go.WideShapes Go.ChangeAt
theorem cWf:OpenClaim.wfByText (OpenSpec.ofChange Rows.fixedwidthDecodesSpec) Rows.fixedwidthDecodesRow=true:=by kernel_rfl
theorem Ri:Tryz.pinned.checked.prog.mainIs=some (true,("ff22e9ca7fcdac9ddf1f7474d6fa5be19ec68ac0866aa67f934d5f9c0d329f51" : String).toList):=by kernel_rfl
theorem OM:true=Tryz.pinned.checked.prog.looks []:=by kernel_rfl
theorem Rj:false=Rows.fixedwidthDecodesRow.goesBy Tryz.pinned.checked.prog:=by kernel_rfl
theorem OL:(([26,27,9]:List TypeId).all fun t=>!Tryz.prog.wantsStandIn t)=true:=by kernel_rfl
end Go.Proofs.YtbojpfpliibfbaaGreatDoor.fixedwidthDecodesDone
