/- A part of the proof. -/
import Derived.Stop.LaidErr
import Derived.WalkKit
import Derived.Lib.LaidTab
import Derived.SevenTiedAt
import Derived.Test.YtbojpfpliibfbaaGreatDoorMxRT5
import Derived.Test.YtbojpfpliibfbaaGreatDoorCards
import Derived.Test.YtbojpfpliibfbaaGreatDoorTie
set_option maxRecDepth 100000
set_option linter.unusedVariables false
set_option linter.unusedSimpArgs false
namespace Go.Proofs.YtbojpfpliibfbaaGreatDoor.fixedwidthMixesDone
open Go Go.Ab Go.RowKit Go.ChangeShapes Go.WideShapes Go.ChangeAt
theorem cWf:OpenClaim.wfByText (OpenSpec.ofChange Rows.fixedwidthMixesSpec) Rows.fixedwidthMixesRow=true:=by kernel_rfl
theorem Sw:Tryz.pinned.checked.prog.mainIs=some (true,("ff22e9ca7fcdac9ddf1f7474d6fa5be19ec68ac0866aa67f934d5f9c0d329f51" : String).toList):=by kernel_rfl
theorem Qc:true=Tryz.pinned.checked.prog.looks []:=by kernel_rfl
theorem Sx:false=Rows.fixedwidthMixesRow.goesBy Tryz.pinned.checked.prog:=by kernel_rfl
theorem Qb:(([26,50,5]:List TypeId).all fun t=>!Tryz.prog.wantsStandIn t)=true:=by kernel_rfl
end Go.Proofs.YtbojpfpliibfbaaGreatDoor.fixedwidthMixesDone
