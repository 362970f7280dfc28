/- A part of the proof for FixedwidthRefusesCardSaid. -/
import Derived.Stop.LaidErr
import Derived.WalkKit
import Derived.Lib.LaidTab
import Derived.SevenTiedAt
import Derived.Test.YtedanlflegfomaaGreatDoorRefG7
import Derived.Test.YtedanlflegfomaaGreatDoorCards
import Derived.Test.YtedanlflegfomaaGreatDoorTie
set_option maxRecDepth 100000
set_option linter.unusedVariables false
set_option linter.unusedSimpArgs false
namespace Go.Proofs.YtedanlflegfomaaGreatDoor.fixedwidthRefusesDone
open Go Go.Ab Go.RowKit Go.ChangeShapes Go.WideShapes Go.ChangeAt
theorem cWf:OpenClaim.wfByText (OpenSpec.ofChange Rows.fixedwidthRefusesSpec) Rows.fixedwidthRefusesRow=true:=by kernel_rfl
theorem IY:Tryz.pinned.checked.prog.mainIs=some (true,("a6f13ac26fcb78b41cd59b2fde913d3310214e06fc901beaf8ad3a2f7f75787e" : String).toList):=by kernel_rfl
theorem GF:true=Tryz.pinned.checked.prog.looks []:=by kernel_rfl
theorem IZ:false=Rows.fixedwidthRefusesRow.goesBy Tryz.pinned.checked.prog:=by kernel_rfl
theorem GE:(([9]:List TypeId).all fun t=>!Tryz.prog.wantsStandIn t)=true:=by kernel_rfl
end Go.Proofs.YtedanlflegfomaaGreatDoor.fixedwidthRefusesDone
