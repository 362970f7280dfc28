/- A part of the proof for FixedwidthCellsCardSaid. -/
import Derived.Stop.LaidErr
import Derived.WalkKit
import Derived.Lib.LaidTab
import Derived.SevenTiedAt
import Derived.Test.YtedanlflegfomaaGreatDoorCelGK12
import Derived.Test.YtedanlflegfomaaGreatDoorCards
import Derived.Test.YtedanlflegfomaaGreatDoorTie
set_option maxRecDepth 100000
set_option linter.unusedVariables false
set_option linter.unusedSimpArgs false
namespace Go.Proofs.YtedanlflegfomaaGreatDoor.fixedwidthCellsDone
open Go Go.Ab Go.RowKit Go.ChangeShapes Go.WideShapes Go.ChangeAt
theorem cWf : OpenClaim.wfByText (OpenSpec.ofChange Rows.fixedwidthCellsSpec) Rows.fixedwidthCellsRow = true := by kernel_rfl
theorem cMain : Tryz.pinned.checked.prog.mainIs = some (true, ("a6f13ac26fcb78b41cd59b2fde913d3310214e06fc901beaf8ad3a2f7f75787e" : String).toList) := by kernel_rfl
theorem cLooks : true = Tryz.pinned.checked.prog.looks [] := by kernel_rfl
theorem cGoes : false = Rows.fixedwidthCellsRow.goesBy Tryz.pinned.checked.prog := by kernel_rfl
theorem cStand : (([9, 38] : List TypeId).all fun t => !Tryz.prog.wantsStandIn t) = true := by kernel_rfl
end Go.Proofs.YtedanlflegfomaaGreatDoor.fixedwidthCellsDone
