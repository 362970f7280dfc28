/- A part of the proof for CodecUsualCardSaid. -/
import Derived.Stop.LaidErr
import Derived.WalkKit
import Derived.Lib.LaidTab
import Derived.SevenTiedAt
import Derived.Test.YtfepkhlgopjaoaaGreatDoorUsKM8
import Derived.Test.YtfepkhlgopjaoaaGreatDoorCards
import Derived.Test.YtfepkhlgopjaoaaGreatDoorTie
set_option linter.unusedVariables false
set_option linter.unusedSimpArgs false
set_option maxRecDepth 100000
namespace Go.Proofs.YtfepkhlgopjaoaaGreatDoor.codecUsualDone
open Go Go.Ab Go.RowKit Go.ChangeShapes Go.WideShapes Go.ChangeAt
theorem cWf:OpenClaim.wfByText (OpenSpec.ofChange Rows.codecUsualSpec) Rows.codecUsualRow=true:=by kernel_rfl
theorem M4:Tryz.pinned.checked.prog.mainIs=some (true,("0094718a5d242608f78f13af5e343a3bf8a8237908a5a5ec63280cefaf41bc2b" : String).toList):=by kernel_rfl
theorem Kz:true=Tryz.pinned.checked.prog.looks []:=by kernel_rfl
theorem M5:false=Rows.codecUsualRow.goesBy Tryz.pinned.checked.prog:=by kernel_rfl
theorem Ky:(([3,31]:List TypeId).all fun t=>!Tryz.prog.wantsStandIn t)=true:=by kernel_rfl
end Go.Proofs.YtfepkhlgopjaoaaGreatDoor.codecUsualDone
