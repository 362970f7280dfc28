/- A part. -/
import Derived.Stop.LaidErr
import Derived.WalkKit
import Derived.Lib.LaidTab
import Derived.SevenTiedAt
import Derived.Test.YtamoeblcphjbaaaGreatDoorTyLC1
import Derived.Test.YtamoeblcphjbaaaGreatDoorCards
import Derived.Test.YtamoeblcphjbaaaGreatDoorTie
set_option linter.unusedVariables false
set_option linter.unusedSimpArgs false
set_option maxHeartbeats 16000000
set_option maxRecDepth 100000
namespace Go.Proofs.YtamoeblcphjbaaaGreatDoor.literalTypesDone
open Go Go.Ab Go.RowKit Go.ChangeShapes Go.WideShapes Go.ChangeAt
theorem cWf:OpenClaim.wfByText (OpenSpec.ofChange Rows.literalTypesSpec) Rows.literalTypesRow=true:=by kernel_rfl
theorem UP:Tryz.pinned.checked.prog.mainIs=some (true,("7636b584a2e9c8b9f029b978eb79aa6cf462f64580768fb04d120eb6e3b97ae5" : String).toList):=by kernel_rfl
theorem Ss:true=Tryz.pinned.checked.prog.looks []:=by kernel_rfl
theorem UQ:false=Rows.literalTypesRow.goesBy Tryz.pinned.checked.prog:=by kernel_rfl
theorem Sr:(([48]:List TypeId).all fun t=>!Tryz.prog.wantsStandIn t)=true:=by kernel_rfl
theorem Uv:joinedFacts Tryz.pinned.checked.prog 11 Tryz.f11 (OpenSpec.ofChange Rows.literalTypesSpec).bare Rows.literalTypesRow=true:=by
 unfold joinedFacts
 repeat' (with_reducible refine Bool.and_eq_true_iff.2 ⟨?_,?_⟩)
 all_goals as_aux_lemma=>kernel_rfl
