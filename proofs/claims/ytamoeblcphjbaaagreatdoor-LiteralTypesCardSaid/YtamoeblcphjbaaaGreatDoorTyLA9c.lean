/- TypeText returns the canonical text of any type, and ParseType reads it. -/
import Derived.Stop.LaidErr
import Derived.WalkKit
import Derived.Lib.LaidTab
import Derived.SevenTiedAt
import Derived.Test.YtamoeblcphjbaaaGreatDoorTyLA9
import Derived.Test.YtamoeblcphjbaaaGreatDoorTyLA9g
import Derived.Test.YtamoeblcphjbaaaGreatDoorCards
import Derived.Test.YtamoeblcphjbaaaGreatDoorTie
set_option linter.unusedVariables false
set_option linter.unusedSimpArgs false
set_option maxRecDepth 100000
namespace Go.Proofs.YtamoeblcphjbaaaGreatDoor.literalTypesDone
open Go Go.Ab Go.RowKit Go.ChangeShapes Go.WideShapes Go.ChangeAt
theorem MM:Rows.LiteralTypesSaid:=
 OpenClaim.holds_of_cond 11 Tryz.f11 rfl rfl rfl rfl rfl rfl rfl ⟨rfl,rfl,rfl,rfl,rfl⟩ rfl rfl rfl rfl rfl (by kernel_rfl) Tryz.func11 Uv
  (of_decide_eq_true (by kernel_rfl)) (by unfold Func.isWrapper;first | (rw[if_pos (by decide +kernel)];kernel_rfl) | (rw[if_neg (by decide +kernel)];exact⟨rfl,rfl⟩))
  (fun os started H enc _ F=>by rw[OpenClaim.pre_eq_preRow];exact Rx os started H enc F)
theorem card:Rows.LiteralTypesCardSaid:=
 Claim7.holds_tied_plain_at .later [] [.data,.data,.data,.data,.sentinel,.sentinel,.pinned] true (true, "7636b584a2e9c8b9f029b978eb79aa6cf462f64580768fb04d120eb6e3b97ae5") true
  MM (fun _ h=>by cases h) cWf (fun _ h=>by cases h) literalTypes_row_tie rfl ⟨rfl,rfl⟩ UP rfl
  (fun f fn hf hfn=>by
   obtain rfl:f=11:=Option.some.inj ((show Tryz.prog.funcNamed "manifold/manifoldlaw13.LiteralTypes" = some 11 by kernel_rfl).symm.trans hf) |>.symm
   obtain rfl:fn=Tryz.f11:=(Option.some.inj (Tryz.func11.symm.trans hfn)).symm
   refine⟨Ss,fun j t ht=>?_⟩
   rw[Un] at ht
   have h3:t∈[48]:=by
    have:=List.mem_of_getElem? (show ([48]:List TypeId)[j]? = some t by simpa using ht)
    exact this
   have hall:∀ t∈([48]:List TypeId),Tryz.prog.wantsStandIn t=false:=by
    have:=Sr
    intro t h
    have h1:=List.all_eq_true.1 this t h
    simpa using h1
   exact hall t h3)
  UQ
end Go.Proofs.YtamoeblcphjbaaaGreatDoor.literalTypesDone
