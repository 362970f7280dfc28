/- The order in which the fields of a valid record are written does not matter. -/
import Derived.Stop.LaidErr
import Derived.WalkKit
import Derived.Lib.LaidTab
import Derived.SevenTiedAt
import Derived.Test.YtamoeblcphjbaaaGreatDoorFlLA5g
import Derived.Test.YtamoeblcphjbaaaGreatDoorFlLT5
import Derived.Test.YtamoeblcphjbaaaGreatDoorCards
import Derived.Test.YtamoeblcphjbaaaGreatDoorTie
set_option maxRecDepth 100000
set_option linter.unusedVariables false
set_option linter.unusedSimpArgs false
namespace Go.Proofs.YtamoeblcphjbaaaGreatDoor.literalFieldsDone
open Go Go.Ab Go.RowKit Go.ChangeShapes Go.WideShapes Go.ChangeAt
theorem IP:Rows.LiteralFieldsSaid:=
 OpenClaim.holds_of_cond 6 Tryz.f6 rfl rfl rfl rfl rfl rfl rfl ⟨rfl,rfl,rfl,rfl,rfl⟩ rfl rfl rfl rfl rfl (by kernel_rfl) Tryz.func6 Rf
  (of_decide_eq_true (by kernel_rfl)) (by unfold Func.isWrapper;first | (rw[if_pos (by decide +kernel)];kernel_rfl) | (rw[if_neg (by decide +kernel)];exact⟨rfl,rfl⟩))
  (fun os started H enc _ F=>by rw[OpenClaim.pre_eq_preRow];exact NM os started H enc F)
theorem card:Rows.LiteralFieldsCardSaid:=
 Claim7.holds_tied_plain_at .later [] [.data,.data,.data,.data,.sentinel,.sentinel,.pinned] true (true, "7636b584a2e9c8b9f029b978eb79aa6cf462f64580768fb04d120eb6e3b97ae5") true
  IP (fun _ h=>by cases h) cWf (fun _ h=>by cases h) literalFields_row_tie rfl ⟨rfl,rfl⟩ Rw rfl
  (fun f fn hf hfn=>by
   obtain rfl:f=6:=Option.some.inj ((show Tryz.prog.funcNamed "manifold/manifoldlaw13.LiteralFields" = some 6 by kernel_rfl).symm.trans hf) |>.symm
   obtain rfl:fn=Tryz.f6:=(Option.some.inj (Tryz.func6.symm.trans hfn)).symm
   refine⟨Oq,fun j t ht=>?_⟩
   rw[Q7] at ht
   have h3:t∈[25,37]:=by
    have:=List.mem_of_getElem? (show ([25,37]:List TypeId)[j]? = some t by simpa using ht)
    exact this
   have hall:∀ t∈([25,37]:List TypeId),Tryz.prog.wantsStandIn t=false:=by
    have:=Oo
    intro t h
    have h1:=List.all_eq_true.1 this t h
    simpa using h1
   exact hall t h3)
  Rx
end Go.Proofs.YtamoeblcphjbaaaGreatDoor.literalFieldsDone
