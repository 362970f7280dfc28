/- Blanks before and behind tokens do not change what a text denotes. -/
import Derived.Stop.LaidErr
import Derived.WalkKit
import Derived.Lib.LaidTab
import Derived.SevenTiedAt
import Derived.Test.YtamoeblcphjbaaaGreatDoorBlLA8g
import Derived.Test.YtamoeblcphjbaaaGreatDoorCards
import Derived.Test.YtamoeblcphjbaaaGreatDoorTie
set_option linter.unusedVariables false
set_option linter.unusedSimpArgs false
set_option maxRecDepth 100000
namespace Go.Proofs.YtamoeblcphjbaaaGreatDoor.literalBlanksDone
open Go Go.Ab Go.RowKit Go.ChangeShapes Go.WideShapes Go.ChangeAt
theorem Ko:Rows.LiteralBlanksSaid:=
 OpenClaim.holds_of_cond 10 Tryz.f10 rfl rfl rfl rfl rfl rfl rfl ⟨rfl,rfl,rfl,rfl,rfl⟩ rfl rfl rfl rfl rfl (by kernel_rfl) Tryz.func10 Sk
  (of_decide_eq_true (by kernel_rfl)) (by unfold Func.isWrapper;first | (rw[if_pos (by decide +kernel)];kernel_rfl) | (rw[if_neg (by decide +kernel)];exact⟨rfl,rfl⟩))
  (fun os started H enc _ F=>by rw[OpenClaim.pre_eq_preRow];exact Pp os started H enc F)
theorem card:Rows.LiteralBlanksCardSaid:=
 Claim7.holds_tied_plain_at .later [] [.data,.data,.data,.data,.sentinel,.sentinel,.pinned] true (true, "7636b584a2e9c8b9f029b978eb79aa6cf462f64580768fb04d120eb6e3b97ae5") true
  Ko (fun _ h=>by cases h) cWf (fun _ h=>by cases h) literalBlanks_row_tie rfl ⟨rfl,rfl⟩ SI rfl
  (fun f fn hf hfn=>by
   obtain rfl:f=10:=Option.some.inj ((show Tryz.prog.funcNamed "manifold/manifoldlaw13.LiteralBlanks" = some 10 by kernel_rfl).symm.trans hf) |>.symm
   obtain rfl:fn=Tryz.f10:=(Option.some.inj (Tryz.func10.symm.trans hfn)).symm
   refine⟨Qk,fun j t ht=>?_⟩
   rw[Se] at ht
   have h3:t∈[9,37]:=by
    have:=List.mem_of_getElem? (show ([9,37]:List TypeId)[j]? = some t by simpa using ht)
    exact this
   have hall:∀ t∈([9,37]:List TypeId),Tryz.prog.wantsStandIn t=false:=by
    have:=Qj
    intro t h
    have h1:=List.all_eq_true.1 this t h
    simpa using h1
   exact hall t h3)
  SJ
end Go.Proofs.YtamoeblcphjbaaaGreatDoor.literalBlanksDone
