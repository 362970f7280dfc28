/- Two valid literals have the same text just when they are equal. -/
import Derived.Stop.LaidErr
import Derived.WalkKit
import Derived.Lib.LaidTab
import Derived.SevenTiedAt
import Derived.Test.YtamoeblcphjbaaaGreatDoorDiLA4g
import Derived.Test.YtamoeblcphjbaaaGreatDoorDiLT5E
import Derived.Test.YtamoeblcphjbaaaGreatDoorCards
import Derived.Test.YtamoeblcphjbaaaGreatDoorTie
set_option maxRecDepth 100000
set_option linter.unusedVariables false
set_option linter.unusedSimpArgs false
namespace Go.Proofs.YtamoeblcphjbaaaGreatDoor.literalDiffersDone
open Go Go.Ab Go.RowKit Go.ChangeShapes Go.WideShapes Go.ChangeAt
theorem Ck:Rows.LiteralDiffersSaid:=
 OpenClaim.holds_of_cond 7 Tryz.f7 rfl rfl rfl rfl rfl rfl rfl ⟨rfl,rfl,rfl,rfl,rfl⟩ rfl rfl rfl rfl rfl (by kernel_rfl) Tryz.func7 I0
  (of_decide_eq_true (by kernel_rfl)) (by unfold Func.isWrapper;first | (rw[if_pos (by decide +kernel)];kernel_rfl) | (rw[if_neg (by decide +kernel)];exact⟨rfl,rfl⟩))
  (fun os started H enc _ F=>by rw[OpenClaim.pre_eq_preRow];exact Gb os started H enc F)
theorem card:Rows.LiteralDiffersCardSaid:=
 Claim7.holds_tied_plain_at .later [] [.data,.data,.data,.data,.sentinel,.sentinel,.pinned] true (true, "7636b584a2e9c8b9f029b978eb79aa6cf462f64580768fb04d120eb6e3b97ae5") true
  Ck (fun _ h=>by cases h) cWf (fun _ h=>by cases h) literalDiffers_row_tie rfl ⟨rfl,rfl⟩ Je rfl
  (fun f fn hf hfn=>by
   obtain rfl:f=7:=Option.some.inj ((show Tryz.prog.funcNamed "manifold/manifoldlaw13.LiteralDiffers" = some 7 by kernel_rfl).symm.trans hf) |>.symm
   obtain rfl:fn=Tryz.f7:=(Option.some.inj (Tryz.func7.symm.trans hfn)).symm
   refine⟨GR,fun j t ht=>?_⟩
   rw[IT] at ht
   have h3:t∈[25,25]:=by
    have:=List.mem_of_getElem? (show ([25,25]:List TypeId)[j]? = some t by simpa using ht)
    exact this
   have hall:∀ t∈([25,25]:List TypeId),Tryz.prog.wantsStandIn t=false:=by
    have:=GQ
    intro t h
    have h1:=List.all_eq_true.1 this t h
    simpa using h1
   exact hall t h3)
  Jf
end Go.Proofs.YtamoeblcphjbaaaGreatDoor.literalDiffersDone
