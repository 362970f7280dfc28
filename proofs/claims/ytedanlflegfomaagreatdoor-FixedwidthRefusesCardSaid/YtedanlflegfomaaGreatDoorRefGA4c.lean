/- A field of texts refuses texts that end with a space or have control characters, and all others are written and read, for any text of up to 40 bytes. -/
import Derived.Stop.LaidErr
import Derived.WalkKit
import Derived.Lib.LaidTab
import Derived.SevenTiedAt
import Derived.Test.YtedanlflegfomaaGreatDoorRefGA4
import Derived.Test.YtedanlflegfomaaGreatDoorRefGA4g
import Derived.Test.YtedanlflegfomaaGreatDoorRefG7
import Derived.Test.YtedanlflegfomaaGreatDoorCards
import Derived.Test.YtedanlflegfomaaGreatDoorTie
set_option maxRecDepth 100000
set_option linter.unusedVariables false
set_option linter.unusedSimpArgs false
namespace Go.Proofs.YtedanlflegfomaaGreatDoor.fixedwidthRefusesDone
open Go Go.Ab Go.RowKit Go.ChangeShapes Go.WideShapes Go.ChangeAt
theorem B7:Rows.FixedwidthRefusesSaid:=
 OpenClaim.holds_of_cond 3 Tryz.f3 rfl rfl rfl rfl rfl rfl rfl ⟨rfl,rfl,rfl,rfl,rfl⟩ rfl rfl rfl rfl rfl (by kernel_rfl) Tryz.func3 IC
  (of_decide_eq_true (by kernel_rfl)) (by unfold Func.isWrapper;first | (rw[if_pos (by decide +kernel)];kernel_rfl) | (rw[if_neg (by decide +kernel)];exact⟨rfl,rfl⟩))
  (fun os started H enc _ F=>by rw[OpenClaim.pre_eq_preRow];exact FT os started H enc F)
theorem card:Rows.FixedwidthRefusesCardSaid:=
 Claim7.holds_tied_plain_at .later [] [.data,.data,.data,.data,.sentinel,.sentinel,.pinned] true (true, "a6f13ac26fcb78b41cd59b2fde913d3310214e06fc901beaf8ad3a2f7f75787e") true
  B7 (fun _ h=>by cases h) cWf (fun _ h=>by cases h) fixedwidthRefuses_row_tie rfl ⟨rfl,rfl⟩ IY rfl
  (fun f fn hf hfn=>by
   obtain rfl:f=3:=Option.some.inj ((show Tryz.prog.funcNamed "manifold/manifoldlaw12.FixedwidthRefuses" = some 3 by kernel_rfl).symm.trans hf) |>.symm
   obtain rfl:fn=Tryz.f3:=(Option.some.inj (Tryz.func3.symm.trans hfn)).symm
   refine⟨GF,fun j t ht=>?_⟩
   rw[Iw] at ht
   have h3:t∈[9]:=by
    have:=List.mem_of_getElem? (show ([9]:List TypeId)[j]? = some t by simpa using ht)
    exact this
   have hall:∀ t∈([9]:List TypeId),Tryz.prog.wantsStandIn t=false:=by
    have:=GE
    intro t h
    have h1:=List.all_eq_true.1 this t h
    simpa using h1
   exact hall t h3)
  IZ
end Go.Proofs.YtedanlflegfomaaGreatDoor.fixedwidthRefusesDone
