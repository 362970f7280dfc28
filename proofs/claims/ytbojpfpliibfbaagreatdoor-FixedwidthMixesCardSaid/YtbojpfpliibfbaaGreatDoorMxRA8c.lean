/- Cells are independent. -/
import Derived.Stop.LaidErr
import Derived.WalkKit
import Derived.Lib.LaidTab
import Derived.SevenTiedAt
import Derived.Test.YtbojpfpliibfbaaGreatDoorMxRA8g
import Derived.Test.YtbojpfpliibfbaaGreatDoorCards
import Derived.Test.YtbojpfpliibfbaaGreatDoorTie
set_option maxRecDepth 100000
set_option linter.unusedVariables false
set_option linter.unusedSimpArgs false
namespace Go.Proofs.YtbojpfpliibfbaaGreatDoor.fixedwidthMixesDone
open Go Go.Ab Go.RowKit Go.ChangeShapes Go.WideShapes Go.ChangeAt
theorem Nd:Rows.FixedwidthMixesSaid:=
 OpenClaim.holds_of_cond 8 Tryz.f8 rfl rfl rfl rfl rfl rfl rfl ⟨rfl,rfl,rfl,rfl,rfl⟩ rfl rfl rfl rfl rfl (by kernel_rfl) Tryz.func8 R6
  (of_decide_eq_true (by kernel_rfl)) (by unfold Func.isWrapper;first | (rw[if_pos (by decide +kernel)];kernel_rfl) | (rw[if_neg (by decide +kernel)];exact⟨rfl,rfl⟩))
  (fun os started H enc _ F=>by rw[OpenClaim.pre_eq_preRow];exact OY os started H enc F)
theorem card:Rows.FixedwidthMixesCardSaid:=
 Claim7.holds_tied_plain_at .later [] [.data,.data,.data,.data,.sentinel,.sentinel,.pinned] true (true, "ff22e9ca7fcdac9ddf1f7474d6fa5be19ec68ac0866aa67f934d5f9c0d329f51") true
  Nd (fun _ h=>by cases h) cWf (fun _ h=>by cases h) fixedwidthMixes_row_tie rfl ⟨rfl,rfl⟩ Sw rfl
  (fun f fn hf hfn=>by
   obtain rfl:f=8:=Option.some.inj ((show Tryz.prog.funcNamed "manifold/manifoldlaw12.FixedwidthMixes" = some 8 by kernel_rfl).symm.trans hf) |>.symm
   obtain rfl:fn=Tryz.f8:=(Option.some.inj (Tryz.func8.symm.trans hfn)).symm
   refine⟨Qc,fun j t ht=>?_⟩
   rw[R0] at ht
   have h3:t∈[26,50,5]:=by
    have:=List.mem_of_getElem? (show ([26,50,5]:List TypeId)[j]? = some t by simpa using ht)
    exact this
   have hall:∀ t∈([26,50,5]:List TypeId),Tryz.prog.wantsStandIn t=false:=by
    have:=Qb
    intro t h
    have h1:=List.all_eq_true.1 this t h
    simpa using h1
   exact hall t h3)
  Sx
end Go.Proofs.YtbojpfpliibfbaaGreatDoor.fixedwidthMixesDone
