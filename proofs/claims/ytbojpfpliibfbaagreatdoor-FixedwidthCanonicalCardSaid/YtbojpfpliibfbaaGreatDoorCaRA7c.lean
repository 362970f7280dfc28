/- Lines are canonical, apart from blank defaults. -/
import Derived.Stop.LaidErr
import Derived.WalkKit
import Derived.Lib.LaidTab
import Derived.SevenTiedAt
import Derived.Test.YtbojpfpliibfbaaGreatDoorCaRA7g
import Derived.Test.YtbojpfpliibfbaaGreatDoorCards
import Derived.Test.YtbojpfpliibfbaaGreatDoorTie
set_option maxRecDepth 100000
set_option linter.unusedVariables false
set_option linter.unusedSimpArgs false
namespace Go.Proofs.YtbojpfpliibfbaaGreatDoor.fixedwidthCanonicalDone
open Go Go.Ab Go.RowKit Go.ChangeShapes Go.WideShapes Go.ChangeAt
theorem I0:Rows.FixedwidthCanonicalSaid:=
 OpenClaim.holds_of_cond 7 Tryz.f7 rfl rfl rfl rfl rfl rfl rfl ⟨rfl,rfl,rfl,rfl,rfl⟩ rfl rfl rfl rfl rfl (by kernel_rfl) Tryz.func7 Qy
  (of_decide_eq_true (by kernel_rfl)) (by unfold Func.isWrapper;first | (rw[if_pos (by decide +kernel)];kernel_rfl) | (rw[if_neg (by decide +kernel)];exact⟨rfl,rfl⟩))
  (fun os started H enc _ F=>by rw[OpenClaim.pre_eq_preRow];exact Nv os started H enc F)
theorem card:Rows.FixedwidthCanonicalCardSaid:=
 Claim7.holds_tied_plain_at .later [] [.data,.data,.data,.data,.sentinel,.sentinel,.pinned] true (true, "ff22e9ca7fcdac9ddf1f7474d6fa5be19ec68ac0866aa67f934d5f9c0d329f51") true
  I0 (fun _ h=>by cases h) cWf (fun _ h=>by cases h) fixedwidthCanonical_row_tie rfl ⟨rfl,rfl⟩ QS rfl
  (fun f fn hf hfn=>by
   obtain rfl:f=7:=Option.some.inj ((show Tryz.prog.funcNamed "manifold/manifoldlaw12.FixedwidthCanonical" = some 7 by kernel_rfl).symm.trans hf) |>.symm
   obtain rfl:fn=Tryz.f7:=(Option.some.inj (Tryz.func7.symm.trans hfn)).symm
   refine⟨OC,fun j t ht=>?_⟩
   rw[Qu] at ht
   have h3:t∈[26,27,9]:=by
    have:=List.mem_of_getElem? (show ([26,27,9]:List TypeId)[j]? = some t by simpa using ht)
    exact this
   have hall:∀ t∈([26,27,9]:List TypeId),Tryz.prog.wantsStandIn t=false:=by
    have:=OB
    intro t h
    have h1:=List.all_eq_true.1 this t h
    simpa using h1
   exact hall t h3)
  QT
end Go.Proofs.YtbojpfpliibfbaaGreatDoor.fixedwidthCanonicalDone
