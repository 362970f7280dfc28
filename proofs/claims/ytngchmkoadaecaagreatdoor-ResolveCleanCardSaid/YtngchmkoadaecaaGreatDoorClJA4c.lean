/- In a program without problems all names differ, all names that are used are known, and all routes are finished. -/
import Derived.Stop.LaidErr
import Derived.WalkKit
import Derived.Lib.LaidTab
import Derived.SevenTiedAt
import Derived.Test.YtngchmkoadaecaaGreatDoorClJA4
import Derived.Test.YtngchmkoadaecaaGreatDoorClJA4g
import Derived.Test.YtngchmkoadaecaaGreatDoorCards
import Derived.Test.YtngchmkoadaecaaGreatDoorTie
set_option linter.unusedVariables false
set_option linter.unusedSimpArgs false
set_option maxRecDepth 100000
namespace Go.Proofs.YtngchmkoadaecaaGreatDoor.resolveCleanDone
open Go Go.Ab Go.RowKit Go.ChangeShapes Go.WideShapes Go.ChangeAt
theorem JT:Rows.ResolveCleanSaid:=
 OpenClaim.holds_of_cond 4 Tryz.f4 rfl rfl rfl rfl rfl rfl rfl ⟨rfl,rfl,rfl,rfl,rfl⟩ rfl rfl rfl rfl rfl (by kernel_rfl) Tryz.func4 R0
  (of_decide_eq_true (by kernel_rfl)) (by unfold Func.isWrapper;first | (rw[if_pos (by decide +kernel)];kernel_rfl) | (rw[if_neg (by decide +kernel)];exact⟨rfl,rfl⟩))
  (fun os started H enc _ F=>by rw[OpenClaim.pre_eq_preRow];exact OX os started H enc F)
theorem card:Rows.ResolveCleanCardSaid:=
 Claim7.holds_tied_plain_at .later [] [.data,.data,.data,.data,.pinned] true (true, "572a9da4ff411a23f0c2564f0d1aec5890f687f78df10622adc428177dd27b0d") false
  JT (fun _ h=>by cases h) cWf (fun _ h=>by cases h) resolveClean_row_tie rfl ⟨rfl,rfl⟩ Sk rfl
  (fun f fn hf hfn=>by
   obtain rfl:f=4:=Option.some.inj ((show Tryz.prog.funcNamed "manifold/manifoldlaw23.ResolveClean" = some 4 by kernel_rfl).symm.trans hf) |>.symm
   obtain rfl:fn=Tryz.f4:=(Option.some.inj (Tryz.func4.symm.trans hfn)).symm
   refine⟨P2,fun j t ht=>?_⟩
   rw[RW] at ht
   have h3:t∈[27]:=by
    have:=List.mem_of_getElem? (show ([27]:List TypeId)[j]? = some t by simpa using ht)
    exact this
   have hall:∀ t∈([27]:List TypeId),Tryz.prog.wantsStandIn t=false:=by
    have:=P1
    intro t h
    have h1:=List.all_eq_true.1 this t h
    simpa using h1
   exact hall t h3)
  Sl
end Go.Proofs.YtngchmkoadaecaaGreatDoor.resolveCleanDone
