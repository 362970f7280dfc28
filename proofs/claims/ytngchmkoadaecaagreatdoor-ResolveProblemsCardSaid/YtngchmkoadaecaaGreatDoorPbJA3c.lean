/- Problems returns the problems of the definition, in order, for any program. -/
import Derived.Stop.LaidErr
import Derived.WalkKit
import Derived.Lib.LaidTab
import Derived.SevenTiedAt
import Derived.Test.YtngchmkoadaecaaGreatDoorPbJA3g
import Derived.Test.YtngchmkoadaecaaGreatDoorCards
import Derived.Test.YtngchmkoadaecaaGreatDoorTie
set_option linter.unusedVariables false
set_option linter.unusedSimpArgs false
set_option maxRecDepth 100000
namespace Go.Proofs.YtngchmkoadaecaaGreatDoor.resolveProblemsDone
open Go Go.Ab Go.RowKit Go.ChangeShapes Go.WideShapes Go.ChangeAt
theorem L3:Rows.ResolveProblemsSaid:=
 OpenClaim.holds_of_cond 3 Tryz.f3 rfl rfl rfl rfl rfl rfl rfl ⟨rfl,rfl,rfl,rfl,rfl⟩ rfl rfl rfl rfl rfl (by kernel_rfl) Tryz.func3 Ux
  (of_decide_eq_true (by kernel_rfl)) (by unfold Func.isWrapper;first | (rw[if_pos (by decide +kernel)];kernel_rfl) | (rw[if_neg (by decide +kernel)];exact⟨rfl,rfl⟩))
  (fun os started H enc _ F=>by rw[OpenClaim.pre_eq_preRow];exact Rb os started H enc F)
theorem card:Rows.ResolveProblemsCardSaid:=
 Claim7.holds_tied_plain_at .later [] [.data,.data,.data,.data,.pinned] true (true, "572a9da4ff411a23f0c2564f0d1aec5890f687f78df10622adc428177dd27b0d") false
  L3 (fun _ h=>by cases h) cWf (fun _ h=>by cases h) resolveProblems_row_tie rfl ⟨rfl,rfl⟩ UR rfl
  (fun f fn hf hfn=>by
   obtain rfl:f=3:=Option.some.inj ((show Tryz.prog.funcNamed "manifold/manifoldlaw23.ResolveProblems" = some 3 by kernel_rfl).symm.trans hf) |>.symm
   obtain rfl:fn=Tryz.f3:=(Option.some.inj (Tryz.func3.symm.trans hfn)).symm
   refine⟨Sg,fun j t ht=>?_⟩
   rw[Ut] at ht
   have h3:t∈[27]:=by
    have:=List.mem_of_getElem? (show ([27]:List TypeId)[j]? = some t by simpa using ht)
    exact this
   have hall:∀ t∈([27]:List TypeId),Tryz.prog.wantsStandIn t=false:=by
    have:=Sf
    intro t h
    have h1:=List.all_eq_true.1 this t h
    simpa using h1
   exact hall t h3)
  US
end Go.Proofs.YtngchmkoadaecaaGreatDoor.resolveProblemsDone
