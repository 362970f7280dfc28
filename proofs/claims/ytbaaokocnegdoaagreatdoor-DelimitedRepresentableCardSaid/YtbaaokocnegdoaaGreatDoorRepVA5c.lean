/- Representable agrees with the definition for any type of these sizes and any separator. -/
import Derived.Stop.LaidErr
import Derived.WalkKit
import Derived.Lib.LaidTab
import Derived.SevenTiedAt
import Derived.Test.YtbaaokocnegdoaaGreatDoorRepVA5g
import Derived.Test.YtbaaokocnegdoaaGreatDoorRepVT5
import Derived.Test.YtbaaokocnegdoaaGreatDoorCards
import Derived.Test.YtbaaokocnegdoaaGreatDoorTie
set_option maxRecDepth 100000
set_option linter.unusedVariables false
set_option linter.unusedSimpArgs false
namespace Go.Proofs.YtbaaokocnegdoaaGreatDoor.delimitedRepresentableDone
open Go Go.Ab Go.RowKit Go.ChangeShapes Go.WideShapes Go.ChangeAt
theorem Ga:Rows.DelimitedRepresentableSaid:=
 OpenClaim.holds_of_cond 4 Tryz.f4 rfl rfl rfl rfl rfl rfl rfl ⟨rfl,rfl,rfl,rfl,rfl⟩ rfl rfl rfl rfl rfl (by kernel_rfl) Tryz.func4 Na
  (of_decide_eq_true (by kernel_rfl)) (by unfold Func.isWrapper;first | (rw[if_pos (by decide +kernel)];kernel_rfl) | (rw[if_neg (by decide +kernel)];exact⟨rfl,rfl⟩))
  (fun os started H enc _ F=>by rw[OpenClaim.pre_eq_preRow];exact KB os started H enc F)
theorem card:Rows.DelimitedRepresentableCardSaid:=
 Claim7.holds_tied_plain_at .later [] [.data,.data,.data,.data,.sentinel,.sentinel,.pinned] true (true, "87a0c3881f4b07dad0aba2799d2ca88705f76fe095d6c873a6e93c638e930ea5") true
  Ga (fun _ h=>by cases h) cWf (fun _ h=>by cases h) delimitedRepresentable_row_tie rfl ⟨rfl,rfl⟩ No rfl
  (fun f fn hf hfn=>by
   obtain rfl:f=4:=Option.some.inj ((show Tryz.prog.funcNamed "manifold/manifoldlaw11.DelimitedRepresentable" = some 4 by kernel_rfl).symm.trans hf) |>.symm
   obtain rfl:fn=Tryz.f4:=(Option.some.inj (Tryz.func4.symm.trans hfn)).symm
   refine⟨Lj,fun j t ht=>?_⟩
   rw[M6] at ht
   have h3:t∈[26,3]:=by
    have:=List.mem_of_getElem? (show ([26,3]:List TypeId)[j]? = some t by simpa using ht)
    exact this
   have hall:∀ t∈([26,3]:List TypeId),Tryz.prog.wantsStandIn t=false:=by
    have:=Li
    intro t h
    have h1:=List.all_eq_true.1 this t h
    simpa using h1
   exact hall t h3)
  Np
end Go.Proofs.YtbaaokocnegdoaaGreatDoor.delimitedRepresentableDone
