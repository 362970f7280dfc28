/- What Encode writes, Decode reads back; it says no where the value does not fit. -/
import Derived.Stop.LaidErr
import Derived.WalkKit
import Derived.Lib.LaidTab
import Derived.SevenTiedAt
import Derived.Test.YtbaaokocnegdoaaGreatDoorEnVA6g
import Derived.Test.YtbaaokocnegdoaaGreatDoorCards
import Derived.Test.YtbaaokocnegdoaaGreatDoorTie
set_option linter.unusedVariables false
set_option linter.unusedSimpArgs false
set_option maxRecDepth 100000
namespace Go.Proofs.YtbaaokocnegdoaaGreatDoor.delimitedEncodesDone
open Go Go.Ab Go.RowKit Go.ChangeShapes Go.WideShapes Go.ChangeAt
theorem LB:Rows.DelimitedEncodesSaid:=
 OpenClaim.holds_of_cond 5 Tryz.f5 rfl rfl rfl rfl rfl rfl rfl ⟨rfl,rfl,rfl,rfl,rfl⟩ rfl rfl rfl rfl rfl (by kernel_rfl) Tryz.func5 S8
  (of_decide_eq_true (by kernel_rfl)) (by unfold Func.isWrapper;first | (rw[if_pos (by decide +kernel)];kernel_rfl) | (rw[if_neg (by decide +kernel)];exact⟨rfl,rfl⟩))
  (fun os started H enc _ F=>by rw[OpenClaim.pre_eq_preRow];exact P9 os started H enc F)
theorem card:Rows.DelimitedEncodesCardSaid:=
 Claim7.holds_tied_plain_at .later [] [.data,.data,.data,.data,.sentinel,.sentinel,.pinned] true (true, "87a0c3881f4b07dad0aba2799d2ca88705f76fe095d6c873a6e93c638e930ea5") true
  LB (fun _ h=>by cases h) cWf (fun _ h=>by cases h) delimitedEncodes_row_tie rfl ⟨rfl,rfl⟩ TC rfl
  (fun f fn hf hfn=>by
   obtain rfl:f=5:=Option.some.inj ((show Tryz.prog.funcNamed "manifold/manifoldlaw11.DelimitedEncodes" = some 5 by kernel_rfl).symm.trans hf) |>.symm
   obtain rfl:fn=Tryz.f5:=(Option.some.inj (Tryz.func5.symm.trans hfn)).symm
   refine⟨Q8,fun j t ht=>?_⟩
   rw[SZ] at ht
   have h3:t∈[26,31,3]:=by
    have:=List.mem_of_getElem? (show ([26,31,3]:List TypeId)[j]? = some t by simpa using ht)
    exact this
   have hall:∀ t∈([26,31,3]:List TypeId),Tryz.prog.wantsStandIn t=false:=by
    have:=Q7
    intro t h
    have h1:=List.all_eq_true.1 this t h
    simpa using h1
   exact hall t h3)
  TD
end Go.Proofs.YtbaaokocnegdoaaGreatDoor.delimitedEncodesDone
