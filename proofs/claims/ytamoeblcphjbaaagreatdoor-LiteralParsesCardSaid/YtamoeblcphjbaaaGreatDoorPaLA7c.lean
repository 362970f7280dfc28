/- Parse returns what the model returns for any text: the value, or the first error with its offset. -/
import Derived.Stop.LaidErr
import Derived.WalkKit
import Derived.Lib.LaidTab
import Derived.SevenTiedAt
import Derived.Test.YtamoeblcphjbaaaGreatDoorPaLA7g
import Derived.Test.YtamoeblcphjbaaaGreatDoorCards
import Derived.Test.YtamoeblcphjbaaaGreatDoorTie
set_option maxRecDepth 100000
set_option linter.unusedVariables false
set_option linter.unusedSimpArgs false
namespace Go.Proofs.YtamoeblcphjbaaaGreatDoor.literalParsesDone
open Go Go.Ab Go.RowKit Go.ChangeShapes Go.WideShapes Go.ChangeAt
theorem Ig:Rows.LiteralParsesSaid:=
 OpenClaim.holds_of_cond 9 Tryz.f9 rfl rfl rfl rfl rfl rfl rfl ⟨rfl,rfl,rfl,rfl,rfl⟩ rfl rfl rfl rfl rfl (by kernel_rfl) Tryz.func9 Rq
  (of_decide_eq_true (by kernel_rfl)) (by unfold Func.isWrapper;first | (rw[if_pos (by decide +kernel)];kernel_rfl) | (rw[if_neg (by decide +kernel)];exact⟨rfl,rfl⟩))
  (fun os started H enc _ F=>by rw[OpenClaim.pre_eq_preRow];exact NV os started H enc F)
theorem card:Rows.LiteralParsesCardSaid:=
 Claim7.holds_tied_plain_at .later [] [.data,.data,.data,.data,.sentinel,.sentinel,.pinned] true (true, "7636b584a2e9c8b9f029b978eb79aa6cf462f64580768fb04d120eb6e3b97ae5") true
  Ig (fun _ h=>by cases h) cWf (fun _ h=>by cases h) literalParses_row_tie rfl ⟨rfl,rfl⟩ RJ rfl
  (fun f fn hf hfn=>by
   obtain rfl:f=9:=Option.some.inj ((show Tryz.prog.funcNamed "manifold/manifoldlaw13.LiteralParses" = some 9 by kernel_rfl).symm.trans hf) |>.symm
   obtain rfl:fn=Tryz.f9:=(Option.some.inj (Tryz.func9.symm.trans hfn)).symm
   refine⟨OQ,fun j t ht=>?_⟩
   rw[Ri] at ht
   have h3:t∈[9]:=by
    have:=List.mem_of_getElem? (show ([9]:List TypeId)[j]? = some t by simpa using ht)
    exact this
   have hall:∀ t∈([9]:List TypeId),Tryz.prog.wantsStandIn t=false:=by
    have:=OP
    intro t h
    have h1:=List.all_eq_true.1 this t h
    simpa using h1
   exact hall t h3)
  RK
end Go.Proofs.YtamoeblcphjbaaaGreatDoor.literalParsesDone
