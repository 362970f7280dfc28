/- For any format with up to 70 widths and any schema with a type of up to 200 types, Check and Representable return the first error. -/
import Derived.Stop.LaidErr
import Derived.WalkKit
import Derived.Lib.LaidTab
import Derived.SevenTiedAt
import Derived.Test.YtfepkhlgopjaoaaGreatDoorCkKA1g
import Derived.Test.YtfepkhlgopjaoaaGreatDoorCkKT5
import Derived.Test.YtfepkhlgopjaoaaGreatDoorCards
import Derived.Test.YtfepkhlgopjaoaaGreatDoorTie
set_option linter.unusedVariables false
set_option linter.unusedSimpArgs false
set_option maxRecDepth 100000
namespace Go.Proofs.YtfepkhlgopjaoaaGreatDoor.codecChecksDone
open Go Go.Ab Go.RowKit Go.ChangeShapes Go.WideShapes Go.ChangeAt
theorem EE:Rows.CodecChecksSaid:=
 OpenClaim.holds_of_cond 3 Tryz.f3 rfl rfl rfl rfl rfl rfl rfl ⟨rfl,rfl,rfl,rfl,rfl⟩ rfl rfl rfl rfl rfl (by kernel_rfl) Tryz.func3 Ml
  (of_decide_eq_true (by kernel_rfl)) (by unfold Func.isWrapper;first | (rw[if_pos (by decide +kernel)];kernel_rfl) | (rw[if_neg (by decide +kernel)];exact⟨rfl,rfl⟩))
  (fun os started H enc _ F=>by rw[OpenClaim.pre_eq_preRow];exact Je os started H enc F)
theorem card:Rows.CodecChecksCardSaid:=
 Claim7.holds_tied_plain_at .later [] [.data,.data,.data,.data,.pinned] true (true, "0094718a5d242608f78f13af5e343a3bf8a8237908a5a5ec63280cefaf41bc2b") true
  EE (fun _ h=>by cases h) cWf (fun _ h=>by cases h) codecChecks_row_tie rfl ⟨rfl,rfl⟩ MA rfl
  (fun f fn hf hfn=>by
   obtain rfl:f=3:=Option.some.inj ((show Tryz.prog.funcNamed "manifold/manifoldlaw14.CodecChecks" = some 3 by kernel_rfl).symm.trans hf) |>.symm
   obtain rfl:fn=Tryz.f3:=(Option.some.inj (Tryz.func3.symm.trans hfn)).symm
   refine⟨J2,fun j t ht=>?_⟩
   rw[Mg] at ht
   have h3:t∈[24,31]:=by
    have:=List.mem_of_getElem? (show ([24,31]:List TypeId)[j]? = some t by simpa using ht)
    exact this
   have hall:∀ t∈([24,31]:List TypeId),Tryz.prog.wantsStandIn t=false:=by
    have:=J1
    intro t h
    have h1:=List.all_eq_true.1 this t h
    simpa using h1
   exact hall t h3)
  MB
end Go.Proofs.YtfepkhlgopjaoaaGreatDoor.codecChecksDone
