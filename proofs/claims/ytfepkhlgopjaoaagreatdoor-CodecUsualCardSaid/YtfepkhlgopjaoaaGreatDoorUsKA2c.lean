/- For any kind and any schema with a type of up to 200 types, Usual returns a format in which the messages can be written, or the first error. -/
import Derived.Stop.LaidErr
import Derived.WalkKit
import Derived.Lib.LaidTab
import Derived.SevenTiedAt
import Derived.Test.YtfepkhlgopjaoaaGreatDoorUsKA2
import Derived.Test.YtfepkhlgopjaoaaGreatDoorUsKA2g
import Derived.Test.YtfepkhlgopjaoaaGreatDoorUsKM8
import Derived.Test.YtfepkhlgopjaoaaGreatDoorCards
import Derived.Test.YtfepkhlgopjaoaaGreatDoorTie
set_option linter.unusedVariables false
set_option linter.unusedSimpArgs false
set_option maxRecDepth 100000
namespace Go.Proofs.YtfepkhlgopjaoaaGreatDoor.codecUsualDone
open Go Go.Ab Go.RowKit Go.ChangeShapes Go.WideShapes Go.ChangeAt
theorem E8:Rows.CodecUsualSaid:=
 OpenClaim.holds_of_cond 8 Tryz.f8 rfl rfl rfl rfl rfl rfl rfl ⟨rfl,rfl,rfl,rfl,rfl⟩ rfl rfl rfl rfl rfl (by kernel_rfl) Tryz.func8 MO
  (of_decide_eq_true (by kernel_rfl)) (by unfold Func.isWrapper;first | (rw[if_pos (by decide +kernel)];kernel_rfl) | (rw[if_neg (by decide +kernel)];exact⟨rfl,rfl⟩))
  (fun os started H enc _ F=>by rw[OpenClaim.pre_eq_preRow];exact JM os started H enc F)
theorem card:Rows.CodecUsualCardSaid:=
 Claim7.holds_tied_plain_at .later [] [.data,.data,.data,.data,.pinned] true (true, "0094718a5d242608f78f13af5e343a3bf8a8237908a5a5ec63280cefaf41bc2b") true
  E8 (fun _ h=>by cases h) cWf (fun _ h=>by cases h) codecUsual_row_tie rfl ⟨rfl,rfl⟩ M4 rfl
  (fun f fn hf hfn=>by
   obtain rfl:f=8:=Option.some.inj ((show Tryz.prog.funcNamed "manifold/manifoldlaw14.CodecUsual" = some 8 by kernel_rfl).symm.trans hf) |>.symm
   obtain rfl:fn=Tryz.f8:=(Option.some.inj (Tryz.func8.symm.trans hfn)).symm
   refine⟨Kz,fun j t ht=>?_⟩
   rw[MI] at ht
   have h3:t∈[3,31]:=by
    have:=List.mem_of_getElem? (show ([3,31]:List TypeId)[j]? = some t by simpa using ht)
    exact this
   have hall:∀ t∈([3,31]:List TypeId),Tryz.prog.wantsStandIn t=false:=by
    have:=Ky
    intro t h
    have h1:=List.all_eq_true.1 this t h
    simpa using h1
   exact hall t h3)
  M5
end Go.Proofs.YtfepkhlgopjaoaaGreatDoor.codecUsualDone
