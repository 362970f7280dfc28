/- Name and Find return the names and kinds, or the errors, for any kind and any name. -/
import Derived.Stop.LaidErr
import Derived.WalkKit
import Derived.Lib.LaidTab
import Derived.SevenTiedAt
import Derived.Test.YtedanlflegfomaaGreatDoorNamGA1
import Derived.Test.YtedanlflegfomaaGreatDoorNamGA1f
import Derived.Test.YtedanlflegfomaaGreatDoorNamGA1g
import Derived.Test.YtedanlflegfomaaGreatDoorNamG1
import Derived.Test.YtedanlflegfomaaGreatDoorCards
import Derived.Test.YtedanlflegfomaaGreatDoorTie
set_option maxRecDepth 100000
set_option linter.unusedVariables false
set_option linter.unusedSimpArgs false
namespace Go.Proofs.YtedanlflegfomaaGreatDoor.codecNamesDone
open Go Go.Ab Go.RowKit Go.ChangeShapes Go.WideShapes Go.ChangeAt
theorem said : Rows.CodecNamesSaid :=
 OpenClaim.holds_of_cond 5 Tryz.f5 rfl rfl rfl rfl rfl rfl rfl ⟨rfl, rfl, rfl, rfl, rfl⟩ rfl rfl rfl rfl rfl (by kernel_rfl) Tryz.func5 facts
  (of_decide_eq_true (by kernel_rfl)) (by unfold Func.isWrapper; first | (rw [if_pos (by decide +kernel)]; kernel_rfl) | (rw [if_neg (by decide +kernel)]; exact ⟨rfl, rfl⟩))
  (fun os started H enc _ F => by rw [OpenClaim.pre_eq_preRow]; exact lifted os started H enc F)
theorem card : Rows.CodecNamesCardSaid :=
 Claim7.holds_tied_plain_at .later [] [.data, .data, .data, .data, .pinned] true (true, "a6f13ac26fcb78b41cd59b2fde913d3310214e06fc901beaf8ad3a2f7f75787e") true
  said (fun _ h => by cases h) cWf (fun _ h => by cases h) codecNames_row_tie rfl ⟨rfl, rfl⟩ cMain rfl
  (fun f fn hf hfn => by
   obtain rfl : f = 5 := Option.some.inj ((show Tryz.prog.funcNamed "manifold/manifoldlaw14.CodecNames" = some 5 by kernel_rfl).symm.trans hf) |>.symm
   obtain rfl : fn = Tryz.f5 := (Option.some.inj (Tryz.func5.symm.trans hfn)).symm
   refine ⟨cLooks, fun j t ht => ?_⟩
   rw [hpar] at ht
   have h3 : t ∈ [3, 9] := by
    have := List.mem_of_getElem? (show ([3, 9] : List TypeId)[j]? = some t by simpa using ht)
    exact this
   have hall : ∀ t ∈ ([3, 9] : List TypeId), Tryz.prog.wantsStandIn t = false := by
    have := cStand
    intro t h
    have h1 := List.all_eq_true.1 this t h
    simpa using h1
   exact hall t h3)
  cGoes
end Go.Proofs.YtedanlflegfomaaGreatDoor.codecNamesDone
