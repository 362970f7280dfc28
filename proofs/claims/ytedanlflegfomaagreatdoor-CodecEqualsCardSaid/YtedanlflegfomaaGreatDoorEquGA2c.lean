/- Equal compares all fields of any two formats with up to 70 widths. -/
import Derived.Stop.LaidErr
import Derived.WalkKit
import Derived.Lib.LaidTab
import Derived.SevenTiedAt
import Derived.Test.YtedanlflegfomaaGreatDoorEquGA2
import Derived.Test.YtedanlflegfomaaGreatDoorEquGA2f
import Derived.Test.YtedanlflegfomaaGreatDoorEquGA2g
import Derived.Test.YtedanlflegfomaaGreatDoorEquG3
import Derived.Test.YtedanlflegfomaaGreatDoorCards
import Derived.Test.YtedanlflegfomaaGreatDoorTie
set_option maxRecDepth 100000
set_option linter.unusedVariables false
set_option linter.unusedSimpArgs false
namespace Go.Proofs.YtedanlflegfomaaGreatDoor.codecEqualsDone
open Go Go.Ab Go.RowKit Go.ChangeShapes Go.WideShapes Go.ChangeAt
theorem said : Rows.CodecEqualsSaid :=
 OpenClaim.holds_of_cond 6 Tryz.f6 rfl rfl rfl rfl rfl rfl rfl ⟨rfl, rfl, rfl, rfl, rfl⟩ rfl rfl rfl rfl rfl (by kernel_rfl) Tryz.func6 facts
  (of_decide_eq_true (by kernel_rfl)) (by unfold Func.isWrapper; first | (rw [if_pos (by decide +kernel)]; kernel_rfl) | (rw [if_neg (by decide +kernel)]; exact ⟨rfl, rfl⟩))
  (fun os started H enc _ F => by rw [OpenClaim.pre_eq_preRow]; exact lifted os started H enc F)
theorem card : Rows.CodecEqualsCardSaid :=
 Claim7.holds_tied_plain_at .later [] [.data, .data, .data, .data, .pinned] true (true, "a6f13ac26fcb78b41cd59b2fde913d3310214e06fc901beaf8ad3a2f7f75787e") true
  said (fun _ h => by cases h) cWf (fun _ h => by cases h) codecEquals_row_tie rfl ⟨rfl, rfl⟩ cMain rfl
  (fun f fn hf hfn => by
   obtain rfl : f = 6 := Option.some.inj ((show Tryz.prog.funcNamed "manifold/manifoldlaw14.CodecEquals" = some 6 by kernel_rfl).symm.trans hf) |>.symm
   obtain rfl : fn = Tryz.f6 := (Option.some.inj (Tryz.func6.symm.trans hfn)).symm
   refine ⟨cLooks, fun j t ht => ?_⟩
   rw [hpar] at ht
   have h3 : t ∈ [56, 56] := by
    have := List.mem_of_getElem? (show ([56, 56] : List TypeId)[j]? = some t by simpa using ht)
    exact this
   have hall : ∀ t ∈ ([56, 56] : List TypeId), Tryz.prog.wantsStandIn t = false := by
    have := cStand
    intro t h
    have h1 := List.all_eq_true.1 this t h
    simpa using h1
   exact hall t h3)
  cGoes
end Go.Proofs.YtedanlflegfomaaGreatDoor.codecEqualsDone
