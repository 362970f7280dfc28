/- Cells agrees with the definition for any line of up to 10000 bytes and any up to 70 widths. -/
import Derived.Stop.LaidErr
import Derived.WalkKit
import Derived.Lib.LaidTab
import Derived.SevenTiedAt
import Derived.Test.YtedanlflegfomaaGreatDoorCelGA3
import Derived.Test.YtedanlflegfomaaGreatDoorCelGA3f
import Derived.Test.YtedanlflegfomaaGreatDoorCelGA3g
import Derived.Test.YtedanlflegfomaaGreatDoorCelGK12
import Derived.Test.YtedanlflegfomaaGreatDoorCards
import Derived.Test.YtedanlflegfomaaGreatDoorTie
set_option maxRecDepth 100000
set_option linter.unusedVariables false
set_option linter.unusedSimpArgs false
namespace Go.Proofs.YtedanlflegfomaaGreatDoor.fixedwidthCellsDone
open Go Go.Ab Go.RowKit Go.ChangeShapes Go.WideShapes Go.ChangeAt
theorem said : Rows.FixedwidthCellsSaid :=
 OpenClaim.holds_of_cond 4 Tryz.f4 rfl rfl rfl rfl rfl rfl rfl ⟨rfl, rfl, rfl, rfl, rfl⟩ rfl rfl rfl rfl rfl (by kernel_rfl) Tryz.func4 facts
  (of_decide_eq_true (by kernel_rfl)) (by unfold Func.isWrapper; first | (rw [if_pos (by decide +kernel)]; kernel_rfl) | (rw [if_neg (by decide +kernel)]; exact ⟨rfl, rfl⟩))
  (fun os started H enc _ F => by rw [OpenClaim.pre_eq_preRow]; exact lifted os started H enc F)
theorem card : Rows.FixedwidthCellsCardSaid :=
 Claim7.holds_tied_plain_at .later [] [.data, .data, .data, .data, .sentinel, .sentinel, .pinned] true (true, "a6f13ac26fcb78b41cd59b2fde913d3310214e06fc901beaf8ad3a2f7f75787e") true
  said (fun _ h => by cases h) cWf (fun _ h => by cases h) fixedwidthCells_row_tie rfl ⟨rfl, rfl⟩ cMain rfl
  (fun f fn hf hfn => by
   obtain rfl : f = 4 := Option.some.inj ((show Tryz.prog.funcNamed "manifold/manifoldlaw12.FixedwidthCells" = some 4 by kernel_rfl).symm.trans hf) |>.symm
   obtain rfl : fn = Tryz.f4 := (Option.some.inj (Tryz.func4.symm.trans hfn)).symm
   refine ⟨cLooks, fun j t ht => ?_⟩
   rw [hpar] at ht
   have h3 : t ∈ [9, 38] := by
    have := List.mem_of_getElem? (show ([9, 38] : List TypeId)[j]? = some t by simpa using ht)
    exact this
   have hall : ∀ t ∈ ([9, 38] : List TypeId), Tryz.prog.wantsStandIn t = false := by
    have := cStand
    intro t h
    have h1 := List.all_eq_true.1 this t h
    simpa using h1
   exact hall t h3)
  cGoes
end Go.Proofs.YtedanlflegfomaaGreatDoor.fixedwidthCellsDone
