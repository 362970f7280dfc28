/- Split returns the cells of any line, or the listed error with its offset, as the definition does. -/
import Derived.Stop.LaidErr
import Derived.WalkKit
import Derived.Lib.LaidTab
import Derived.SevenTiedAt
import Derived.Test.YtbaaokocnegdoaaGreatDoorSplVA1
import Derived.Test.YtbaaokocnegdoaaGreatDoorSplVA1f
import Derived.Test.YtbaaokocnegdoaaGreatDoorSplVT5
import Derived.Test.YtbaaokocnegdoaaGreatDoorCards
import Derived.Test.YtbaaokocnegdoaaGreatDoorTie
set_option maxRecDepth 100000
set_option linter.unusedVariables false
set_option linter.unusedSimpArgs false
namespace Go.Proofs.YtbaaokocnegdoaaGreatDoor.delimitedSplitsDone
open Go Go.Ab Go.RowKit Go.ChangeShapes Go.WideShapes Go.ChangeAt
theorem said : Rows.DelimitedSplitsSaid :=
  OpenClaim.holds_of_cond 9 Tryz.f9 rfl rfl rfl rfl rfl rfl rfl ⟨rfl, rfl, rfl, rfl, rfl⟩ rfl rfl rfl rfl rfl (by kernel_rfl) Tryz.func9 facts
    (of_decide_eq_true (by kernel_rfl)) (by unfold Func.isWrapper; first | (rw [if_pos (by decide +kernel)]; kernel_rfl) | (rw [if_neg (by decide +kernel)]; exact ⟨rfl, rfl⟩))
    (fun os started H enc _ F => by rw [OpenClaim.pre_eq_preRow]; exact lifted os started H enc F)
theorem card : Rows.DelimitedSplitsCardSaid :=
  Claim7.holds_tied_plain_at .later [] [.data, .data, .data, .data, .sentinel, .sentinel, .pinned] true (true, "87a0c3881f4b07dad0aba2799d2ca88705f76fe095d6c873a6e93c638e930ea5") true
    said (fun _ h => by cases h) (by kernel_rfl) (fun _ h => by cases h) delimitedSplits_row_tie rfl ⟨rfl, rfl⟩ (by kernel_rfl) rfl
    (fun f fn hf hfn => by
      obtain rfl : f = 9 := Option.some.inj ((show Tryz.prog.funcNamed "manifold/manifoldlaw11.DelimitedSplits" = some 9 by kernel_rfl).symm.trans hf) |>.symm
      obtain rfl : fn = Tryz.f9 := (Option.some.inj (Tryz.func9.symm.trans hfn)).symm
      refine ⟨by kernel_rfl, fun j t ht => ?_⟩
      rw [hpar] at ht
      have h3 : t ∈ [9, 3] := by
        have := List.mem_of_getElem? (show ([9, 3] : List TypeId)[j]? = some t by simpa using ht)
        exact this
      have hall : ∀ t ∈ ([9, 3] : List TypeId), Tryz.prog.wantsStandIn t = false := by
        have : (([9, 3] : List TypeId).all fun t => !Tryz.prog.wantsStandIn t) = true := by kernel_rfl
        intro t h
        have h1 := List.all_eq_true.1 this t h
        simpa using h1
      exact hall t h3)
    (by kernel_rfl)
end Go.Proofs.YtbaaokocnegdoaaGreatDoor.delimitedSplitsDone
