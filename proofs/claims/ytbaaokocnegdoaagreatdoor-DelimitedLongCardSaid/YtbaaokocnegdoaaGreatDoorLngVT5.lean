/- A part of the proof for DelimitedLongCardSaid. -/
import Derived.Test.YtbaaokocnegdoaaGreatDoorLngVT3
import Derived.Test.YtbaaokocnegdoaaGreatDoorCore5
set_option maxRecDepth 100000
namespace Go.Proofs.YtbaaokocnegdoaaGreatDoor
open Go Go.Ab Go.Lib Go.Proofs
theorem globs_of {W : World} (h3 : VarReads Tryz.prog W "internal/strconv.uint64pow10" (tabData .u64 pow10Tab)) : GlobOk tabG W (immOf W) := by
  refine globOk_of fun g hg => ?_
  unfold tabG at hg ⊢
  by_cases e3 : g = 5
  · subst e3
    exact tabAt_ints (t := 281) (e := 213) (m := 20) h3 (by kernel_rfl) (by kernel_rfl) (by kernel_rfl) (by kernel_rfl) (by kernel_rfl) (by kernel_rfl) (by kernel_rfl)
  rw [if_neg e3] at hg
  exact absurd rfl hg
end Go.Proofs.YtbaaokocnegdoaaGreatDoor
