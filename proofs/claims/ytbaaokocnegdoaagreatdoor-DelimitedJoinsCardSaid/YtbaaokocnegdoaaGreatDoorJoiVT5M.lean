/- A part of the proof for DelimitedJoinsCardSaid. -/
import Derived.Shelf.Vars
import Derived.Test.YtbaaokocnegdoaaGreatDoorJoiV17
import Derived.Test.YtbaaokocnegdoaaGreatDoorJoiVT3
import Derived.Test.YtbaaokocnegdoaaGreatDoorCore5
set_option maxRecDepth 100000
namespace Go.Proofs.YtbaaokocnegdoaaGreatDoor
open Go Go.Ab Go.Lib Go.Proofs
theorem globs_ofM {W : World} (hS : W.ShapedOpen Tryz.prog) (h3 : VarReads Tryz.prog W "internal/strconv.uint64pow10" (tabData .u64 pow10Tab)) : ∃ m, GlobOk (tabM m) W (immOf W) := by
  have h0 : ((begin Tryz.prog (fun _ _ => 0) default).world.heap[0]?).bind Obj.row? = some (#[.int .i64 0], 3) := by kernel_rfl
  have hg : 0 < Tryz.prog.globals.size := of_decide_eq_true (by kernel_rfl)
  obtain ⟨m, hm⟩ := cell_of_shapedOpen_int (P := Tryz.prog) (g := 0) (t := 3) (zero := #[.int .i64 0]) hS hg h0 rfl (by kernel_rfl) (by kernel_rfl) Tryz.underlying3
  obtain ⟨cs, hh, hs, _⟩ := hS.1 0 #[.int .i64 0] 3 hg h0
  refine ⟨m, globOk_of fun g hg => ?_⟩
  unfold tabM at hg ⊢
  by_cases e0 : g = 0
  · subst e0
    rw [if_pos rfl]
    refine ⟨⟨cs, 3, _, hh, by rw [hs]; rfl⟩, fun o p hp => ?_⟩
    cases o with
    | zero => cases hp; exact ⟨_, _, rfl, hm⟩
    | succ o => simp at hp
  rw [if_neg e0] at hg ⊢
  unfold tabG at hg ⊢
  by_cases e3 : g = 5
  · subst e3
    exact tabAt_ints (t := 281) (e := 213) (m := 20) h3 (by kernel_rfl) (by kernel_rfl) (by kernel_rfl) (by kernel_rfl) (by kernel_rfl) (by kernel_rfl) (by kernel_rfl)
  rw [if_neg e3] at hg
  exact absurd rfl hg
end Go.Proofs.YtbaaokocnegdoaaGreatDoor
