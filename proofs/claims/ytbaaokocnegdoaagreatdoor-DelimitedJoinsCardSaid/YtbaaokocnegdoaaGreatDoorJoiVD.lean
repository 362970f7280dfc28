/- A part of the proof for DelimitedJoinsCardSaid. -/
import Derived.Test.YtbaaokocnegdoaaGreatDoorJoiVT3
import Derived.Test.YtbaaokocnegdoaaGreatDoorCore5
set_option maxRecDepth 100000
set_option linter.unusedVariables false
set_option linter.unusedSimpArgs false
namespace Go.Proofs.YtbaaokocnegdoaaGreatDoor
open Go Go.Ab
attribute [local irreducible] vc
theorem dI {P : Prop} (h : P := by first | exact chk_rfl | (unfold Chk; decide +kernel) | omega | exact chk_of (by with_unfolding_all rfl) | (simp [cells_agg] <;> omega) | fail) : P := h
theorem hasT_int {t : TypeId} {p : PV} {k : IntKind} (h : HasT Tryz.prog t p) (hu : Tryz.prog.underlying t = some (.int k)) : ∃ n : Int, p = .int k n ∧ (Lit.int k n).wf = true := by
  cases h with
  | int _ k' n hk hw => rw [hu] at hk; cases hk; exact ⟨n, rfl, hw⟩
  | bool _ b hb => rw [hu] at hb; cases hb
  | str _ s hb => rw [hu] at hb; cases hb
  | list _ e l hb => rw [hu] at hb; cases hb
  | agg _ fs cs hb => rw [hu] at hb; cases hb
  | arr _ e n cs hb => rw [hu] at hb; cases hb
end Go.Proofs.YtbaaokocnegdoaaGreatDoor
