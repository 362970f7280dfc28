/- A part of the proof for FitBackCardSaid. -/
import Derived.Test.YtikmckfppnmlnaaDoorBakYZ2
set_option maxRecDepth 100000
set_option linter.unusedVariables false
set_option linter.unusedSimpArgs false
namespace Go.Proofs.YtikmckfppnmlnaaDoor
open Go Go.Ab
open Nat renaming reduceEqDiff → qa, reduceAdd → qb, reduceMul → qc, reduceLeDiff → qd, reduceLT → qe, reduceBEq → qf, reduceSub → qg
open Int renaming reduceToNat → qh, reduceNeg → qi
attribute [local irreducible] vc
theorem flt_del {α : Type} {l : List α} {m : Nat} {x : α} {p : α → Bool} (h : l[m]? = some x) (hp : p x = false) : (l.take (m + 1)).filter p = (l.take m).filter p := by
  rw [take_snoc h]; simp [hp]
theorem flt_keep {α : Type} {l : List α} {m : Nat} {x : α} {p : α → Bool} (h : l[m]? = some x) (hp : p x = true) : (l.take (m + 1)).filter p = (l.take m).filter p ++ [x] := by
  rw [take_snoc h]; simp [hp]
end Go.Proofs.YtikmckfppnmlnaaDoor
