/- A part of the proof for FitBackCardSaid. -/
import Derived.Test.YtikmckfppnmlnaaDoorBakYT3
import Derived.Test.YtikmckfppnmlnaaDoorBakYD
set_option maxRecDepth 100000
set_option linter.unusedVariables false
set_option linter.unusedSimpArgs false
namespace Go.Proofs.YtikmckfppnmlnaaDoor
open Go Go.Ab
open Nat renaming reduceEqDiff → qa, reduceAdd → qb, reduceMul → qc, reduceLeDiff → qd, reduceLT → qe, reduceBEq → qf, reduceSub → qg
open Int renaming reduceToNat → qh, reduceNeg → qi
attribute [local irreducible] vc
def accP (l : List UInt8) (a : Nat) : Nat → Nat
  | 0 => a
  | i + 1 => 64 * accP l a i + (byN l (i + 1) - 128)
end Go.Proofs.YtikmckfppnmlnaaDoor
