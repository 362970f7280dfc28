/- A part of the proof for DelimitedJoinsCardSaid. -/
import Derived.Test.YtbaaokocnegdoaaGreatDoorJoiV7
import Derived.Test.YtbaaokocnegdoaaGreatDoorJoiV8
set_option maxRecDepth 100000
set_option linter.unusedVariables false
set_option linter.unusedSimpArgs false
-- many steps
namespace Go.Proofs.YtbaaokocnegdoaaGreatDoor
open Go Go.Ab
open Nat renaming reduceEqDiff → qa, reduceAdd → qb, reduceMul → qc, reduceLeDiff → qd, reduceLT → qe, reduceBEq → qf, reduceSub → qg
open Int renaming reduceToNat → qh, reduceNeg → qi
attribute [local irreducible] vc
def hdJ (n : Int) (C : List Cel) : Nat × Bool × List UInt8 → St
  | (i, t, []) => ⟨[(1, .pv (.int .i64 n)), (6, .ptr 0 0), (21, .pv (.list (C.map celP))), (22, .pv (.int .i64 (C.length : Int))), (23, .pv (.int .i64 (i : Int)))], [(0, .cells 89 true [aB t, .pv .nils])], 1⟩
  | (i, t, b :: r) => ⟨[(1, .pv (.int .i64 n)), (6, .ptr 0 0), (21, .pv (.list (C.map celP))), (22, .pv (.int .i64 (C.length : Int))), (23, .pv (.int .i64 (i : Int)))], [(0, .cells 89 true [.ptr 0 0, .row 1 1 0 (r.length + 1)]), (1, .cells 5 false ((bytesP (b :: r)).map .pv))], 2⟩
def exJ (C : List Cel) : Bool × List UInt8 → St
  | (t, []) => ⟨[(6, .ptr 0 0)], [(0, .cells 89 true [aB t, .pv .nils])], 1⟩
  | (t, b :: r) => ⟨[(6, .ptr 0 0)], [(0, .cells 89 true [.ptr 0 0, .row 1 1 0 (r.length + 1)]), (1, .cells 5 false ((bytesP (b :: r)).map .pv))], 2⟩
end Go.Proofs.YtbaaokocnegdoaaGreatDoor
