/- A part of the proof for FitBackCardSaid. -/
import Derived.Test.YtikmckfppnmlnaaDoorBakYI
import Derived.Test.YtikmckfppnmlnaaDoorBakYG
set_option maxRecDepth 100000
set_option linter.unusedVariables false
set_option linter.unusedSimpArgs false
namespace Go.Proofs.YtikmckfppnmlnaaDoor
open Go Go.Ab
open Nat renaming reduceEqDiff → qa, reduceAdd → qb, reduceMul → qc, reduceLeDiff → qd, reduceLT → qe, reduceBEq → qf, reduceSub → qg
open Int renaming reduceToNat → qh, reduceNeg → qi
attribute [local irreducible] vc
def underT (p n : List UInt8) : List UInt8 := if p = [] then n else p ++ (46 :: n)
theorem under114 (p n : List UInt8) (hp : p.length ≤ 1000000) (hn : n.length ≤ 1000000) : Pure Tryd.prog tabG 114 [.str p, .str n] (.str (underT p n)) := by
  refine Pure.intro F114_ok (by simp [F114]) ?_
  by_cases h : p = []
  · rw [underT, if_pos h]
    simp (disch := first | exact dI | fail) only [F114o0, F114o1, F114o2, F114o3, F114c, F114, h, push_cast, ↓reduceIte, qa, qb, qc, qd, qe, qf, qg, qh, qi]
  · rw [underT, if_neg h]
    simp (disch := first | exact dI | fail) only [F114o0, F114o1, F114o2, F114o3, F114c, F114, h, push_cast, ↓reduceIte, qa, qb, qc, qd, qe, qf, qg, qh, qi]
def outM (mn mx : Int) (p : List UInt8) (n : Int) : List Mis := if n < mn ∨ mx < n then [.mk p 2] else []
theorem outM_t {mn mx n : Int} {p : List UInt8} (h : n < mn ∨ mx < n) : outM mn mx p n = [.mk p 2] := if_pos h
theorem outM_f {mn mx n : Int} {p : List UInt8} (h : ¬ (n < mn ∨ mx < n)) : outM mn mx p n = [] := if_neg h
end Go.Proofs.YtikmckfppnmlnaaDoor
