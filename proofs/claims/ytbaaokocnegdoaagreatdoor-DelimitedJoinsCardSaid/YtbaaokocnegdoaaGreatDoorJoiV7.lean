/- A part of the proof for DelimitedJoinsCardSaid. -/
import Derived.Test.YtbaaokocnegdoaaGreatDoorJoiV6
set_option maxRecDepth 100000
set_option linter.unusedVariables false
set_option linter.unusedSimpArgs false
-- many steps
namespace Go.Proofs.YtbaaokocnegdoaaGreatDoor
open Go Go.Ab
open Nat renaming reduceEqDiff → qa, reduceAdd → qb, reduceMul → qc, reduceLeDiff → qd, reduceLT → qe, reduceBEq → qf, reduceSub → qg
open Int renaming reduceToNat → qh, reduceNeg → qi
attribute [local irreducible] vc
def celR (z : Cel × Nat) : PV := .agg [.str z.1.1, .bool z.1.2, .int .i64 (z.2 : Int)]
theorem special70 (c sep : UInt8) : Pure Tryz.prog tabG 70 [.int .u8 (c.toNat : Int), .int .i64 (sep.toNat : Int)] (.bool (c == sep || bad c)) := by
  have hc := c.toNat_lt
  have hw := wrap_i64 (n := (c.toNat : Int)) (by omega) (by omega)
  refine Pure.intro F70_ok (by simp [F70]) ?_
  by_cases h0 : c = sep
  · subst h0
    rw [show (c == c || bad c) = true by simp]
    simp (maxSteps := 1000000) (disch := first | exact dI | fail) only [F70o0, F70o1, F70c, F70, hw, push_cast, ↓reduceIte, qa, qb, qc, qd, qe, qf, qg, qh, qi]
  have n0 : ¬ ((c.toNat : Int) = (sep.toNat : Int)) := fun h => h0 ((u8n c sep).1 h)
  by_cases h1 : c = 34
  · subst h1
    rw [show ((34 : UInt8) == sep || bad 34) = true by simp [bad]]
    simp (maxSteps := 1000000) (disch := first | exact dI | fail) only [F70o0, F70o1, F70c, F70, hw, n0, push_cast, ↓reduceIte, qa, qb, qc, qd, qe, qf, qg, qh, qi]
  have n1 := ne34 h1
  by_cases h2 : c = 13
  · subst h2
    rw [show ((13 : UInt8) == sep || bad 13) = true by simp [bad]]
    simp (maxSteps := 1000000) (disch := first | exact dI | fail) only [F70o0, F70o1, F70c, F70, hw, n0, push_cast, ↓reduceIte, qa, qb, qc, qd, qe, qf, qg, qh, qi]
  have n2 := ne13 h2
  by_cases h3 : c = 10
  · subst h3
    rw [show ((10 : UInt8) == sep || bad 10) = true by simp [bad]]
    simp (maxSteps := 1000000) (disch := first | exact dI | fail) only [F70o0, F70o1, F70c, F70, hw, n0, push_cast, ↓reduceIte, qa, qb, qc, qd, qe, qf, qg, qh, qi]
  have n3 := ne10 h3
  rw [show (c == sep || bad c) = false by simp [bad, h0, h1, h2, h3]]
  simp (maxSteps := 1000000) (disch := first | exact dI | fail) only [F70o0, F70o1, F70c, F70, hw, n0, n1, n2, n3, push_cast, ↓reduceIte, qa, qb, qc, qd, qe, qf, qg, qh, qi]
theorem one_at {L : List UInt8} {q : Nat} {c : UInt8} (h : L[q]? = some c) : List.drop q (List.take (q + 1) L) = [c] := by
  rw [List.drop_take, drop_at h]; simp
end Go.Proofs.YtbaaokocnegdoaaGreatDoor
