/- A part of the proof for FitReducesSameCardSaid. -/
import Derived.Test.YtikmckfppnmlnaaDoorSamYRw
set_option maxRecDepth 100000
set_option linter.unusedVariables false
set_option linter.unusedSimpArgs false
namespace Go.Proofs.YtikmckfppnmlnaaDoor
open Go Go.Ab
open Nat renaming reduceEqDiff → qa, reduceAdd → qb, reduceMul → qc, reduceLeDiff → qd, reduceLT → qe, reduceBEq → qf, reduceSub → qg
open Int renaming reduceToNat → qh, reduceNeg → qi
attribute [local irreducible] vc
theorem fldAll : ∀ l : List Fld, ((l.map Fld.pv).all fun y => y.cells.length == 7) = true
  | [] => rfl
  | x :: r => by rw [List.map_cons, List.all_cons, fldAll r, Fld.cells_len]; rfl
theorem flat_nil : flat [] = [] := rfl
theorem clone96 (l : List Fld) (hl : l.length ≤ 300) : Lent Tryd.prog tabG 0 96 [.pv (.list (l.map Fld.pv))] [] (.row 0 7 0 l.length) [.cells 127 false ((rowP l).map .pv)] := by
  refine Lent.intro F96_ok (by simp [F96]) ?_
  have hfl := rowP_flat l
  have hall := fldAll l
  cases l with
  | nil =>
    simp (disch := first | exact dI | fail) only [F96o0, F96o1, F96o2, F96o3, F96c, F96, List.map_nil, push_cast, ↓reduceIte, qa, qb, qc, qd, qe, qf, qg, qh, qi]
    intro b
    cases b with
    | true =>
      simp (disch := first | exact dI | fail) only [push_cast, ↓reduceIte, qa, qb, qc, qd, qe, qf, qg, qh, qi]
      exact lent_z [(0, 0, 1000127, 7)] (by simp (disch := first | exact dI | fail) only [rowP_nil, push_cast, ↓reduceIte, qa, qb, qc, qd, qe, qf, qg, qh, qi])
    | false =>
      simp (disch := first | exact dI | fail) only [List.length_nil, push_cast, ↓reduceIte, qa, qb, qc, qd, qe, qf, qg, qh, qi]
      exact lent_z [] (by simp (disch := first | exact dI | fail) only [rowP_nil, flat_nil, push_cast, ↓reduceIte, qa, qb, qc, qd, qe, qf, qg, qh, qi])
  | cons x r =>
    rw [List.map_cons] at hfl hall
    have hl2 : r.length + 1 ≤ 300 := hl
    simp (disch := first | exact dI | fail) only [F96o0, F96o1, F96o2, F96o3, F96c, F96, List.map_cons, hall, push_cast, ↓reduceIte, qa, qb, qc, qd, qe, qf, qg, qh, qi]
    exact lent_z [] (by simp (disch := first | exact dI | fail) only [hfl, push_cast, ↓reduceIte, qa, qb, qc, qd, qe, qf, qg, qh, qi])
end Go.Proofs.YtikmckfppnmlnaaDoor
