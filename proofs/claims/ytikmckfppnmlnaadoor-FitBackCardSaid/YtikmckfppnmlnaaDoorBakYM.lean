/- A part of the proof for FitBackCardSaid. -/
import Derived.Test.YtikmckfppnmlnaaDoorBakYL
set_option maxRecDepth 100000
set_option linter.unusedVariables false
set_option linter.unusedSimpArgs false
namespace Go.Proofs.YtikmckfppnmlnaaDoor
open Go Go.Ab
open Nat renaming reduceEqDiff → qa, reduceAdd → qb, reduceMul → qc, reduceLeDiff → qd, reduceLT → qe, reduceBEq → qf, reduceSub → qg
open Int renaming reduceToNat → qh, reduceNeg → qi
attribute [local irreducible] vc
theorem formed10 {v : Val} (hk : v.kind = 10) (hf : formedV v = true) : v.lst.length = 1 := by
  obtain ⟨vk, vi, vs, vt, vl, vf⟩ := v
  simp only [Val.kind, Val.lst] at *
  subst hk
  simp [formedV] at hf
  omega
end Go.Proofs.YtikmckfppnmlnaaDoor
