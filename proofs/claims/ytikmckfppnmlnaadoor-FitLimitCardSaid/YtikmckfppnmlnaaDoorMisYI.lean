/- A part of the proof for FitMisfitsCardSaid. -/
import Derived.Test.YtikmckfppnmlnaaDoorMisYH

set_option maxRecDepth 100000
set_option linter.unusedVariables false
set_option linter.unusedSimpArgs false
namespace Go.Proofs.YtikmckfppnmlnaaDoor
open Go Go.Ab
open Nat (reduceEqDiff reduceAdd reduceMul reduceLeDiff reduceLT reduceSub)
attribute [local irreducible] vc

/-! ### what a finder does with a misfit: Misfits' list; Fits' answer -/
def stepM : Bool → List Mis → Mis → Bool × List Mis
  | true, l, _ => (true, l)
  | false, l, m => (!decide (l.length + 1 < 64), l ++ [m])
def addM : Bool → List Mis → List Mis → Bool × List Mis
  | d, l, [] => (d, l)
  | d, l, m :: r => addM (stepM d l m).1 (stepM d l m).2 r
def blkM (d : Bool) (l : List Mis) : List Blk := [.cells 120 true [.clo 55 [] [.ptr 1 0], .pv (.bool d)], .cells 65 true [.olist 2 2 (l.map Mis.pv)], .tok 71 2]
theorem cloM (l : List Mis) (m : Mis) (hl : l.length ≤ 100000) : Lent Tryd.prog tabG 1 55 [.pv m.pv, .ptr 0 0] [.cells 65 true [.olist 1 2 (l.map Mis.pv)], .tok 71 2] (.pv (.bool (decide (l.length + 1 < 64)))) [.cells 65 true [.olist 1 2 ((l ++ [m]).map Mis.pv)], .tok 71 2] := by
  obtain ⟨p, c⟩ := m
  refine Lent.intro F55_ok (by simp [F55]) ?_
  have hI : decide ((l.length : Int) + 1 < 64) = decide (l.length + 1 < 64) := by
    by_cases h : l.length + 1 < 64
    · rw [decide_eq_true h, decide_eq_true (by omega)]
    · rw [decide_eq_false h, decide_eq_false (by omega)]
  simp (maxSteps := 1000000) (disch := first | exact dI | fail) only [F55o0, F55o1, F55o2, F55c, F55, Mis.pv_mk, push_cast, ↓reduceIte, reduceEqDiff, reduceAdd, reduceMul, reduceLeDiff, reduceLT, Nat.reduceBEq, reduceSub, Int.reduceToNat, Int.reduceNeg]
  exact lent_z [] (by simp (maxSteps := 1000000) (disch := first | exact dI | fail) only [hI, List.map_append, List.length_append, Mis.pv_mk, push_cast, ↓reduceIte, reduceEqDiff, reduceAdd, reduceMul, reduceLeDiff, reduceLT, Nat.reduceBEq, reduceSub, Int.reduceToNat, Int.reduceNeg])
theorem add83M (d : Bool) (l : List Mis) (p : List UInt8) (c : Int) (hl : l.length ≤ 100000) : Lent Tryd.prog tabG 2 83 [.ptr 0 0, .pv (.str p), .pv (.int .i64 c)] (blkM d l) (.pv (.tup [])) (blkM (stepM d l (.mk p c)).1 (stepM d l (.mk p c)).2) := by
  have h55 := cloM l (.mk p c) hl
  rw [Mis.pv_mk] at h55
  refine Lent.intro F83_ok (by simp [F83]) ?_
  cases d with
  | true =>
    rw [stepM]
    simp (maxSteps := 1000000) (disch := first | exact dI | fail) only [F83o0, F83o1, F83c, F83, blkM, push_cast, ↓reduceIte, reduceEqDiff, reduceAdd, reduceMul, reduceLeDiff, reduceLT, Nat.reduceBEq, reduceSub, Int.reduceToNat, Int.reduceNeg]
    exact lent_z [] (by simp (maxSteps := 1000000) (disch := first | exact dI | fail) only [push_cast, ↓reduceIte, reduceEqDiff, reduceAdd, reduceMul, reduceLeDiff, reduceLT, Nat.reduceBEq, reduceSub, Int.reduceToNat, Int.reduceNeg])
  | false =>
    rw [stepM]
    simp (maxSteps := 1000000) (disch := first | exact dI | fail) only [F83o0, F83o1, F83c, F83, blkM, push_cast, ↓reduceIte, reduceEqDiff, reduceAdd, reduceMul, reduceLeDiff, reduceLT, Nat.reduceBEq, reduceSub, Int.reduceToNat, Int.reduceNeg]
    refine ACall.lentK h55 [1, 2] rfl (by simp (maxSteps := 1000000) (disch := first | exact dI | fail) only [push_cast, ↓reduceIte, reduceEqDiff, reduceAdd, reduceMul, reduceLeDiff, reduceLT, Nat.reduceBEq, reduceSub, Int.reduceToNat, Int.reduceNeg]) (by simp (maxSteps := 1000000) (disch := first | exact dI | fail) only [push_cast, ↓reduceIte, reduceEqDiff, reduceAdd, reduceMul, reduceLeDiff, reduceLT, Nat.reduceBEq, reduceSub, Int.reduceToNat, Int.reduceNeg]) ?_
    by_cases h : l.length + 1 < 64
    · simp (maxSteps := 1000000) (disch := first | exact dI | fail) only [decide_eq_true h, push_cast, ↓reduceIte, reduceEqDiff, reduceAdd, reduceMul, reduceLeDiff, reduceLT, Nat.reduceBEq, reduceSub, Int.reduceToNat, Int.reduceNeg]
      exact lent_z [] (by simp (maxSteps := 1000000) (disch := first | exact dI | fail) only [push_cast, ↓reduceIte, reduceEqDiff, reduceAdd, reduceMul, reduceLeDiff, reduceLT, Nat.reduceBEq, reduceSub, Int.reduceToNat, Int.reduceNeg])
    · simp (maxSteps := 1000000) (disch := first | exact dI | fail) only [decide_eq_false h, push_cast, ↓reduceIte, reduceEqDiff, reduceAdd, reduceMul, reduceLeDiff, reduceLT, Nat.reduceBEq, reduceSub, Int.reduceToNat, Int.reduceNeg]
      exact lent_z [] (by simp (maxSteps := 1000000) (disch := first | exact dI | fail) only [push_cast, ↓reduceIte, reduceEqDiff, reduceAdd, reduceMul, reduceLeDiff, reduceLT, Nat.reduceBEq, reduceSub, Int.reduceToNat, Int.reduceNeg])
end Go.Proofs.YtikmckfppnmlnaaDoor
