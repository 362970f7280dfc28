/- A part of the proof for FitMisfitsCardSaid. -/
import Derived.Test.YtikmckfppnmlnaaDoorMisYI
import Derived.Test.YtikmckfppnmlnaaDoorMisYG
set_option maxRecDepth 100000
set_option linter.unusedVariables false
set_option linter.unusedSimpArgs false
namespace Go.Proofs.YtikmckfppnmlnaaDoor
open Go Go.Ab
open Nat (reduceEqDiff reduceAdd reduceMul reduceLeDiff reduceLT reduceSub)
attribute [local irreducible] vc

/-- The path of a field. -/
def underT (p n : List UInt8) : List UInt8 := if p = [] then n else p ++ (46 :: n)
theorem under114 (p n : List UInt8) (hp : p.length ≤ 1000000) (hn : n.length ≤ 1000000) : Pure Tryd.prog tabG 114 [.str p, .str n] (.str (underT p n)) := by
  refine Pure.intro F114_ok (by simp [F114]) ?_
  by_cases h : p = []
  · rw [underT, if_pos h]
    simp (maxSteps := 1000000) (disch := first | exact dI | fail) only [F114o0, F114o1, F114o2, F114o3, F114c, F114, h, push_cast, ↓reduceIte, reduceEqDiff, reduceAdd, reduceMul, reduceLeDiff, reduceLT, Nat.reduceBEq, reduceSub, Int.reduceToNat, Int.reduceNeg]
  · rw [underT, if_neg h]
    simp (maxSteps := 1000000) (disch := first | exact dI | fail) only [F114o0, F114o1, F114o2, F114o3, F114c, F114, h, push_cast, ↓reduceIte, reduceEqDiff, reduceAdd, reduceMul, reduceLeDiff, reduceLT, Nat.reduceBEq, reduceSub, Int.reduceToNat, Int.reduceNeg]
theorem join93 (p n : List UInt8) (hp : p.length ≤ 1000000) (hn : n.length ≤ 1000000) : Pure Tryd.prog tabG 93 [.str p, .str n] (.str (underT p n)) := by
  refine Pure.intro F93_ok (by simp [F93]) ?_
  by_cases h : p = []
  · rw [underT, if_pos h]
    simp (maxSteps := 1000000) (disch := first | exact dI | fail) only [F93o0, F93o1, F93o2, F93o3, F93c, F93, h, push_cast, ↓reduceIte, reduceEqDiff, reduceAdd, reduceMul, reduceLeDiff, reduceLT, Nat.reduceBEq, reduceSub, Int.reduceToNat, Int.reduceNeg]
  · rw [underT, if_neg h]
    simp (maxSteps := 1000000) (disch := first | exact dI | fail) only [F93o0, F93o1, F93o2, F93o3, F93c, F93, h, push_cast, ↓reduceIte, reduceEqDiff, reduceAdd, reduceMul, reduceLeDiff, reduceLT, Nat.reduceBEq, reduceSub, Int.reduceToNat, Int.reduceNeg]
/-- The misfits of a number out of bounds. -/
def outM (mn mx : Int) (p : List UInt8) (n : Int) : List Mis := if n < mn ∨ mx < n then [.mk p 2] else []
theorem outM_t {mn mx n : Int} {p : List UInt8} (h : n < mn ∨ mx < n) : outM mn mx p n = [.mk p 2] := if_pos h
theorem outM_f {mn mx n : Int} {p : List UInt8} (h : ¬ (n < mn ∨ mx < n)) : outM mn mx p n = [] := if_neg h
theorem addM_one (d : Bool) (l : List Mis) (m : Mis) : addM d l [m] = stepM d l m := rfl
theorem addM_nil (d : Bool) (l : List Mis) : addM d l [] = (d, l) := rfl
theorem addM_app : ∀ (a b : List Mis) (d : Bool) (l : List Mis), addM d l (a ++ b) = addM (addM d l a).1 (addM d l a).2 b
  | [], b, d, l => rfl
  | m :: r, b, d, l => by rw [List.cons_append, addM, addM_app r b, addM]
theorem addM_true : ∀ (a : List Mis) (l : List Mis), addM true l a = (true, l)
  | [], l => rfl
  | m :: r, l => by rw [addM, stepM]; exact addM_true r l
theorem out85M (d : Bool) (l : List Mis) (t : Typ) (p : List UInt8) (n : Int) (hl : l.length ≤ 100000) (R : Bool × List Mis) (hR : R = addM d l (outM t.min t.max p n)) :
    Lent Tryd.prog tabG 2 85 [.ptr 0 0, .pv t.pv, .pv (.str p), .pv (.int .i64 n)] (blkM d l) (.pv (.tup [])) (blkM R.1 R.2) := by
  have h83 := add83M d l p 2 hl
  obtain ⟨k, m, M, s, w, e, f⟩ := t
  simp only [Typ.min, Typ.max] at hR
  refine Lent.intro F85_ok (by simp [F85]) ?_
  unfold blkM at h83 ⊢
  by_cases h1 : n < m
  · rw [outM_t (.inl h1), addM_one] at hR
    rw [← hR] at h83
    simp (maxSteps := 1000000) (disch := first | exact dI | fail) only [F85o0, F85o1, F85o2, F85c, F85, Typ.pv_mk, push_cast, ↓reduceIte, reduceEqDiff, reduceAdd, reduceMul, reduceLeDiff, reduceLT, Nat.reduceBEq, reduceSub, Int.reduceToNat, Int.reduceNeg]
    refine ACall.lentK h83 [0, 1, 2] rfl (by simp (maxSteps := 1000000) (disch := first | exact dI | fail) only [push_cast, ↓reduceIte, reduceEqDiff, reduceAdd, reduceMul, reduceLeDiff, reduceLT, Nat.reduceBEq, reduceSub, Int.reduceToNat, Int.reduceNeg]) (by simp (maxSteps := 1000000) (disch := first | exact dI | fail) only [push_cast, ↓reduceIte, reduceEqDiff, reduceAdd, reduceMul, reduceLeDiff, reduceLT, Nat.reduceBEq, reduceSub, Int.reduceToNat, Int.reduceNeg]) ?_
    simp (maxSteps := 1000000) (disch := first | exact dI | fail) only [push_cast, ↓reduceIte, reduceEqDiff, reduceAdd, reduceMul, reduceLeDiff, reduceLT, Nat.reduceBEq, reduceSub, Int.reduceToNat, Int.reduceNeg]
    exact lent_z [] (by simp (maxSteps := 1000000) (disch := first | exact dI | fail) only [push_cast, ↓reduceIte, reduceEqDiff, reduceAdd, reduceMul, reduceLeDiff, reduceLT, Nat.reduceBEq, reduceSub, Int.reduceToNat, Int.reduceNeg])
  · by_cases h2 : M < n
    · rw [outM_t (.inr h2), addM_one] at hR
      rw [← hR] at h83
      simp (maxSteps := 1000000) (disch := first | exact dI | fail) only [F85o0, F85o1, F85o2, F85c, F85, Typ.pv_mk, push_cast, ↓reduceIte, reduceEqDiff, reduceAdd, reduceMul, reduceLeDiff, reduceLT, Nat.reduceBEq, reduceSub, Int.reduceToNat, Int.reduceNeg]
      refine ACall.lentK h83 [0, 1, 2] rfl (by simp (maxSteps := 1000000) (disch := first | exact dI | fail) only [push_cast, ↓reduceIte, reduceEqDiff, reduceAdd, reduceMul, reduceLeDiff, reduceLT, Nat.reduceBEq, reduceSub, Int.reduceToNat, Int.reduceNeg]) (by simp (maxSteps := 1000000) (disch := first | exact dI | fail) only [push_cast, ↓reduceIte, reduceEqDiff, reduceAdd, reduceMul, reduceLeDiff, reduceLT, Nat.reduceBEq, reduceSub, Int.reduceToNat, Int.reduceNeg]) ?_
      simp (maxSteps := 1000000) (disch := first | exact dI | fail) only [push_cast, ↓reduceIte, reduceEqDiff, reduceAdd, reduceMul, reduceLeDiff, reduceLT, Nat.reduceBEq, reduceSub, Int.reduceToNat, Int.reduceNeg]
      exact lent_z [] (by simp (maxSteps := 1000000) (disch := first | exact dI | fail) only [push_cast, ↓reduceIte, reduceEqDiff, reduceAdd, reduceMul, reduceLeDiff, reduceLT, Nat.reduceBEq, reduceSub, Int.reduceToNat, Int.reduceNeg])
    · rw [outM_f (fun h => h.elim h1 h2), addM_nil] at hR
      subst hR
      simp (maxSteps := 1000000) (disch := first | exact dI | fail) only [F85o0, F85o1, F85o2, F85c, F85, Typ.pv_mk, push_cast, ↓reduceIte, reduceEqDiff, reduceAdd, reduceMul, reduceLeDiff, reduceLT, Nat.reduceBEq, reduceSub, Int.reduceToNat, Int.reduceNeg]
      exact lent_z [] (by simp (maxSteps := 1000000) (disch := first | exact dI | fail) only [push_cast, ↓reduceIte, reduceEqDiff, reduceAdd, reduceMul, reduceLeDiff, reduceLT, Nat.reduceBEq, reduceSub, Int.reduceToNat, Int.reduceNeg])
end Go.Proofs.YtikmckfppnmlnaaDoor
