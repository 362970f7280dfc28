/- A part of the proof for FitBackCardSaid. -/
import Derived.Test.YtikmckfppnmlnaaDoorBakYN
set_option maxRecDepth 100000
set_option linter.unusedVariables false
set_option linter.unusedSimpArgs false
namespace Go.Proofs.YtikmckfppnmlnaaDoor
open Go Go.Ab
open Nat renaming reduceEqDiff → qa, reduceAdd → qb, reduceMul → qc, reduceLeDiff → qd, reduceLT → qe, reduceBEq → qf, reduceSub → qg
open Int renaming reduceToNat → qh, reduceNeg → qi
attribute [local irreducible] vc
def bnd : Nat → Nat
  | 0 => 1
  | n + 1 => 600 * bnd n
theorem flat_le {α β : Type} (F : α → List β) (B : Nat) : ∀ (l : List α), (∀ x ∈ l, (F x).length ≤ B) → (l.flatMap F).length ≤ l.length * B
  | [], _ => by simp
  | x :: r, h => by
    have h1 := h x (by simp)
    have h2 := flat_le F B r (fun y hy => h y (by simp [hy]))
    rw [List.flatMap_cons, List.length_append, List.length_cons, Nat.succ_mul]; omega
theorem flat_len {α β : Type} (F : α → List β) (B : Nat) {l : List α} (h : ∀ x ∈ l, (F x).length ≤ B) (hl : l.length ≤ 300) (m : Nat) : ((l.take m).flatMap F).length ≤ 300 * B := by
  have h1 := flat_le F B (l.take m) (fun x hx => h x (List.mem_of_mem_take hx))
  have h2 : (l.take m).length ≤ 300 := by rw [List.length_take]; omega
  have h3 := Nat.mul_le_mul_right B h2
  omega
section
variable {n : Nat} (ih : ∀ t v p, dep n v → tyOk n t → (missN n t v p).length ≤ bnd n)
include ih
end
end Go.Proofs.YtikmckfppnmlnaaDoor
