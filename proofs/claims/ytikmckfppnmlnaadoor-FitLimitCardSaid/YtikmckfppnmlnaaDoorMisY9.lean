/- A part of the proof for FitMisfitsCardSaid. -/
import Derived.Test.YtikmckfppnmlnaaDoorMisYTy
import Derived.Test.YtikmckfppnmlnaaDoorCore4
set_option maxRecDepth 100000
set_option linter.unusedVariables false
set_option linter.unusedSimpArgs false
namespace Go.Proofs.YtikmckfppnmlnaaDoor
open Go Go.Ab
open Nat (reduceEqDiff reduceAdd reduceMul reduceLeDiff reduceLT reduceSub)
attribute [local irreducible] vc

theorem index94 (l : List TFd) (g : Nat) (cs : List PV) (q : TFd → Bool) (hq : ∀ x ∈ l, Pure Tryd.prog tabG g (x.pv :: cs) (.bool (q x))) (hl : l.length ≤ 1000000000) :
    Pure Tryd.prog tabG 94 [.list (l.map TFd.pv), .clo g [] cs] (.int .i64 (fstI q l 0)) := by
  refine Pure.intro F94_ok (by simp [F94]) ?_
  simp (maxSteps := 1000000) (disch := first | exact dI | fail) only [F94o0, F94o1, F94o2, F94o3, F94o4, F94o5, F94o6, F94b7, F94o8, F94c, F94, push_cast, ↓reduceIte, reduceEqDiff, reduceAdd, reduceMul, reduceLeDiff, reduceLT, Nat.reduceBEq, reduceSub, Int.reduceToNat, Int.reduceNeg]
  refine vc_over ([]) (fun m : Nat => [(8, .pv (.int .i64 (m : Int)))]) (fun m => []) (fun m => m ≤ l.length ∧ fstI q l 0 = fstI q (l.drop m) m) (fun m => l.length - m) (0) ?_; intro e0 σ0 n0 h0; simp (maxSteps := 1000000) (disch := first | exact dI | fail) only [push_cast, ↓reduceIte, reduceEqDiff, reduceAdd, reduceMul, reduceLeDiff, reduceLT, Nat.reduceBEq, reduceSub, Int.reduceToNat, Int.reduceNeg] at h0; obtain ⟨rfl, rfl, rfl⟩ := h0; refine ⟨?_, ?_, ?_⟩
  · simp (maxSteps := 1000000) (disch := first | exact dI | fail) only [push_cast, ↓reduceIte, reduceEqDiff, reduceAdd, reduceMul, reduceLeDiff, reduceLT, Nat.reduceBEq, reduceSub, Int.reduceToNat, Int.reduceNeg]
  · exact ⟨by omega, by simp⟩
  · rintro m ⟨hm, he⟩
    by_cases hlt : m < l.length
    · have hltI : (m : Int) < l.length := by omega
      obtain ⟨x, hx⟩ : ∃ x, l[m]? = some x := ⟨_, List.getElem?_eq_getElem hlt⟩
      have hcall := hq x (List.mem_of_getElem? hx)
      simp (maxSteps := 1000000) (disch := first | exact dI | fail) only [hx, TFd.cells_len, TFd.isAgg, push_cast, ↓reduceIte, reduceEqDiff, reduceAdd, reduceMul, reduceLeDiff, reduceLT, Nat.reduceBEq, reduceSub, Int.reduceToNat, Int.reduceNeg]
      refine ACall.pure hcall (by exact pvs_pv (x.pv :: cs)) ?_
      cases hqx : q x with
      | true =>
        rw [he, fst_hit hx hqx]
        simp (maxSteps := 1000000) (disch := first | exact dI | fail) only [push_cast, ↓reduceIte, reduceEqDiff, reduceAdd, reduceMul, reduceLeDiff, reduceLT, Nat.reduceBEq, reduceSub, Int.reduceToNat, Int.reduceNeg]
      | false =>
        rw [fst_miss hx hqx] at he
        simp (maxSteps := 1000000) (disch := first | exact dI | fail) only [push_cast, ↓reduceIte, reduceEqDiff, reduceAdd, reduceMul, reduceLeDiff, reduceLT, Nat.reduceBEq, reduceSub, Int.reduceToNat, Int.reduceNeg]
        exact ⟨m + 1, hd_z (by simp (maxSteps := 1000000) (disch := first | exact dI | fail) only [push_cast, ↓reduceIte, reduceEqDiff, reduceAdd, reduceMul, reduceLeDiff, reduceLT, Nat.reduceBEq, reduceSub, Int.reduceToNat, Int.reduceNeg]), ⟨by omega, he⟩, by omega⟩
    · have hltI : ¬ (m : Int) < l.length := by omega
      rw [he, fst_end hlt]
      simp (maxSteps := 1000000) (disch := first | exact dI | fail) only [push_cast, ↓reduceIte, reduceEqDiff, reduceAdd, reduceMul, reduceLeDiff, reduceLT, Nat.reduceBEq, reduceSub, Int.reduceToNat, Int.reduceNeg]

theorem shortTF_typ (rec : Typ → Typ) (f : TFd) : (shortTF rec f).typ = rec f.typ := by
  obtain ⟨a, b, c, t, d⟩ := f; rfl
end Go.Proofs.YtikmckfppnmlnaaDoor
