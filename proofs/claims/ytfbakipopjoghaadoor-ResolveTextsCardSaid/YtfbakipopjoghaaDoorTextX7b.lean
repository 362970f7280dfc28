/- A part of the proof for ResolveTextsCardSaid. -/
import Derived.Test.YtfbakipopjoghaaDoorTextX7
import Derived.Test.YtfbakipopjoghaaDoorTextXS
import Derived.Test.YtfbakipopjoghaaDoorTextX8b
set_option maxRecDepth 100000
set_option linter.unusedVariables false
set_option linter.unusedSimpArgs false
namespace Go.Proofs.YtfbakipopjoghaaDoor
open Go Go.Ab
attribute [local irreducible] vc

def wordsL : List (List UInt8) := [[], [110, 97, 109, 101], [100, 117, 112, 108, 105, 99, 97, 116, 101], [117, 110, 107, 110, 111, 119, 110], [107, 105, 110, 100], [102, 111, 114, 109], [101, 110, 100], [98, 101, 104, 105, 110, 100], [101, 120, 112, 114, 101, 115, 115, 105, 111, 110], [109, 97, 112, 112, 105, 110, 103], [115, 99, 104, 101, 109, 97], [102, 111, 114, 109, 97, 116], [117, 110, 100, 111], [117, 110, 114, 101, 97, 99, 104, 97, 98, 108, 101], [99, 121, 99, 108, 101], [99, 111, 109, 112, 108, 101, 116, 105, 111, 110], [108, 105, 109, 105, 116]]
theorem iaddrA_ptr {n sz r o : Nat} {k : IntKind} {i : Int} (h0 : 0 ≤ i) (h1 : i.toNat < n) : rIaddrA n sz (.ptr r o) (.pv (.int k i)) = some (.ptr r (o + i.toNat * sz)) := by
  simp [rIaddrA, h0, h1]
def wordT (n : Int) : List UInt8 := if 0 ≤ n then (wordsL[n.toNat]?).getD [] else []
set_option maxHeartbeats 1000000 in
theorem word32 (n : Int) : Pure Tryd.prog tabG 32 [.int .i64 n] (.str (wordT n)) := by
  refine Pure.intro F32_ok (by simp [F32]) ?_
  by_cases h0 : n < 0
  · have : wordT n = [] := if_neg (by omega)
    rw [this]
    simp (config := { maxSteps := 1000000 }) (disch := first | exact chk_rfl | (unfold Chk; decide +kernel) | omega | (simp only [cells_agg, List.length_cons, List.length_nil, List.length_map, List.length_take, List.length_append, Nat.zero_add, Nat.reduceAdd]; first | done | omega) | fail) only [F32o0, F32o1, F32o2, F32o3, F32o4, F32c, F32, push_cast, ↓reduceIte, Nat.reduceEqDiff, Nat.reduceAdd, Nat.reduceMul, Nat.reduceLeDiff, Nat.reduceLT, Nat.reduceBEq, Nat.reduceSub, Int.reduceToNat, Int.reduceNeg]
  by_cases h1 : 17 ≤ n
  · have h2 : wordsL[n.toNat]? = none := List.getElem?_eq_none (by simp [wordsL]; omega)
    have : wordT n = [] := by rw [wordT, if_pos (by omega), h2]; rfl
    rw [this]
    simp (config := { maxSteps := 1000000 }) (disch := first | exact chk_rfl | (unfold Chk; decide +kernel) | omega | (simp only [cells_agg, List.length_cons, List.length_nil, List.length_map, List.length_take, List.length_append, Nat.zero_add, Nat.reduceAdd]; first | done | omega) | fail) only [F32o0, F32o1, F32o2, F32o3, F32o4, F32c, F32, push_cast, ↓reduceIte, Nat.reduceEqDiff, Nat.reduceAdd, Nat.reduceMul, Nat.reduceLeDiff, Nat.reduceLT, Nat.reduceBEq, Nat.reduceSub, Int.reduceToNat, Int.reduceNeg]
  obtain ⟨k, rfl⟩ : ∃ k : Nat, n = k := ⟨n.toNat, by omega⟩
  have hk : k = 0 ∨ k = 1 ∨ k = 2 ∨ k = 3 ∨ k = 4 ∨ k = 5 ∨ k = 6 ∨ k = 7 ∨ k = 8 ∨ k = 9 ∨ k = 10 ∨ k = 11 ∨ k = 12 ∨ k = 13 ∨ k = 14 ∨ k = 15 ∨ k = 16 := by omega
  rcases hk with rfl | rfl | rfl | rfl | rfl | rfl | rfl | rfl | rfl | rfl | rfl | rfl | rfl | rfl | rfl | rfl | rfl <;> (
    simp (config := { maxSteps := 1000000 }) (disch := first | exact chk_rfl | (unfold Chk; decide +kernel) | omega | (simp only [cells_agg, List.length_cons, List.length_nil, List.length_map, List.length_take, List.length_append, Nat.zero_add, Nat.reduceAdd]; first | done | omega) | fail) only [F32o0, F32o1, F32o2, F32o3, F32o4, F32c, F32, iaddrA_ptr, List.getElem?_cons_succ, List.getElem?_cons_zero, push_cast, ↓reduceIte, Nat.reduceEqDiff, Nat.reduceAdd, Nat.reduceMul, Nat.reduceLeDiff, Nat.reduceLT, Nat.reduceBEq, Nat.reduceSub, Int.reduceToNat, Int.reduceNeg]
    first | done | exact .refl _)

/-- The texts that are not empty, with a blank between them. -/
def textT (p : Prb) : List UInt8 := joinT [32] (kept [p.route, placeT p.place, wordT p.code, p.name])
end Go.Proofs.YtfbakipopjoghaaDoor
