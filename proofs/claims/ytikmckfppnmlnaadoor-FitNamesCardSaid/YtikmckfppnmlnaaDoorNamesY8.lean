/- A part of the proof for FitNamesCardSaid. -/
import Derived.Test.YtikmckfppnmlnaaDoorNamesYT3
import Derived.Test.YtikmckfppnmlnaaDoorNamesYD
set_option maxRecDepth 100000
set_option linter.unusedVariables false
set_option linter.unusedSimpArgs false
namespace Go.Proofs.YtikmckfppnmlnaaDoor
open Go Go.Ab
attribute [local irreducible] vc

def namesL : List (List UInt8) := [[], [107, 105, 110, 100], [114, 97, 110, 103, 101], [115, 99, 97, 108, 101], [119, 111, 114, 100], [109, 105, 115, 115, 105, 110, 103], [117, 110, 107, 110, 111, 119, 110], [99, 97, 115, 101], [105, 110, 118, 97, 108, 105, 100]]
theorem iaddrA_ptr {n sz r o : Nat} {k : IntKind} {i : Int} (h0 : 0 ≤ i) (h1 : i.toNat < n) : rIaddrA n sz (.ptr r o) (.pv (.int k i)) = some (.ptr r (o + i.toNat * sz)) := by
  simp [rIaddrA, h0, h1]
def nameT (n : Int) : List UInt8 := if 0 ≤ n then (namesL[n.toNat]?).getD [] else []
theorem nameT_len (c : Int) : (nameT c).length ≤ 20 := by
  unfold nameT
  split
  · cases h : namesL[c.toNat]? with
    | none => simp
    | some x =>
      have := List.mem_of_getElem? h
      have hall : ∀ x ∈ namesL, x.length ≤ 20 := by decide
      exact hall x this
  · simp
theorem name29 (n : Int) : Pure Tryd.prog tabG 29 [.int .i64 n] (.str (nameT n)) := by
  refine Pure.intro F29_ok (by simp [F29]) ?_
  by_cases h0 : n < 0
  · have : nameT n = [] := if_neg (by omega)
    rw [this]
    simp (config := { maxSteps := 1000000 }) (disch := first | exact chk_rfl | (unfold Chk; decide +kernel) | (refine chk_of ?_; with_unfolding_all rfl) | omega | (simp only [cells_agg, List.length_cons, List.length_nil, List.length_map, List.length_take, List.length_append, Nat.zero_add, Nat.reduceAdd]; first | done | omega) | fail) only [F29o0, F29o1, F29o2, F29o3, F29o4, F29c, F29, push_cast, ↓reduceIte, Nat.reduceEqDiff, Nat.reduceAdd, Nat.reduceMul, Nat.reduceLeDiff, Nat.reduceLT, Nat.reduceBEq, Nat.reduceSub, Int.reduceToNat, Int.reduceNeg]
  by_cases h1 : 9 ≤ n
  · have h2 : namesL[n.toNat]? = none := List.getElem?_eq_none (by simp [namesL]; omega)
    have : nameT n = [] := by rw [nameT, if_pos (by omega), h2]; rfl
    rw [this]
    simp (config := { maxSteps := 1000000 }) (disch := first | exact chk_rfl | (unfold Chk; decide +kernel) | (refine chk_of ?_; with_unfolding_all rfl) | omega | (simp only [cells_agg, List.length_cons, List.length_nil, List.length_map, List.length_take, List.length_append, Nat.zero_add, Nat.reduceAdd]; first | done | omega) | fail) only [F29o0, F29o1, F29o2, F29o3, F29o4, F29c, F29, push_cast, ↓reduceIte, Nat.reduceEqDiff, Nat.reduceAdd, Nat.reduceMul, Nat.reduceLeDiff, Nat.reduceLT, Nat.reduceBEq, Nat.reduceSub, Int.reduceToNat, Int.reduceNeg]
  obtain ⟨k, rfl⟩ : ∃ k : Nat, n = k := ⟨n.toNat, by omega⟩
  have hk : k = 0 ∨ k = 1 ∨ k = 2 ∨ k = 3 ∨ k = 4 ∨ k = 5 ∨ k = 6 ∨ k = 7 ∨ k = 8 := by omega
  rcases hk with rfl | rfl | rfl | rfl | rfl | rfl | rfl | rfl | rfl <;> (
    simp (config := { maxSteps := 1000000 }) (disch := first | exact chk_rfl | (unfold Chk; decide +kernel) | (refine chk_of ?_; with_unfolding_all rfl) | omega | (simp only [cells_agg, List.length_cons, List.length_nil, List.length_map, List.length_take, List.length_append, Nat.zero_add, Nat.reduceAdd]; first | done | omega) | fail) only [F29o0, F29o1, F29o2, F29o3, F29o4, F29c, F29, iaddrA_ptr, List.getElem?_cons_succ, List.getElem?_cons_zero, push_cast, ↓reduceIte, Nat.reduceEqDiff, Nat.reduceAdd, Nat.reduceMul, Nat.reduceLeDiff, Nat.reduceLT, Nat.reduceBEq, Nat.reduceSub, Int.reduceToNat, Int.reduceNeg]
    first | done | exact .refl _)

def textT (p : List UInt8) (c : Int) : List UInt8 := if p = [] then nameT c else p ++ [58, 32] ++ nameT c
theorem text30 (p : List UInt8) (c : Int) (hp : p.length ≤ 1000) : Pure Tryd.prog tabG 30 [(Mis.mk p c).pv] (.str (textT p c)) := by
  have hl := nameT_len c
  refine Pure.intro F30_ok (by simp [F30]) ?_
  by_cases h : p = []
  · rw [textT, if_pos h]
    simp (config := { maxSteps := 1000000 }) (disch := first | exact chk_rfl | (unfold Chk; decide +kernel) | (refine chk_of ?_; with_unfolding_all rfl) | omega | (simp only [cells_agg, List.length_cons, List.length_nil, List.length_map, List.length_take, List.length_append, Nat.zero_add, Nat.reduceAdd]; first | done | omega) | fail) only [F30o0, F30o1, F30o2, F30o3, F30p3, F30c, F30, Mis.pv_mk, h, push_cast, ↓reduceIte, Nat.reduceEqDiff, Nat.reduceAdd, Nat.reduceMul, Nat.reduceLeDiff, Nat.reduceLT, Nat.reduceBEq, Nat.reduceSub, Int.reduceToNat, Int.reduceNeg]
    refine ACall.pure (name29 c) rfl ?_
    simp (config := { maxSteps := 1000000 }) (disch := first | exact chk_rfl | (unfold Chk; decide +kernel) | (refine chk_of ?_; with_unfolding_all rfl) | omega | (simp only [cells_agg, List.length_cons, List.length_nil, List.length_map, List.length_take, List.length_append, Nat.zero_add, Nat.reduceAdd]; first | done | omega) | fail) only [push_cast, ↓reduceIte, Nat.reduceEqDiff, Nat.reduceAdd, Nat.reduceMul, Nat.reduceLeDiff, Nat.reduceLT, Nat.reduceBEq, Nat.reduceSub, Int.reduceToNat, Int.reduceNeg]
  · rw [textT, if_neg h]
    simp (config := { maxSteps := 1000000 }) (disch := first | exact chk_rfl | (unfold Chk; decide +kernel) | (refine chk_of ?_; with_unfolding_all rfl) | omega | (simp only [cells_agg, List.length_cons, List.length_nil, List.length_map, List.length_take, List.length_append, Nat.zero_add, Nat.reduceAdd]; first | done | omega) | fail) only [F30o0, F30o1, F30o2, F30o3, F30p3, F30c, F30, Mis.pv_mk, h, push_cast, ↓reduceIte, Nat.reduceEqDiff, Nat.reduceAdd, Nat.reduceMul, Nat.reduceLeDiff, Nat.reduceLT, Nat.reduceBEq, Nat.reduceSub, Int.reduceToNat, Int.reduceNeg]
    refine callDL_pure (name29 c) rfl ?_
    simp (config := { maxSteps := 1000000 }) (disch := first | exact chk_rfl | (unfold Chk; decide +kernel) | (refine chk_of ?_; with_unfolding_all rfl) | omega | (simp only [cells_agg, List.length_cons, List.length_nil, List.length_map, List.length_take, List.length_append, Nat.zero_add, Nat.reduceAdd]; first | done | omega) | fail) only [push_cast, ↓reduceIte, Nat.reduceEqDiff, Nat.reduceAdd, Nat.reduceMul, Nat.reduceLeDiff, Nat.reduceLT, Nat.reduceBEq, Nat.reduceSub, Int.reduceToNat, Int.reduceNeg]

theorem name_none (c : Int) (h : ¬ (1 ≤ c ∧ c ≤ 8)) : nameT c = [] := by
  unfold nameT
  by_cases h0 : 0 ≤ c
  · rw [if_pos h0]
    by_cases h1 : c = 0
    · subst h1; rfl
    · have : namesL[c.toNat]? = none := List.getElem?_eq_none (by simp [namesL]; omega)
      rw [this]; rfl
  · rw [if_neg h0]

set_option maxHeartbeats 1000000 in
theorem names_law (m : Mis) : Pure Tryd.prog tabG 8 [m.pv] (.bool true) := by
  obtain ⟨p, c⟩ := m
  have hidx : 1 ≤ c ∧ c ≤ 8 → ∃ k : Nat, c = k + 1 ∧ (namesL.tail.map PV.str)[k]? = some (PV.str (nameT c)) := by
    intro h
    refine ⟨(c - 1).toNat, by omega, ?_⟩
    have hk : (c - 1).toNat < namesL.tail.length := by simp [namesL]; omega
    rw [List.getElem?_map, nameT, if_pos (by omega)]
    have e : c.toNat = (c - 1).toNat + 1 := by omega
    have e2 : namesL[c.toNat]? = namesL.tail[(c - 1).toNat]? := by rw [e]; rfl
    rw [e2, List.getElem?_eq_getElem hk]; rfl
  have hno := name_none c
  have h29 := name29 c
  have h30 := text30 (p.take 100) c (by simp; omega)
  have hl := nameT_len c
  have hT : textT (p.take 100) c = if p.take 100 = [] then nameT c else p.take 100 ++ [58, 32] ++ nameT c := rfl
  have hpl : (p.take 100).length ≤ 100 := by simp; omega
  refine Pure.intro F8_ok (by simp [F8]) ?_
  rw [Mis.pv_mk] at h30 ⊢
  by_cases h1 : 1 ≤ c ∧ c ≤ 8
  · obtain ⟨k, hk, hkw⟩ := hidx h1
    obtain ⟨c1, c2⟩ := h1
    subst hk
    simp only [namesL, List.tail_cons, List.map_cons, List.map_nil] at hkw
    generalize nameT ((k : Int) + 1) = W at *
    by_cases hp0 : p.take 100 = []
    · rw [if_pos hp0] at hT
      rw [hT, hp0] at h30
      simp (config := { maxSteps := 1000000 }) (disch := first | exact chk_rfl | (unfold Chk; decide +kernel) | (refine chk_of ?_; with_unfolding_all rfl) | omega | (simp only [cells_agg, List.length_cons, List.length_nil, List.length_map, List.length_take, List.length_append, Nat.zero_add, Nat.reduceAdd]; first | done | omega) | fail) only [F8o0, F8o1, F8o2, F8o3, F8o4, F8o5, F8o6, F8o7, F8o8, F8o9, F8c, F8, hp0, hkw, Int.add_sub_cancel, push_cast, ↓reduceIte, Nat.reduceEqDiff, Nat.reduceAdd, Nat.reduceMul, Nat.reduceLeDiff, Nat.reduceLT, Nat.reduceBEq, Nat.reduceSub, Int.reduceToNat, Int.reduceNeg]
      refine ACall.pure known_ok rfl ?_
      simp (config := { maxSteps := 1000000 }) (disch := first | exact chk_rfl | (unfold Chk; decide +kernel) | (refine chk_of ?_; with_unfolding_all rfl) | omega | (simp only [cells_agg, List.length_cons, List.length_nil, List.length_map, List.length_take, List.length_append, Nat.zero_add, Nat.reduceAdd]; first | done | omega) | fail) only [push_cast, ↓reduceIte, Nat.reduceEqDiff, Nat.reduceAdd, Nat.reduceMul, Nat.reduceLeDiff, Nat.reduceLT, Nat.reduceBEq, Nat.reduceSub, Int.reduceToNat, Int.reduceNeg]
      refine ACall.pure h29 rfl ?_
      simp (config := { maxSteps := 1000000 }) (disch := first | exact chk_rfl | (unfold Chk; decide +kernel) | (refine chk_of ?_; with_unfolding_all rfl) | omega | (simp only [cells_agg, List.length_cons, List.length_nil, List.length_map, List.length_take, List.length_append, Nat.zero_add, Nat.reduceAdd]; first | done | omega) | fail) only [push_cast, ↓reduceIte, Nat.reduceEqDiff, Nat.reduceAdd, Nat.reduceMul, Nat.reduceLeDiff, Nat.reduceLT, Nat.reduceBEq, Nat.reduceSub, Int.reduceToNat, Int.reduceNeg]
      refine ACall.pure h30 rfl ?_
      simp (config := { maxSteps := 1000000 }) (disch := first | exact chk_rfl | (unfold Chk; decide +kernel) | (refine chk_of ?_; with_unfolding_all rfl) | omega | (simp only [cells_agg, List.length_cons, List.length_nil, List.length_map, List.length_take, List.length_append, Nat.zero_add, Nat.reduceAdd]; first | done | omega) | fail) only [push_cast, ↓reduceIte, Nat.reduceEqDiff, Nat.reduceAdd, Nat.reduceMul, Nat.reduceLeDiff, Nat.reduceLT, Nat.reduceBEq, Nat.reduceSub, Int.reduceToNat, Int.reduceNeg]
    · rw [if_neg hp0] at hT
      rw [hT] at h30
      simp (config := { maxSteps := 1000000 }) (disch := first | exact chk_rfl | (unfold Chk; decide +kernel) | (refine chk_of ?_; with_unfolding_all rfl) | omega | (simp only [cells_agg, List.length_cons, List.length_nil, List.length_map, List.length_take, List.length_append, Nat.zero_add, Nat.reduceAdd]; first | done | omega) | fail) only [F8o0, F8o1, F8o2, F8o3, F8o4, F8o5, F8o6, F8o7, F8o8, F8o9, F8c, F8, hp0, hkw, Int.add_sub_cancel, push_cast, ↓reduceIte, Nat.reduceEqDiff, Nat.reduceAdd, Nat.reduceMul, Nat.reduceLeDiff, Nat.reduceLT, Nat.reduceBEq, Nat.reduceSub, Int.reduceToNat, Int.reduceNeg]
      refine ACall.pure known_ok rfl ?_
      simp (config := { maxSteps := 1000000 }) (disch := first | exact chk_rfl | (unfold Chk; decide +kernel) | (refine chk_of ?_; with_unfolding_all rfl) | omega | (simp only [cells_agg, List.length_cons, List.length_nil, List.length_map, List.length_take, List.length_append, Nat.zero_add, Nat.reduceAdd]; first | done | omega) | fail) only [push_cast, ↓reduceIte, Nat.reduceEqDiff, Nat.reduceAdd, Nat.reduceMul, Nat.reduceLeDiff, Nat.reduceLT, Nat.reduceBEq, Nat.reduceSub, Int.reduceToNat, Int.reduceNeg]
      refine ACall.pure h29 rfl ?_
      simp (config := { maxSteps := 1000000 }) (disch := first | exact chk_rfl | (unfold Chk; decide +kernel) | (refine chk_of ?_; with_unfolding_all rfl) | omega | (simp only [cells_agg, List.length_cons, List.length_nil, List.length_map, List.length_take, List.length_append, Nat.zero_add, Nat.reduceAdd]; first | done | omega) | fail) only [push_cast, ↓reduceIte, Nat.reduceEqDiff, Nat.reduceAdd, Nat.reduceMul, Nat.reduceLeDiff, Nat.reduceLT, Nat.reduceBEq, Nat.reduceSub, Int.reduceToNat, Int.reduceNeg]
      refine ACall.pure h30 rfl ?_
      simp (config := { maxSteps := 1000000 }) (disch := first | exact chk_rfl | (unfold Chk; decide +kernel) | (refine chk_of ?_; with_unfolding_all rfl) | omega | (simp only [cells_agg, List.length_cons, List.length_nil, List.length_map, List.length_take, List.length_append, Nat.zero_add, Nat.reduceAdd]; first | done | omega) | fail) only [push_cast, ↓reduceIte, Nat.reduceEqDiff, Nat.reduceAdd, Nat.reduceMul, Nat.reduceLeDiff, Nat.reduceLT, Nat.reduceBEq, Nat.reduceSub, Int.reduceToNat, Int.reduceNeg]
  · have hw := hno h1
    rw [hw] at h29 hT
    clear hl hno
    by_cases c1 : 1 ≤ c
    · have c2 : ¬ c ≤ 8 := fun h => h1 ⟨c1, h⟩
      by_cases hp0 : p.take 100 = []
      · rw [if_pos hp0] at hT
        rw [hT, hp0] at h30
        simp (config := { maxSteps := 1000000 }) (disch := first | exact chk_rfl | (unfold Chk; decide +kernel) | (refine chk_of ?_; with_unfolding_all rfl) | omega | (simp only [cells_agg, List.length_cons, List.length_nil, List.length_map, List.length_take, List.length_append, Nat.zero_add, Nat.reduceAdd]; first | done | omega) | fail) only [F8o0, F8o1, F8o2, F8o3, F8o4, F8o5, F8o6, F8o7, F8o8, F8o9, F8c, F8, hp0, push_cast, ↓reduceIte, Nat.reduceEqDiff, Nat.reduceAdd, Nat.reduceMul, Nat.reduceLeDiff, Nat.reduceLT, Nat.reduceBEq, Nat.reduceSub, Int.reduceToNat, Int.reduceNeg]
        refine ACall.pure known_ok rfl ?_
        simp (config := { maxSteps := 1000000 }) (disch := first | exact chk_rfl | (unfold Chk; decide +kernel) | (refine chk_of ?_; with_unfolding_all rfl) | omega | (simp only [cells_agg, List.length_cons, List.length_nil, List.length_map, List.length_take, List.length_append, Nat.zero_add, Nat.reduceAdd]; first | done | omega) | fail) only [push_cast, ↓reduceIte, Nat.reduceEqDiff, Nat.reduceAdd, Nat.reduceMul, Nat.reduceLeDiff, Nat.reduceLT, Nat.reduceBEq, Nat.reduceSub, Int.reduceToNat, Int.reduceNeg]
        refine ACall.pure h29 rfl ?_
        simp (config := { maxSteps := 1000000 }) (disch := first | exact chk_rfl | (unfold Chk; decide +kernel) | (refine chk_of ?_; with_unfolding_all rfl) | omega | (simp only [cells_agg, List.length_cons, List.length_nil, List.length_map, List.length_take, List.length_append, Nat.zero_add, Nat.reduceAdd]; first | done | omega) | fail) only [push_cast, ↓reduceIte, Nat.reduceEqDiff, Nat.reduceAdd, Nat.reduceMul, Nat.reduceLeDiff, Nat.reduceLT, Nat.reduceBEq, Nat.reduceSub, Int.reduceToNat, Int.reduceNeg]
        refine ACall.pure h30 rfl ?_
        simp (config := { maxSteps := 1000000 }) (disch := first | exact chk_rfl | (unfold Chk; decide +kernel) | (refine chk_of ?_; with_unfolding_all rfl) | omega | (simp only [cells_agg, List.length_cons, List.length_nil, List.length_map, List.length_take, List.length_append, Nat.zero_add, Nat.reduceAdd]; first | done | omega) | fail) only [push_cast, ↓reduceIte, Nat.reduceEqDiff, Nat.reduceAdd, Nat.reduceMul, Nat.reduceLeDiff, Nat.reduceLT, Nat.reduceBEq, Nat.reduceSub, Int.reduceToNat, Int.reduceNeg]
      · rw [if_neg hp0] at hT
        rw [hT] at h30
        simp (config := { maxSteps := 1000000 }) (disch := first | exact chk_rfl | (unfold Chk; decide +kernel) | (refine chk_of ?_; with_unfolding_all rfl) | omega | (simp only [cells_agg, List.length_cons, List.length_nil, List.length_map, List.length_take, List.length_append, Nat.zero_add, Nat.reduceAdd]; first | done | omega) | fail) only [F8o0, F8o1, F8o2, F8o3, F8o4, F8o5, F8o6, F8o7, F8o8, F8o9, F8c, F8, hp0, push_cast, ↓reduceIte, Nat.reduceEqDiff, Nat.reduceAdd, Nat.reduceMul, Nat.reduceLeDiff, Nat.reduceLT, Nat.reduceBEq, Nat.reduceSub, Int.reduceToNat, Int.reduceNeg]
        refine ACall.pure known_ok rfl ?_
        simp (config := { maxSteps := 1000000 }) (disch := first | exact chk_rfl | (unfold Chk; decide +kernel) | (refine chk_of ?_; with_unfolding_all rfl) | omega | (simp only [cells_agg, List.length_cons, List.length_nil, List.length_map, List.length_take, List.length_append, Nat.zero_add, Nat.reduceAdd]; first | done | omega) | fail) only [push_cast, ↓reduceIte, Nat.reduceEqDiff, Nat.reduceAdd, Nat.reduceMul, Nat.reduceLeDiff, Nat.reduceLT, Nat.reduceBEq, Nat.reduceSub, Int.reduceToNat, Int.reduceNeg]
        refine ACall.pure h29 rfl ?_
        simp (config := { maxSteps := 1000000 }) (disch := first | exact chk_rfl | (unfold Chk; decide +kernel) | (refine chk_of ?_; with_unfolding_all rfl) | omega | (simp only [cells_agg, List.length_cons, List.length_nil, List.length_map, List.length_take, List.length_append, Nat.zero_add, Nat.reduceAdd]; first | done | omega) | fail) only [push_cast, ↓reduceIte, Nat.reduceEqDiff, Nat.reduceAdd, Nat.reduceMul, Nat.reduceLeDiff, Nat.reduceLT, Nat.reduceBEq, Nat.reduceSub, Int.reduceToNat, Int.reduceNeg]
        refine ACall.pure h30 rfl ?_
        simp (config := { maxSteps := 1000000 }) (disch := first | exact chk_rfl | (unfold Chk; decide +kernel) | (refine chk_of ?_; with_unfolding_all rfl) | omega | (simp only [cells_agg, List.length_cons, List.length_nil, List.length_map, List.length_take, List.length_append, Nat.zero_add, Nat.reduceAdd]; first | done | omega) | fail) only [push_cast, ↓reduceIte, Nat.reduceEqDiff, Nat.reduceAdd, Nat.reduceMul, Nat.reduceLeDiff, Nat.reduceLT, Nat.reduceBEq, Nat.reduceSub, Int.reduceToNat, Int.reduceNeg]
    · by_cases hp0 : p.take 100 = []
      · rw [if_pos hp0] at hT
        rw [hT, hp0] at h30
        simp (config := { maxSteps := 1000000 }) (disch := first | exact chk_rfl | (unfold Chk; decide +kernel) | (refine chk_of ?_; with_unfolding_all rfl) | omega | (simp only [cells_agg, List.length_cons, List.length_nil, List.length_map, List.length_take, List.length_append, Nat.zero_add, Nat.reduceAdd]; first | done | omega) | fail) only [F8o0, F8o1, F8o2, F8o3, F8o4, F8o5, F8o6, F8o7, F8o8, F8o9, F8c, F8, hp0, push_cast, ↓reduceIte, Nat.reduceEqDiff, Nat.reduceAdd, Nat.reduceMul, Nat.reduceLeDiff, Nat.reduceLT, Nat.reduceBEq, Nat.reduceSub, Int.reduceToNat, Int.reduceNeg]
        refine ACall.pure known_ok rfl ?_
        simp (config := { maxSteps := 1000000 }) (disch := first | exact chk_rfl | (unfold Chk; decide +kernel) | (refine chk_of ?_; with_unfolding_all rfl) | omega | (simp only [cells_agg, List.length_cons, List.length_nil, List.length_map, List.length_take, List.length_append, Nat.zero_add, Nat.reduceAdd]; first | done | omega) | fail) only [push_cast, ↓reduceIte, Nat.reduceEqDiff, Nat.reduceAdd, Nat.reduceMul, Nat.reduceLeDiff, Nat.reduceLT, Nat.reduceBEq, Nat.reduceSub, Int.reduceToNat, Int.reduceNeg]
        refine ACall.pure h29 rfl ?_
        simp (config := { maxSteps := 1000000 }) (disch := first | exact chk_rfl | (unfold Chk; decide +kernel) | (refine chk_of ?_; with_unfolding_all rfl) | omega | (simp only [cells_agg, List.length_cons, List.length_nil, List.length_map, List.length_take, List.length_append, Nat.zero_add, Nat.reduceAdd]; first | done | omega) | fail) only [push_cast, ↓reduceIte, Nat.reduceEqDiff, Nat.reduceAdd, Nat.reduceMul, Nat.reduceLeDiff, Nat.reduceLT, Nat.reduceBEq, Nat.reduceSub, Int.reduceToNat, Int.reduceNeg]
        refine ACall.pure h30 rfl ?_
        simp (config := { maxSteps := 1000000 }) (disch := first | exact chk_rfl | (unfold Chk; decide +kernel) | (refine chk_of ?_; with_unfolding_all rfl) | omega | (simp only [cells_agg, List.length_cons, List.length_nil, List.length_map, List.length_take, List.length_append, Nat.zero_add, Nat.reduceAdd]; first | done | omega) | fail) only [push_cast, ↓reduceIte, Nat.reduceEqDiff, Nat.reduceAdd, Nat.reduceMul, Nat.reduceLeDiff, Nat.reduceLT, Nat.reduceBEq, Nat.reduceSub, Int.reduceToNat, Int.reduceNeg]
      · rw [if_neg hp0] at hT
        rw [hT] at h30
        simp (config := { maxSteps := 1000000 }) (disch := first | exact chk_rfl | (unfold Chk; decide +kernel) | (refine chk_of ?_; with_unfolding_all rfl) | omega | (simp only [cells_agg, List.length_cons, List.length_nil, List.length_map, List.length_take, List.length_append, Nat.zero_add, Nat.reduceAdd]; first | done | omega) | fail) only [F8o0, F8o1, F8o2, F8o3, F8o4, F8o5, F8o6, F8o7, F8o8, F8o9, F8c, F8, hp0, push_cast, ↓reduceIte, Nat.reduceEqDiff, Nat.reduceAdd, Nat.reduceMul, Nat.reduceLeDiff, Nat.reduceLT, Nat.reduceBEq, Nat.reduceSub, Int.reduceToNat, Int.reduceNeg]
        refine ACall.pure known_ok rfl ?_
        simp (config := { maxSteps := 1000000 }) (disch := first | exact chk_rfl | (unfold Chk; decide +kernel) | (refine chk_of ?_; with_unfolding_all rfl) | omega | (simp only [cells_agg, List.length_cons, List.length_nil, List.length_map, List.length_take, List.length_append, Nat.zero_add, Nat.reduceAdd]; first | done | omega) | fail) only [push_cast, ↓reduceIte, Nat.reduceEqDiff, Nat.reduceAdd, Nat.reduceMul, Nat.reduceLeDiff, Nat.reduceLT, Nat.reduceBEq, Nat.reduceSub, Int.reduceToNat, Int.reduceNeg]
        refine ACall.pure h29 rfl ?_
        simp (config := { maxSteps := 1000000 }) (disch := first | exact chk_rfl | (unfold Chk; decide +kernel) | (refine chk_of ?_; with_unfolding_all rfl) | omega | (simp only [cells_agg, List.length_cons, List.length_nil, List.length_map, List.length_take, List.length_append, Nat.zero_add, Nat.reduceAdd]; first | done | omega) | fail) only [push_cast, ↓reduceIte, Nat.reduceEqDiff, Nat.reduceAdd, Nat.reduceMul, Nat.reduceLeDiff, Nat.reduceLT, Nat.reduceBEq, Nat.reduceSub, Int.reduceToNat, Int.reduceNeg]
        refine ACall.pure h30 rfl ?_
        simp (config := { maxSteps := 1000000 }) (disch := first | exact chk_rfl | (unfold Chk; decide +kernel) | (refine chk_of ?_; with_unfolding_all rfl) | omega | (simp only [cells_agg, List.length_cons, List.length_nil, List.length_map, List.length_take, List.length_append, Nat.zero_add, Nat.reduceAdd]; first | done | omega) | fail) only [push_cast, ↓reduceIte, Nat.reduceEqDiff, Nat.reduceAdd, Nat.reduceMul, Nat.reduceLeDiff, Nat.reduceLT, Nat.reduceBEq, Nat.reduceSub, Int.reduceToNat, Int.reduceNeg]
theorem names_of (p0 : PV) (h0 : HasT Tryd.prog 71 p0) : Pure Tryd.prog tabG 8 [p0] (.bool true) := by
  obtain ⟨m, rfl, hm⟩ := hasT_Mis h0
  exact names_law m
end Go.Proofs.YtikmckfppnmlnaaDoor
