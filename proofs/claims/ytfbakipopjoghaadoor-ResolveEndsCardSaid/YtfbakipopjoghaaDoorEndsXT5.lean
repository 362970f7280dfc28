/- A part of the proof for ResolveEndsCardSaid. -/
import Derived.Test.YtfbakipopjoghaaDoorEndsXT4
set_option maxRecDepth 100000
set_option linter.unusedVariables false
set_option linter.unusedSimpArgs false
namespace Go.Proofs.YtfbakipopjoghaaDoor
open Go Go.Ab

theorem pv_agg (s : SV) : ∃ cs, s.pv = .agg cs ∧ cs.length = 11 := by
  obtain ⟨a, b, c, d, e, f, g, i, j, k, m⟩ := s
  exact ⟨_, by rw [SV.pv], rfl⟩

/-- The law, from what shortSteps returns. -/
theorem ends_law (p : PV) (l : List SV) (hl : okSs l) (hm : l.length ≤ maxLen) (hs : Pure Tryd.prog tabG 11 [p, .int .i64 4] (.list (l.map SV.pv))) : Pure Tryd.prog tabG 3 [p] (.bool true) := by
  have hm' : l.length ≤ 9223372036854775807 := by unfold maxLen at hm; omega
  refine Pure.intro F3_ok (by simp [F3]) ?_
  simp (disch := first | exact chk_rfl | (unfold Chk; decide +kernel) | omega | (simp only [cells_agg, List.length_cons, List.length_nil, List.length_map, List.length_take, List.length_append, Nat.zero_add, Nat.reduceAdd]; first | done | omega) | fail) only [F3, F3c, F3o0, F3o1, push_cast, ↓reduceIte, Nat.reduceEqDiff, Nat.reduceAdd, Nat.reduceMul, Nat.reduceLeDiff, Nat.reduceSub, Int.reduceToNat, Int.reduceNeg]
  refine ACall.pure hs rfl ?_
  simp (disch := first | exact chk_rfl | (unfold Chk; decide +kernel) | omega | (simp only [cells_agg, List.length_cons, List.length_nil, List.length_map, List.length_take, List.length_append, Nat.zero_add, Nat.reduceAdd]; first | done | omega) | fail) only [F3o2, push_cast, ↓reduceIte, Nat.reduceEqDiff, Nat.reduceAdd, Nat.reduceMul, Nat.reduceLeDiff, Nat.reduceSub, Int.reduceToNat, Int.reduceNeg]
  refine vc_round (fun i : Nat => ⟨[(0, .pv (.list (l.map SV.pv))), (3, .pv (.int .i64 (i : Int)))], [], 0⟩) (fun i => i ≤ l.length) (fun i => l.length - i) 0 rfl (Nat.zero_le _) ?_
  intro i hi
  by_cases hlt : (i : Int) < l.length
  · obtain ⟨x, hx⟩ : ∃ x, l[i]? = some x := ⟨l[i], List.getElem?_eq_getElem (by omega)⟩
    have h1 := all_ok l hl x (List.mem_of_getElem? hx)
    have h2 := all2_ok l hl x (List.mem_of_getElem? hx)
    obtain ⟨cs, hcs, hl11⟩ := pv_agg x
    have hx' : (l.map SV.pv)[i]? = some (.agg cs) := by rw [List.getElem?_map, hx]; exact congrArg some hcs
    rw [hcs] at h1 h2
    simp (disch := first | exact chk_rfl | (unfold Chk; decide +kernel) | omega | (simp only [cells_agg, List.length_cons, List.length_nil, List.length_map, List.length_take, List.length_append, Nat.zero_add, Nat.reduceAdd]; first | done | omega) | fail) only [F3b7, F3o3, F3o4, F3p4, List.length_map, hx', hl11, isAgg_agg, push_cast, ↓reduceIte, Nat.reduceEqDiff, Nat.reduceAdd, Nat.reduceMul, Nat.reduceLeDiff, Nat.reduceSub, Int.reduceToNat, Int.reduceNeg]
    refine callDL_pure h1 rfl ?_
    simp (disch := first | exact chk_rfl | (unfold Chk; decide +kernel) | omega | (simp only [cells_agg, List.length_cons, List.length_nil, List.length_map, List.length_take, List.length_append, Nat.zero_add, Nat.reduceAdd]; first | done | omega) | fail) only [hx', hl11, isAgg_agg, push_cast, ↓reduceIte, Nat.reduceEqDiff, Nat.reduceAdd, Nat.reduceMul, Nat.reduceLeDiff, Nat.reduceSub, Int.reduceToNat, Int.reduceNeg]
    refine ACall.pure h2 rfl ?_
    simp (disch := first | exact chk_rfl | (unfold Chk; decide +kernel) | omega | (simp only [cells_agg, List.length_cons, List.length_nil, List.length_map, List.length_take, List.length_append, Nat.zero_add, Nat.reduceAdd]; first | done | omega) | fail) only [F3o6, bne_self_eq_false, beq_self_eq_true, push_cast, ↓reduceIte, Nat.reduceEqDiff, Nat.reduceAdd, Nat.reduceMul, Nat.reduceLeDiff, Nat.reduceSub, Int.reduceToNat, Int.reduceNeg]
    exact ⟨i + 1, hd_rfl rfl, by omega, by omega⟩
  · simp (disch := first | exact chk_rfl | (unfold Chk; decide +kernel) | omega | (simp only [cells_agg, List.length_cons, List.length_nil, List.length_map, List.length_take, List.length_append, Nat.zero_add, Nat.reduceAdd]; first | done | omega) | fail) only [F3b7, F3o3, F3o8, List.length_map, push_cast, ↓reduceIte, Nat.reduceEqDiff, Nat.reduceAdd, Nat.reduceMul, Nat.reduceLeDiff, Nat.reduceSub, Int.reduceToNat, Int.reduceNeg]
    refine ACall.pure known_ok rfl ?_
    simp (disch := first | exact chk_rfl | (unfold Chk; decide +kernel) | omega | (simp only [cells_agg, List.length_cons, List.length_nil, List.length_map, List.length_take, List.length_append, Nat.zero_add, Nat.reduceAdd]; first | done | omega) | fail) only [push_cast, ↓reduceIte, Nat.reduceEqDiff, Nat.reduceAdd, Nat.reduceMul, Nat.reduceLeDiff, Nat.reduceSub, Int.reduceToNat, Int.reduceNeg]
    refine ACall.pure (fin_of l hm (all_ok l hl)) rfl ?_
    simp (disch := first | exact chk_rfl | (unfold Chk; decide +kernel) | omega | (simp only [cells_agg, List.length_cons, List.length_nil, List.length_map, List.length_take, List.length_append, Nat.zero_add, Nat.reduceAdd]; first | done | omega) | fail) only [push_cast, ↓reduceIte, Nat.reduceEqDiff, Nat.reduceAdd, Nat.reduceMul, Nat.reduceLeDiff, Nat.reduceSub, Int.reduceToNat, Int.reduceNeg]
    refine ACall.pure (fin2_of l hm (all2_ok l hl)) rfl ?_
    simp (disch := first | exact chk_rfl | (unfold Chk; decide +kernel) | omega | (simp only [cells_agg, List.length_cons, List.length_nil, List.length_map, List.length_take, List.length_append, Nat.zero_add, Nat.reduceAdd]; first | done | omega) | fail) only [bne_self_eq_false, beq_self_eq_true, push_cast, ↓reduceIte, Nat.reduceEqDiff, Nat.reduceAdd, Nat.reduceMul, Nat.reduceLeDiff, Nat.reduceSub, Int.reduceToNat, Int.reduceNeg]
end Go.Proofs.YtfbakipopjoghaaDoor
