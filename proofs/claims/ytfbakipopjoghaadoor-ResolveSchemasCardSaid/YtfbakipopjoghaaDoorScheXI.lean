/- A part of the proof for ResolveSchemasCardSaid. -/
import Derived.Test.YtfbakipopjoghaaDoorScheXP
set_option maxRecDepth 100000
set_option linter.unusedVariables false
set_option linter.unusedSimpArgs false
namespace Go.Proofs.YtfbakipopjoghaaDoor
open Go Go.Ab

section
variable {α : Type}
theorem find_none {l : List α} {q : α → Bool} (h : ∀ (j : Nat) (x : α), j < l.length → l[j]? = some x → q x = false) : l.findIdx? q = none := by
  rw [List.findIdx?_eq_none_iff]
  intro x hx
  obtain ⟨j, hj⟩ := List.getElem?_of_mem hx
  exact h j x (List.getElem?_eq_some_iff.1 hj).1 hj
theorem find_some {l : List α} {q : α → Bool} {i : Nat} {x : α} (hx : l[i]? = some x) (hq : q x = true) (h : ∀ (j : Nat) (x : α), j < i → l[j]? = some x → q x = false) : l.findIdx? q = some i := by
  rw [List.findIdx?_eq_some_iff_getElem]
  obtain ⟨hlt, he⟩ := List.getElem?_eq_some_iff.1 hx
  refine ⟨hlt, by rw [he]; exact hq, fun j hj => ?_⟩
  have hj' : j < l.length := by omega
  simpa using h j _ hj (List.getElem?_eq_getElem hj')
def idxI : Option Nat → Int
  | some i => i
  | none => -1
def hasI (o : Option Nat) : Bool := decide (0 ≤ idxI o)
theorem idxI_ge (o : Option Nat) : -1 ≤ idxI o := by cases o <;> simp only [idxI] <;> omega
end

theorem index82 (l : List Enp) (g : Nat) (cs : List PV) (q : Enp → Bool) (hq : ∀ x ∈ l, Pure Tryd.prog tabG g (x.pv :: cs) (.bool (q x))) (hmax : l.length ≤ maxLen) :
    Pure Tryd.prog tabG 82 [.list (l.map Enp.pv), .clo g [] cs] (.int .i64 (idxI (l.findIdx? q))) := by
  have hm : l.length ≤ 9223372036854775807 := by unfold maxLen at hmax; omega
  clear hmax
  refine Pure.intro F82_ok (by simp [F82]) ?_
  simp (config := { maxSteps := 1000000 }) (disch := first | exact chk_rfl | (unfold Chk; decide +kernel) | omega | (simp only [cells_agg, List.length_cons, List.length_nil, List.length_map, List.length_take, List.length_append, Nat.zero_add, Nat.reduceAdd]; first | done | omega) | fail) only [F82o0, F82o1, F82o2, F82o3, F82o4, F82o5, F82o6, F82b7, F82o8, F82c, F82, push_cast, ↓reduceIte, Nat.reduceEqDiff, Nat.reduceAdd, Nat.reduceMul, Nat.reduceLeDiff, Nat.reduceLT, Nat.reduceBEq, Nat.reduceSub, Int.reduceToNat, Int.reduceNeg]
  refine vc_over ([]) (fun i : Nat => [(8, .pv (.int .i64 (i : Int)))]) (fun _ => []) (fun i => i ≤ l.length ∧ ∀ j x, j < i → l[j]? = some x → q x = false) (fun i => l.length - i) (0) ?_; intro e0 σ0 n0 h0; simp (config := { maxSteps := 1000000 }) (disch := first | exact chk_rfl | (unfold Chk; decide +kernel) | omega | (simp only [cells_agg, List.length_cons, List.length_nil, List.length_map, List.length_take, List.length_append, Nat.zero_add, Nat.reduceAdd]; first | done | omega) | fail) only [push_cast, ↓reduceIte, Nat.reduceEqDiff, Nat.reduceAdd, Nat.reduceMul, Nat.reduceLeDiff, Nat.reduceLT, Nat.reduceBEq, Nat.reduceSub, Int.reduceToNat, Int.reduceNeg] at h0; obtain ⟨rfl, rfl, rfl⟩ := h0; refine ⟨?_, ?_, ?_⟩
  · simp (config := { maxSteps := 1000000 }) (disch := first | exact chk_rfl | (unfold Chk; decide +kernel) | omega | (simp only [cells_agg, List.length_cons, List.length_nil, List.length_map, List.length_take, List.length_append, Nat.zero_add, Nat.reduceAdd]; first | done | omega) | fail) only [push_cast, ↓reduceIte, Nat.reduceEqDiff, Nat.reduceAdd, Nat.reduceMul, Nat.reduceLeDiff, Nat.reduceLT, Nat.reduceBEq, Nat.reduceSub, Int.reduceToNat, Int.reduceNeg]
  · exact ⟨Nat.zero_le _, by omega⟩
  rintro i ⟨hi, hpre⟩
  by_cases hlt : i < l.length
  · have hltI : (i : Int) < l.length := by omega
    obtain ⟨x, hx⟩ : ∃ x, l[i]? = some x := ⟨l[i], List.getElem?_eq_getElem hlt⟩
    have hcall := hq x (List.mem_of_getElem? hx)
    simp (config := { maxSteps := 1000000 }) (disch := first | exact chk_rfl | (unfold Chk; decide +kernel) | omega | (simp only [cells_agg, List.length_cons, List.length_nil, List.length_map, List.length_take, List.length_append, Nat.zero_add, Nat.reduceAdd]; first | done | omega) | fail) only [hx, Enp.cells_len, Enp.isAgg, push_cast, ↓reduceIte, Nat.reduceEqDiff, Nat.reduceAdd, Nat.reduceMul, Nat.reduceLeDiff, Nat.reduceLT, Nat.reduceBEq, Nat.reduceSub, Int.reduceToNat, Int.reduceNeg]
    refine ACall.pure hcall (by rw [pvs_cons, pvs_map]; rfl) ?_
    simp (config := { maxSteps := 1000000 }) (disch := first | exact chk_rfl | (unfold Chk; decide +kernel) | omega | (simp only [cells_agg, List.length_cons, List.length_nil, List.length_map, List.length_take, List.length_append, Nat.zero_add, Nat.reduceAdd]; first | done | omega) | fail) only [push_cast, ↓reduceIte, Nat.reduceEqDiff, Nat.reduceAdd, Nat.reduceMul, Nat.reduceLeDiff, Nat.reduceLT, Nat.reduceBEq, Nat.reduceSub, Int.reduceToNat, Int.reduceNeg]
    refine ifB_cases (fun hqx => ?_) (fun hqx => ?_)
    · simp (config := { maxSteps := 1000000 }) (disch := first | exact chk_rfl | (unfold Chk; decide +kernel) | omega | (simp only [cells_agg, List.length_cons, List.length_nil, List.length_map, List.length_take, List.length_append, Nat.zero_add, Nat.reduceAdd]; first | done | omega) | fail) only [push_cast, ↓reduceIte, Nat.reduceEqDiff, Nat.reduceAdd, Nat.reduceMul, Nat.reduceLeDiff, Nat.reduceLT, Nat.reduceBEq, Nat.reduceSub, Int.reduceToNat, Int.reduceNeg]
      rw [find_some hx hqx hpre]; exact .refl _
    · simp (config := { maxSteps := 1000000 }) (disch := first | exact chk_rfl | (unfold Chk; decide +kernel) | omega | (simp only [cells_agg, List.length_cons, List.length_nil, List.length_map, List.length_take, List.length_append, Nat.zero_add, Nat.reduceAdd]; first | done | omega) | fail) only [push_cast, ↓reduceIte, Nat.reduceEqDiff, Nat.reduceAdd, Nat.reduceMul, Nat.reduceLeDiff, Nat.reduceLT, Nat.reduceBEq, Nat.reduceSub, Int.reduceToNat, Int.reduceNeg]
      refine ⟨i + 1, hd_z (by simp (config := { maxSteps := 1000000 }) (disch := first | exact chk_rfl | (unfold Chk; decide +kernel) | omega | (simp only [cells_agg, List.length_cons, List.length_nil, List.length_map, List.length_take, List.length_append, Nat.zero_add, Nat.reduceAdd]; first | done | omega) | fail) only [push_cast, ↓reduceIte, Nat.reduceEqDiff, Nat.reduceAdd, Nat.reduceMul, Nat.reduceLeDiff, Nat.reduceLT, Nat.reduceBEq, Nat.reduceSub, Int.reduceToNat, Int.reduceNeg]), ⟨by omega, fun j x hj hjx => ?_⟩, by omega⟩
      rcases Nat.lt_or_ge j i with h | h
      · exact hpre j x h hjx
      · have : j = i := by omega
        subst this
        rw [hx] at hjx; cases hjx; exact hqx
  · have hltI : ¬ (i : Int) < l.length := by omega
    simp (config := { maxSteps := 1000000 }) (disch := first | exact chk_rfl | (unfold Chk; decide +kernel) | omega | (simp only [cells_agg, List.length_cons, List.length_nil, List.length_map, List.length_take, List.length_append, Nat.zero_add, Nat.reduceAdd]; first | done | omega) | fail) only [push_cast, ↓reduceIte, Nat.reduceEqDiff, Nat.reduceAdd, Nat.reduceMul, Nat.reduceLeDiff, Nat.reduceLT, Nat.reduceBEq, Nat.reduceSub, Int.reduceToNat, Int.reduceNeg]
    rw [find_none (fun j x hj hjx => hpre j x (by omega) hjx)]; exact .refl _

theorem index83 (l : List Svc) (g : Nat) (cs : List PV) (q : Svc → Bool) (hq : ∀ x ∈ l, Pure Tryd.prog tabG g (x.pv :: cs) (.bool (q x))) (hmax : l.length ≤ maxLen) :
    Pure Tryd.prog tabG 83 [.list (l.map Svc.pv), .clo g [] cs] (.int .i64 (idxI (l.findIdx? q))) := by
  have hm : l.length ≤ 9223372036854775807 := by unfold maxLen at hmax; omega
  clear hmax
  refine Pure.intro F83_ok (by simp [F83]) ?_
  simp (config := { maxSteps := 1000000 }) (disch := first | exact chk_rfl | (unfold Chk; decide +kernel) | omega | (simp only [cells_agg, List.length_cons, List.length_nil, List.length_map, List.length_take, List.length_append, Nat.zero_add, Nat.reduceAdd]; first | done | omega) | fail) only [F83o0, F83o1, F83o2, F83o3, F83o4, F83o5, F83o6, F83b7, F83o8, F83c, F83, push_cast, ↓reduceIte, Nat.reduceEqDiff, Nat.reduceAdd, Nat.reduceMul, Nat.reduceLeDiff, Nat.reduceLT, Nat.reduceBEq, Nat.reduceSub, Int.reduceToNat, Int.reduceNeg]
  refine vc_over ([]) (fun i : Nat => [(8, .pv (.int .i64 (i : Int)))]) (fun _ => []) (fun i => i ≤ l.length ∧ ∀ j x, j < i → l[j]? = some x → q x = false) (fun i => l.length - i) (0) ?_; intro e0 σ0 n0 h0; simp (config := { maxSteps := 1000000 }) (disch := first | exact chk_rfl | (unfold Chk; decide +kernel) | omega | (simp only [cells_agg, List.length_cons, List.length_nil, List.length_map, List.length_take, List.length_append, Nat.zero_add, Nat.reduceAdd]; first | done | omega) | fail) only [push_cast, ↓reduceIte, Nat.reduceEqDiff, Nat.reduceAdd, Nat.reduceMul, Nat.reduceLeDiff, Nat.reduceLT, Nat.reduceBEq, Nat.reduceSub, Int.reduceToNat, Int.reduceNeg] at h0; obtain ⟨rfl, rfl, rfl⟩ := h0; refine ⟨?_, ?_, ?_⟩
  · simp (config := { maxSteps := 1000000 }) (disch := first | exact chk_rfl | (unfold Chk; decide +kernel) | omega | (simp only [cells_agg, List.length_cons, List.length_nil, List.length_map, List.length_take, List.length_append, Nat.zero_add, Nat.reduceAdd]; first | done | omega) | fail) only [push_cast, ↓reduceIte, Nat.reduceEqDiff, Nat.reduceAdd, Nat.reduceMul, Nat.reduceLeDiff, Nat.reduceLT, Nat.reduceBEq, Nat.reduceSub, Int.reduceToNat, Int.reduceNeg]
  · exact ⟨Nat.zero_le _, by omega⟩
  rintro i ⟨hi, hpre⟩
  by_cases hlt : i < l.length
  · have hltI : (i : Int) < l.length := by omega
    obtain ⟨x, hx⟩ : ∃ x, l[i]? = some x := ⟨l[i], List.getElem?_eq_getElem hlt⟩
    have hcall := hq x (List.mem_of_getElem? hx)
    simp (config := { maxSteps := 1000000 }) (disch := first | exact chk_rfl | (unfold Chk; decide +kernel) | omega | (simp only [cells_agg, List.length_cons, List.length_nil, List.length_map, List.length_take, List.length_append, Nat.zero_add, Nat.reduceAdd]; first | done | omega) | fail) only [hx, Svc.cells_len, Svc.isAgg, push_cast, ↓reduceIte, Nat.reduceEqDiff, Nat.reduceAdd, Nat.reduceMul, Nat.reduceLeDiff, Nat.reduceLT, Nat.reduceBEq, Nat.reduceSub, Int.reduceToNat, Int.reduceNeg]
    refine ACall.pure hcall (by rw [pvs_cons, pvs_map]; rfl) ?_
    simp (config := { maxSteps := 1000000 }) (disch := first | exact chk_rfl | (unfold Chk; decide +kernel) | omega | (simp only [cells_agg, List.length_cons, List.length_nil, List.length_map, List.length_take, List.length_append, Nat.zero_add, Nat.reduceAdd]; first | done | omega) | fail) only [push_cast, ↓reduceIte, Nat.reduceEqDiff, Nat.reduceAdd, Nat.reduceMul, Nat.reduceLeDiff, Nat.reduceLT, Nat.reduceBEq, Nat.reduceSub, Int.reduceToNat, Int.reduceNeg]
    refine ifB_cases (fun hqx => ?_) (fun hqx => ?_)
    · simp (config := { maxSteps := 1000000 }) (disch := first | exact chk_rfl | (unfold Chk; decide +kernel) | omega | (simp only [cells_agg, List.length_cons, List.length_nil, List.length_map, List.length_take, List.length_append, Nat.zero_add, Nat.reduceAdd]; first | done | omega) | fail) only [push_cast, ↓reduceIte, Nat.reduceEqDiff, Nat.reduceAdd, Nat.reduceMul, Nat.reduceLeDiff, Nat.reduceLT, Nat.reduceBEq, Nat.reduceSub, Int.reduceToNat, Int.reduceNeg]
      rw [find_some hx hqx hpre]; exact .refl _
    · simp (config := { maxSteps := 1000000 }) (disch := first | exact chk_rfl | (unfold Chk; decide +kernel) | omega | (simp only [cells_agg, List.length_cons, List.length_nil, List.length_map, List.length_take, List.length_append, Nat.zero_add, Nat.reduceAdd]; first | done | omega) | fail) only [push_cast, ↓reduceIte, Nat.reduceEqDiff, Nat.reduceAdd, Nat.reduceMul, Nat.reduceLeDiff, Nat.reduceLT, Nat.reduceBEq, Nat.reduceSub, Int.reduceToNat, Int.reduceNeg]
      refine ⟨i + 1, hd_z (by simp (config := { maxSteps := 1000000 }) (disch := first | exact chk_rfl | (unfold Chk; decide +kernel) | omega | (simp only [cells_agg, List.length_cons, List.length_nil, List.length_map, List.length_take, List.length_append, Nat.zero_add, Nat.reduceAdd]; first | done | omega) | fail) only [push_cast, ↓reduceIte, Nat.reduceEqDiff, Nat.reduceAdd, Nat.reduceMul, Nat.reduceLeDiff, Nat.reduceLT, Nat.reduceBEq, Nat.reduceSub, Int.reduceToNat, Int.reduceNeg]), ⟨by omega, fun j x hj hjx => ?_⟩, by omega⟩
      rcases Nat.lt_or_ge j i with h | h
      · exact hpre j x h hjx
      · have : j = i := by omega
        subst this
        rw [hx] at hjx; cases hjx; exact hqx
  · have hltI : ¬ (i : Int) < l.length := by omega
    simp (config := { maxSteps := 1000000 }) (disch := first | exact chk_rfl | (unfold Chk; decide +kernel) | omega | (simp only [cells_agg, List.length_cons, List.length_nil, List.length_map, List.length_take, List.length_append, Nat.zero_add, Nat.reduceAdd]; first | done | omega) | fail) only [push_cast, ↓reduceIte, Nat.reduceEqDiff, Nat.reduceAdd, Nat.reduceMul, Nat.reduceLeDiff, Nat.reduceLT, Nat.reduceBEq, Nat.reduceSub, Int.reduceToNat, Int.reduceNeg]
    rw [find_none (fun j x hj hjx => hpre j x (by omega) hjx)]; exact .refl _

theorem index84 (l : List Rou) (g : Nat) (cs : List PV) (q : Rou → Bool) (hq : ∀ x ∈ l, Pure Tryd.prog tabG g (x.pv :: cs) (.bool (q x))) (hmax : l.length ≤ maxLen) :
    Pure Tryd.prog tabG 84 [.list (l.map Rou.pv), .clo g [] cs] (.int .i64 (idxI (l.findIdx? q))) := by
  have hm : l.length ≤ 9223372036854775807 := by unfold maxLen at hmax; omega
  clear hmax
  refine Pure.intro F84_ok (by simp [F84]) ?_
  simp (config := { maxSteps := 1000000 }) (disch := first | exact chk_rfl | (unfold Chk; decide +kernel) | omega | (simp only [cells_agg, List.length_cons, List.length_nil, List.length_map, List.length_take, List.length_append, Nat.zero_add, Nat.reduceAdd]; first | done | omega) | fail) only [F84o0, F84o1, F84o2, F84o3, F84o4, F84o5, F84o6, F84b7, F84o8, F84c, F84, push_cast, ↓reduceIte, Nat.reduceEqDiff, Nat.reduceAdd, Nat.reduceMul, Nat.reduceLeDiff, Nat.reduceLT, Nat.reduceBEq, Nat.reduceSub, Int.reduceToNat, Int.reduceNeg]
  refine vc_over ([]) (fun i : Nat => [(8, .pv (.int .i64 (i : Int)))]) (fun _ => []) (fun i => i ≤ l.length ∧ ∀ j x, j < i → l[j]? = some x → q x = false) (fun i => l.length - i) (0) ?_; intro e0 σ0 n0 h0; simp (config := { maxSteps := 1000000 }) (disch := first | exact chk_rfl | (unfold Chk; decide +kernel) | omega | (simp only [cells_agg, List.length_cons, List.length_nil, List.length_map, List.length_take, List.length_append, Nat.zero_add, Nat.reduceAdd]; first | done | omega) | fail) only [push_cast, ↓reduceIte, Nat.reduceEqDiff, Nat.reduceAdd, Nat.reduceMul, Nat.reduceLeDiff, Nat.reduceLT, Nat.reduceBEq, Nat.reduceSub, Int.reduceToNat, Int.reduceNeg] at h0; obtain ⟨rfl, rfl, rfl⟩ := h0; refine ⟨?_, ?_, ?_⟩
  · simp (config := { maxSteps := 1000000 }) (disch := first | exact chk_rfl | (unfold Chk; decide +kernel) | omega | (simp only [cells_agg, List.length_cons, List.length_nil, List.length_map, List.length_take, List.length_append, Nat.zero_add, Nat.reduceAdd]; first | done | omega) | fail) only [push_cast, ↓reduceIte, Nat.reduceEqDiff, Nat.reduceAdd, Nat.reduceMul, Nat.reduceLeDiff, Nat.reduceLT, Nat.reduceBEq, Nat.reduceSub, Int.reduceToNat, Int.reduceNeg]
  · exact ⟨Nat.zero_le _, by omega⟩
  rintro i ⟨hi, hpre⟩
  by_cases hlt : i < l.length
  · have hltI : (i : Int) < l.length := by omega
    obtain ⟨x, hx⟩ : ∃ x, l[i]? = some x := ⟨l[i], List.getElem?_eq_getElem hlt⟩
    have hcall := hq x (List.mem_of_getElem? hx)
    simp (config := { maxSteps := 1000000 }) (disch := first | exact chk_rfl | (unfold Chk; decide +kernel) | omega | (simp only [cells_agg, List.length_cons, List.length_nil, List.length_map, List.length_take, List.length_append, Nat.zero_add, Nat.reduceAdd]; first | done | omega) | fail) only [hx, Rou.cells_len, Rou.isAgg, push_cast, ↓reduceIte, Nat.reduceEqDiff, Nat.reduceAdd, Nat.reduceMul, Nat.reduceLeDiff, Nat.reduceLT, Nat.reduceBEq, Nat.reduceSub, Int.reduceToNat, Int.reduceNeg]
    refine ACall.pure hcall (by rw [pvs_cons, pvs_map]; rfl) ?_
    simp (config := { maxSteps := 1000000 }) (disch := first | exact chk_rfl | (unfold Chk; decide +kernel) | omega | (simp only [cells_agg, List.length_cons, List.length_nil, List.length_map, List.length_take, List.length_append, Nat.zero_add, Nat.reduceAdd]; first | done | omega) | fail) only [push_cast, ↓reduceIte, Nat.reduceEqDiff, Nat.reduceAdd, Nat.reduceMul, Nat.reduceLeDiff, Nat.reduceLT, Nat.reduceBEq, Nat.reduceSub, Int.reduceToNat, Int.reduceNeg]
    refine ifB_cases (fun hqx => ?_) (fun hqx => ?_)
    · simp (config := { maxSteps := 1000000 }) (disch := first | exact chk_rfl | (unfold Chk; decide +kernel) | omega | (simp only [cells_agg, List.length_cons, List.length_nil, List.length_map, List.length_take, List.length_append, Nat.zero_add, Nat.reduceAdd]; first | done | omega) | fail) only [push_cast, ↓reduceIte, Nat.reduceEqDiff, Nat.reduceAdd, Nat.reduceMul, Nat.reduceLeDiff, Nat.reduceLT, Nat.reduceBEq, Nat.reduceSub, Int.reduceToNat, Int.reduceNeg]
      rw [find_some hx hqx hpre]; exact .refl _
    · simp (config := { maxSteps := 1000000 }) (disch := first | exact chk_rfl | (unfold Chk; decide +kernel) | omega | (simp only [cells_agg, List.length_cons, List.length_nil, List.length_map, List.length_take, List.length_append, Nat.zero_add, Nat.reduceAdd]; first | done | omega) | fail) only [push_cast, ↓reduceIte, Nat.reduceEqDiff, Nat.reduceAdd, Nat.reduceMul, Nat.reduceLeDiff, Nat.reduceLT, Nat.reduceBEq, Nat.reduceSub, Int.reduceToNat, Int.reduceNeg]
      refine ⟨i + 1, hd_z (by simp (config := { maxSteps := 1000000 }) (disch := first | exact chk_rfl | (unfold Chk; decide +kernel) | omega | (simp only [cells_agg, List.length_cons, List.length_nil, List.length_map, List.length_take, List.length_append, Nat.zero_add, Nat.reduceAdd]; first | done | omega) | fail) only [push_cast, ↓reduceIte, Nat.reduceEqDiff, Nat.reduceAdd, Nat.reduceMul, Nat.reduceLeDiff, Nat.reduceLT, Nat.reduceBEq, Nat.reduceSub, Int.reduceToNat, Int.reduceNeg]), ⟨by omega, fun j x hj hjx => ?_⟩, by omega⟩
      rcases Nat.lt_or_ge j i with h | h
      · exact hpre j x h hjx
      · have : j = i := by omega
        subst this
        rw [hx] at hjx; cases hjx; exact hqx
  · have hltI : ¬ (i : Int) < l.length := by omega
    simp (config := { maxSteps := 1000000 }) (disch := first | exact chk_rfl | (unfold Chk; decide +kernel) | omega | (simp only [cells_agg, List.length_cons, List.length_nil, List.length_map, List.length_take, List.length_append, Nat.zero_add, Nat.reduceAdd]; first | done | omega) | fail) only [push_cast, ↓reduceIte, Nat.reduceEqDiff, Nat.reduceAdd, Nat.reduceMul, Nat.reduceLeDiff, Nat.reduceLT, Nat.reduceBEq, Nat.reduceSub, Int.reduceToNat, Int.reduceNeg]
    rw [find_none (fun j x hj hjx => hpre j x (by omega) hjx)]; exact .refl _

theorem index85 (l : List Sch) (g : Nat) (cs : List PV) (q : Sch → Bool) (hq : ∀ x ∈ l, Pure Tryd.prog tabG g (x.pv :: cs) (.bool (q x))) (hmax : l.length ≤ maxLen) :
    Pure Tryd.prog tabG 85 [.list (l.map Sch.pv), .clo g [] cs] (.int .i64 (idxI (l.findIdx? q))) := by
  have hm : l.length ≤ 9223372036854775807 := by unfold maxLen at hmax; omega
  clear hmax
  refine Pure.intro F85_ok (by simp [F85]) ?_
  simp (config := { maxSteps := 1000000 }) (disch := first | exact chk_rfl | (unfold Chk; decide +kernel) | omega | (simp only [cells_agg, List.length_cons, List.length_nil, List.length_map, List.length_take, List.length_append, Nat.zero_add, Nat.reduceAdd]; first | done | omega) | fail) only [F85o0, F85o1, F85o2, F85o3, F85o4, F85o5, F85o6, F85b7, F85o8, F85c, F85, push_cast, ↓reduceIte, Nat.reduceEqDiff, Nat.reduceAdd, Nat.reduceMul, Nat.reduceLeDiff, Nat.reduceLT, Nat.reduceBEq, Nat.reduceSub, Int.reduceToNat, Int.reduceNeg]
  refine vc_over ([]) (fun i : Nat => [(8, .pv (.int .i64 (i : Int)))]) (fun _ => []) (fun i => i ≤ l.length ∧ ∀ j x, j < i → l[j]? = some x → q x = false) (fun i => l.length - i) (0) ?_; intro e0 σ0 n0 h0; simp (config := { maxSteps := 1000000 }) (disch := first | exact chk_rfl | (unfold Chk; decide +kernel) | omega | (simp only [cells_agg, List.length_cons, List.length_nil, List.length_map, List.length_take, List.length_append, Nat.zero_add, Nat.reduceAdd]; first | done | omega) | fail) only [push_cast, ↓reduceIte, Nat.reduceEqDiff, Nat.reduceAdd, Nat.reduceMul, Nat.reduceLeDiff, Nat.reduceLT, Nat.reduceBEq, Nat.reduceSub, Int.reduceToNat, Int.reduceNeg] at h0; obtain ⟨rfl, rfl, rfl⟩ := h0; refine ⟨?_, ?_, ?_⟩
  · simp (config := { maxSteps := 1000000 }) (disch := first | exact chk_rfl | (unfold Chk; decide +kernel) | omega | (simp only [cells_agg, List.length_cons, List.length_nil, List.length_map, List.length_take, List.length_append, Nat.zero_add, Nat.reduceAdd]; first | done | omega) | fail) only [push_cast, ↓reduceIte, Nat.reduceEqDiff, Nat.reduceAdd, Nat.reduceMul, Nat.reduceLeDiff, Nat.reduceLT, Nat.reduceBEq, Nat.reduceSub, Int.reduceToNat, Int.reduceNeg]
  · exact ⟨Nat.zero_le _, by omega⟩
  rintro i ⟨hi, hpre⟩
  by_cases hlt : i < l.length
  · have hltI : (i : Int) < l.length := by omega
    obtain ⟨x, hx⟩ : ∃ x, l[i]? = some x := ⟨l[i], List.getElem?_eq_getElem hlt⟩
    have hcall := hq x (List.mem_of_getElem? hx)
    simp (config := { maxSteps := 1000000 }) (disch := first | exact chk_rfl | (unfold Chk; decide +kernel) | omega | (simp only [cells_agg, List.length_cons, List.length_nil, List.length_map, List.length_take, List.length_append, Nat.zero_add, Nat.reduceAdd]; first | done | omega) | fail) only [hx, Sch.cells_len, Sch.isAgg, push_cast, ↓reduceIte, Nat.reduceEqDiff, Nat.reduceAdd, Nat.reduceMul, Nat.reduceLeDiff, Nat.reduceLT, Nat.reduceBEq, Nat.reduceSub, Int.reduceToNat, Int.reduceNeg]
    refine ACall.pure hcall (by rw [pvs_cons, pvs_map]; rfl) ?_
    simp (config := { maxSteps := 1000000 }) (disch := first | exact chk_rfl | (unfold Chk; decide +kernel) | omega | (simp only [cells_agg, List.length_cons, List.length_nil, List.length_map, List.length_take, List.length_append, Nat.zero_add, Nat.reduceAdd]; first | done | omega) | fail) only [push_cast, ↓reduceIte, Nat.reduceEqDiff, Nat.reduceAdd, Nat.reduceMul, Nat.reduceLeDiff, Nat.reduceLT, Nat.reduceBEq, Nat.reduceSub, Int.reduceToNat, Int.reduceNeg]
    refine ifB_cases (fun hqx => ?_) (fun hqx => ?_)
    · simp (config := { maxSteps := 1000000 }) (disch := first | exact chk_rfl | (unfold Chk; decide +kernel) | omega | (simp only [cells_agg, List.length_cons, List.length_nil, List.length_map, List.length_take, List.length_append, Nat.zero_add, Nat.reduceAdd]; first | done | omega) | fail) only [push_cast, ↓reduceIte, Nat.reduceEqDiff, Nat.reduceAdd, Nat.reduceMul, Nat.reduceLeDiff, Nat.reduceLT, Nat.reduceBEq, Nat.reduceSub, Int.reduceToNat, Int.reduceNeg]
      rw [find_some hx hqx hpre]; exact .refl _
    · simp (config := { maxSteps := 1000000 }) (disch := first | exact chk_rfl | (unfold Chk; decide +kernel) | omega | (simp only [cells_agg, List.length_cons, List.length_nil, List.length_map, List.length_take, List.length_append, Nat.zero_add, Nat.reduceAdd]; first | done | omega) | fail) only [push_cast, ↓reduceIte, Nat.reduceEqDiff, Nat.reduceAdd, Nat.reduceMul, Nat.reduceLeDiff, Nat.reduceLT, Nat.reduceBEq, Nat.reduceSub, Int.reduceToNat, Int.reduceNeg]
      refine ⟨i + 1, hd_z (by simp (config := { maxSteps := 1000000 }) (disch := first | exact chk_rfl | (unfold Chk; decide +kernel) | omega | (simp only [cells_agg, List.length_cons, List.length_nil, List.length_map, List.length_take, List.length_append, Nat.zero_add, Nat.reduceAdd]; first | done | omega) | fail) only [push_cast, ↓reduceIte, Nat.reduceEqDiff, Nat.reduceAdd, Nat.reduceMul, Nat.reduceLeDiff, Nat.reduceLT, Nat.reduceBEq, Nat.reduceSub, Int.reduceToNat, Int.reduceNeg]), ⟨by omega, fun j x hj hjx => ?_⟩, by omega⟩
      rcases Nat.lt_or_ge j i with h | h
      · exact hpre j x h hjx
      · have : j = i := by omega
        subst this
        rw [hx] at hjx; cases hjx; exact hqx
  · have hltI : ¬ (i : Int) < l.length := by omega
    simp (config := { maxSteps := 1000000 }) (disch := first | exact chk_rfl | (unfold Chk; decide +kernel) | omega | (simp only [cells_agg, List.length_cons, List.length_nil, List.length_map, List.length_take, List.length_append, Nat.zero_add, Nat.reduceAdd]; first | done | omega) | fail) only [push_cast, ↓reduceIte, Nat.reduceEqDiff, Nat.reduceAdd, Nat.reduceMul, Nat.reduceLeDiff, Nat.reduceLT, Nat.reduceBEq, Nat.reduceSub, Int.reduceToNat, Int.reduceNeg]
    rw [find_none (fun j x hj hjx => hpre j x (by omega) hjx)]; exact .refl _

theorem index79 (l : List Bra) (g : Nat) (cs : List PV) (q : Bra → Bool) (hq : ∀ x ∈ l, Pure Tryd.prog tabG g (x.pv :: cs) (.bool (q x))) (hmax : l.length ≤ maxLen) :
    Pure Tryd.prog tabG 79 [.list (l.map Bra.pv), .clo g [] cs] (.int .i64 (idxI (l.findIdx? q))) := by
  have hm : l.length ≤ 9223372036854775807 := by unfold maxLen at hmax; omega
  clear hmax
  refine Pure.intro F79_ok (by simp [F79]) ?_
  simp (config := { maxSteps := 1000000 }) (disch := first | exact chk_rfl | (unfold Chk; decide +kernel) | omega | (simp only [cells_agg, List.length_cons, List.length_nil, List.length_map, List.length_take, List.length_append, Nat.zero_add, Nat.reduceAdd]; first | done | omega) | fail) only [F79o0, F79o1, F79o2, F79o3, F79o4, F79o5, F79o6, F79b7, F79o8, F79c, F79, push_cast, ↓reduceIte, Nat.reduceEqDiff, Nat.reduceAdd, Nat.reduceMul, Nat.reduceLeDiff, Nat.reduceLT, Nat.reduceBEq, Nat.reduceSub, Int.reduceToNat, Int.reduceNeg]
  refine vc_over ([]) (fun i : Nat => [(8, .pv (.int .i64 (i : Int)))]) (fun _ => []) (fun i => i ≤ l.length ∧ ∀ j x, j < i → l[j]? = some x → q x = false) (fun i => l.length - i) (0) ?_; intro e0 σ0 n0 h0; simp (config := { maxSteps := 1000000 }) (disch := first | exact chk_rfl | (unfold Chk; decide +kernel) | omega | (simp only [cells_agg, List.length_cons, List.length_nil, List.length_map, List.length_take, List.length_append, Nat.zero_add, Nat.reduceAdd]; first | done | omega) | fail) only [push_cast, ↓reduceIte, Nat.reduceEqDiff, Nat.reduceAdd, Nat.reduceMul, Nat.reduceLeDiff, Nat.reduceLT, Nat.reduceBEq, Nat.reduceSub, Int.reduceToNat, Int.reduceNeg] at h0; obtain ⟨rfl, rfl, rfl⟩ := h0; refine ⟨?_, ?_, ?_⟩
  · simp (config := { maxSteps := 1000000 }) (disch := first | exact chk_rfl | (unfold Chk; decide +kernel) | omega | (simp only [cells_agg, List.length_cons, List.length_nil, List.length_map, List.length_take, List.length_append, Nat.zero_add, Nat.reduceAdd]; first | done | omega) | fail) only [push_cast, ↓reduceIte, Nat.reduceEqDiff, Nat.reduceAdd, Nat.reduceMul, Nat.reduceLeDiff, Nat.reduceLT, Nat.reduceBEq, Nat.reduceSub, Int.reduceToNat, Int.reduceNeg]
  · exact ⟨Nat.zero_le _, by omega⟩
  rintro i ⟨hi, hpre⟩
  by_cases hlt : i < l.length
  · have hltI : (i : Int) < l.length := by omega
    obtain ⟨x, hx⟩ : ∃ x, l[i]? = some x := ⟨l[i], List.getElem?_eq_getElem hlt⟩
    have hcall := hq x (List.mem_of_getElem? hx)
    simp (config := { maxSteps := 1000000 }) (disch := first | exact chk_rfl | (unfold Chk; decide +kernel) | omega | (simp only [cells_agg, List.length_cons, List.length_nil, List.length_map, List.length_take, List.length_append, Nat.zero_add, Nat.reduceAdd]; first | done | omega) | fail) only [hx, Bra.cells_len, Bra.isAgg, push_cast, ↓reduceIte, Nat.reduceEqDiff, Nat.reduceAdd, Nat.reduceMul, Nat.reduceLeDiff, Nat.reduceLT, Nat.reduceBEq, Nat.reduceSub, Int.reduceToNat, Int.reduceNeg]
    refine ACall.pure hcall (by rw [pvs_cons, pvs_map]; rfl) ?_
    simp (config := { maxSteps := 1000000 }) (disch := first | exact chk_rfl | (unfold Chk; decide +kernel) | omega | (simp only [cells_agg, List.length_cons, List.length_nil, List.length_map, List.length_take, List.length_append, Nat.zero_add, Nat.reduceAdd]; first | done | omega) | fail) only [push_cast, ↓reduceIte, Nat.reduceEqDiff, Nat.reduceAdd, Nat.reduceMul, Nat.reduceLeDiff, Nat.reduceLT, Nat.reduceBEq, Nat.reduceSub, Int.reduceToNat, Int.reduceNeg]
    refine ifB_cases (fun hqx => ?_) (fun hqx => ?_)
    · simp (config := { maxSteps := 1000000 }) (disch := first | exact chk_rfl | (unfold Chk; decide +kernel) | omega | (simp only [cells_agg, List.length_cons, List.length_nil, List.length_map, List.length_take, List.length_append, Nat.zero_add, Nat.reduceAdd]; first | done | omega) | fail) only [push_cast, ↓reduceIte, Nat.reduceEqDiff, Nat.reduceAdd, Nat.reduceMul, Nat.reduceLeDiff, Nat.reduceLT, Nat.reduceBEq, Nat.reduceSub, Int.reduceToNat, Int.reduceNeg]
      rw [find_some hx hqx hpre]; exact .refl _
    · simp (config := { maxSteps := 1000000 }) (disch := first | exact chk_rfl | (unfold Chk; decide +kernel) | omega | (simp only [cells_agg, List.length_cons, List.length_nil, List.length_map, List.length_take, List.length_append, Nat.zero_add, Nat.reduceAdd]; first | done | omega) | fail) only [push_cast, ↓reduceIte, Nat.reduceEqDiff, Nat.reduceAdd, Nat.reduceMul, Nat.reduceLeDiff, Nat.reduceLT, Nat.reduceBEq, Nat.reduceSub, Int.reduceToNat, Int.reduceNeg]
      refine ⟨i + 1, hd_z (by simp (config := { maxSteps := 1000000 }) (disch := first | exact chk_rfl | (unfold Chk; decide +kernel) | omega | (simp only [cells_agg, List.length_cons, List.length_nil, List.length_map, List.length_take, List.length_append, Nat.zero_add, Nat.reduceAdd]; first | done | omega) | fail) only [push_cast, ↓reduceIte, Nat.reduceEqDiff, Nat.reduceAdd, Nat.reduceMul, Nat.reduceLeDiff, Nat.reduceLT, Nat.reduceBEq, Nat.reduceSub, Int.reduceToNat, Int.reduceNeg]), ⟨by omega, fun j x hj hjx => ?_⟩, by omega⟩
      rcases Nat.lt_or_ge j i with h | h
      · exact hpre j x h hjx
      · have : j = i := by omega
        subst this
        rw [hx] at hjx; cases hjx; exact hqx
  · have hltI : ¬ (i : Int) < l.length := by omega
    simp (config := { maxSteps := 1000000 }) (disch := first | exact chk_rfl | (unfold Chk; decide +kernel) | omega | (simp only [cells_agg, List.length_cons, List.length_nil, List.length_map, List.length_take, List.length_append, Nat.zero_add, Nat.reduceAdd]; first | done | omega) | fail) only [push_cast, ↓reduceIte, Nat.reduceEqDiff, Nat.reduceAdd, Nat.reduceMul, Nat.reduceLeDiff, Nat.reduceLT, Nat.reduceBEq, Nat.reduceSub, Int.reduceToNat, Int.reduceNeg]
    rw [find_none (fun j x hj hjx => hpre j x (by omega) hjx)]; exact .refl _

theorem idx52 (l : List Enp) (g : Nat) (cs : List PV) (q : Enp → Bool) (hq : ∀ x ∈ l, Pure Tryd.prog tabG g (x.pv :: cs) (.bool (q x))) (hmax : l.length ≤ maxLen) :
    Pure Tryd.prog tabG 52 [.list (l.map Enp.pv), .clo g [] cs] (.tup [.int .i64 (max (idxI (l.findIdx? q)) 0), .bool (hasI (l.findIdx? q))]) := by
  refine Pure.intro F52_ok (by simp [F52]) ?_
  simp (config := { maxSteps := 1000000 }) (disch := first | exact chk_rfl | (unfold Chk; decide +kernel) | omega | (simp only [cells_agg, List.length_cons, List.length_nil, List.length_map, List.length_take, List.length_append, Nat.zero_add, Nat.reduceAdd]; first | done | omega) | fail) only [F52o0, F52o1, F52o2, F52c, F52, push_cast, ↓reduceIte, Nat.reduceEqDiff, Nat.reduceAdd, Nat.reduceMul, Nat.reduceLeDiff, Nat.reduceLT, Nat.reduceBEq, Nat.reduceSub, Int.reduceToNat, Int.reduceNeg]
  refine ACall.pure (index82 l g cs q hq hmax) rfl ?_
  simp (config := { maxSteps := 1000000 }) (disch := first | exact chk_rfl | (unfold Chk; decide +kernel) | omega | (simp only [cells_agg, List.length_cons, List.length_nil, List.length_map, List.length_take, List.length_append, Nat.zero_add, Nat.reduceAdd]; first | done | omega) | fail) only [hasI, push_cast, ↓reduceIte, Nat.reduceEqDiff, Nat.reduceAdd, Nat.reduceMul, Nat.reduceLeDiff, Nat.reduceLT, Nat.reduceBEq, Nat.reduceSub, Int.reduceToNat, Int.reduceNeg]

theorem idx54 (l : List Svc) (g : Nat) (cs : List PV) (q : Svc → Bool) (hq : ∀ x ∈ l, Pure Tryd.prog tabG g (x.pv :: cs) (.bool (q x))) (hmax : l.length ≤ maxLen) :
    Pure Tryd.prog tabG 54 [.list (l.map Svc.pv), .clo g [] cs] (.tup [.int .i64 (max (idxI (l.findIdx? q)) 0), .bool (hasI (l.findIdx? q))]) := by
  refine Pure.intro F54_ok (by simp [F54]) ?_
  simp (config := { maxSteps := 1000000 }) (disch := first | exact chk_rfl | (unfold Chk; decide +kernel) | omega | (simp only [cells_agg, List.length_cons, List.length_nil, List.length_map, List.length_take, List.length_append, Nat.zero_add, Nat.reduceAdd]; first | done | omega) | fail) only [F54o0, F54o1, F54o2, F54c, F54, push_cast, ↓reduceIte, Nat.reduceEqDiff, Nat.reduceAdd, Nat.reduceMul, Nat.reduceLeDiff, Nat.reduceLT, Nat.reduceBEq, Nat.reduceSub, Int.reduceToNat, Int.reduceNeg]
  refine ACall.pure (index83 l g cs q hq hmax) rfl ?_
  simp (config := { maxSteps := 1000000 }) (disch := first | exact chk_rfl | (unfold Chk; decide +kernel) | omega | (simp only [cells_agg, List.length_cons, List.length_nil, List.length_map, List.length_take, List.length_append, Nat.zero_add, Nat.reduceAdd]; first | done | omega) | fail) only [hasI, push_cast, ↓reduceIte, Nat.reduceEqDiff, Nat.reduceAdd, Nat.reduceMul, Nat.reduceLeDiff, Nat.reduceLT, Nat.reduceBEq, Nat.reduceSub, Int.reduceToNat, Int.reduceNeg]

theorem idx56 (l : List Rou) (g : Nat) (cs : List PV) (q : Rou → Bool) (hq : ∀ x ∈ l, Pure Tryd.prog tabG g (x.pv :: cs) (.bool (q x))) (hmax : l.length ≤ maxLen) :
    Pure Tryd.prog tabG 56 [.list (l.map Rou.pv), .clo g [] cs] (.tup [.int .i64 (max (idxI (l.findIdx? q)) 0), .bool (hasI (l.findIdx? q))]) := by
  refine Pure.intro F56_ok (by simp [F56]) ?_
  simp (config := { maxSteps := 1000000 }) (disch := first | exact chk_rfl | (unfold Chk; decide +kernel) | omega | (simp only [cells_agg, List.length_cons, List.length_nil, List.length_map, List.length_take, List.length_append, Nat.zero_add, Nat.reduceAdd]; first | done | omega) | fail) only [F56o0, F56o1, F56o2, F56c, F56, push_cast, ↓reduceIte, Nat.reduceEqDiff, Nat.reduceAdd, Nat.reduceMul, Nat.reduceLeDiff, Nat.reduceLT, Nat.reduceBEq, Nat.reduceSub, Int.reduceToNat, Int.reduceNeg]
  refine ACall.pure (index84 l g cs q hq hmax) rfl ?_
  simp (config := { maxSteps := 1000000 }) (disch := first | exact chk_rfl | (unfold Chk; decide +kernel) | omega | (simp only [cells_agg, List.length_cons, List.length_nil, List.length_map, List.length_take, List.length_append, Nat.zero_add, Nat.reduceAdd]; first | done | omega) | fail) only [hasI, push_cast, ↓reduceIte, Nat.reduceEqDiff, Nat.reduceAdd, Nat.reduceMul, Nat.reduceLeDiff, Nat.reduceLT, Nat.reduceBEq, Nat.reduceSub, Int.reduceToNat, Int.reduceNeg]

theorem idx58 (l : List Sch) (g : Nat) (cs : List PV) (q : Sch → Bool) (hq : ∀ x ∈ l, Pure Tryd.prog tabG g (x.pv :: cs) (.bool (q x))) (hmax : l.length ≤ maxLen) :
    Pure Tryd.prog tabG 58 [.list (l.map Sch.pv), .clo g [] cs] (.tup [.int .i64 (max (idxI (l.findIdx? q)) 0), .bool (hasI (l.findIdx? q))]) := by
  refine Pure.intro F58_ok (by simp [F58]) ?_
  simp (config := { maxSteps := 1000000 }) (disch := first | exact chk_rfl | (unfold Chk; decide +kernel) | omega | (simp only [cells_agg, List.length_cons, List.length_nil, List.length_map, List.length_take, List.length_append, Nat.zero_add, Nat.reduceAdd]; first | done | omega) | fail) only [F58o0, F58o1, F58o2, F58c, F58, push_cast, ↓reduceIte, Nat.reduceEqDiff, Nat.reduceAdd, Nat.reduceMul, Nat.reduceLeDiff, Nat.reduceLT, Nat.reduceBEq, Nat.reduceSub, Int.reduceToNat, Int.reduceNeg]
  refine ACall.pure (index85 l g cs q hq hmax) rfl ?_
  simp (config := { maxSteps := 1000000 }) (disch := first | exact chk_rfl | (unfold Chk; decide +kernel) | omega | (simp only [cells_agg, List.length_cons, List.length_nil, List.length_map, List.length_take, List.length_append, Nat.zero_add, Nat.reduceAdd]; first | done | omega) | fail) only [hasI, push_cast, ↓reduceIte, Nat.reduceEqDiff, Nat.reduceAdd, Nat.reduceMul, Nat.reduceLeDiff, Nat.reduceLT, Nat.reduceBEq, Nat.reduceSub, Int.reduceToNat, Int.reduceNeg]

theorem clo53 (x : Enp) (name : List UInt8) : Pure Tryd.prog tabG 53 [x.pv, .eptr [.str name] 0 0] (.bool (decide (x.name = name))) := by
  obtain ⟨nm, kk, sc, ve, fo⟩ := x
  obtain ⟨f1, f2, f3⟩ := fo
  refine Pure.intro F53_ok (by simp [F53]) ?_
  simp (config := { maxSteps := 1000000 }) (disch := first | exact chk_rfl | (unfold Chk; decide +kernel) | omega | (simp only [cells_agg, List.length_cons, List.length_nil, List.length_map, List.length_take, List.length_append, Nat.zero_add, Nat.reduceAdd]; first | done | omega) | fail) only [F53o0, F53o1, F53c, F53, Enp.pv_mk, Fmt.pv_mk, push_cast, ↓reduceIte, Nat.reduceEqDiff, Nat.reduceAdd, Nat.reduceMul, Nat.reduceLeDiff, Nat.reduceLT, Nat.reduceBEq, Nat.reduceSub, Int.reduceToNat, Int.reduceNeg]
  rfl
theorem find23 (p : Prg) (name : List UInt8) (hp : p.ok) : Pure Tryd.prog tabG 23 [p.pv, .str name] (.tup [.int .i64 (max (idxI (p.endpoints.findIdx? fun x => decide (x.name = name))) 0), .bool (hasI (p.endpoints.findIdx? fun x => decide (x.name = name)))]) := by
  obtain ⟨v, ss, es, ws, rs⟩ := p
  rw [Prg.ok_mk] at hp
  refine Pure.intro F23_ok (by simp [F23]) ?_
  simp (config := { maxSteps := 1000000 }) (disch := first | exact chk_rfl | (unfold Chk; decide +kernel) | omega | (simp only [cells_agg, List.length_cons, List.length_nil, List.length_map, List.length_take, List.length_append, Nat.zero_add, Nat.reduceAdd]; first | done | omega) | fail) only [F23o0, F23o1, F23c, F23, Prg.pv_mk, push_cast, ↓reduceIte, Nat.reduceEqDiff, Nat.reduceAdd, Nat.reduceMul, Nat.reduceLeDiff, Nat.reduceLT, Nat.reduceBEq, Nat.reduceSub, Int.reduceToNat, Int.reduceNeg]
  refine ACall.pure (idx52 _ 53 [.eptr [.str name] 0 0] _ (fun x _ => clo53 x name) (by first | exact hp.2.1 | exact hp.2.2.2.1 | exact hp.2.2.2.2.2.1 | exact hp.2.2.2.2.2.2.2.1)) rfl ?_
  simp (config := { maxSteps := 1000000 }) (disch := first | exact chk_rfl | (unfold Chk; decide +kernel) | omega | (simp only [cells_agg, List.length_cons, List.length_nil, List.length_map, List.length_take, List.length_append, Nat.zero_add, Nat.reduceAdd]; first | done | omega) | fail) only [push_cast, ↓reduceIte, Nat.reduceEqDiff, Nat.reduceAdd, Nat.reduceMul, Nat.reduceLeDiff, Nat.reduceLT, Nat.reduceBEq, Nat.reduceSub, Int.reduceToNat, Int.reduceNeg]
  exact ⟨rfl, rfl⟩

theorem clo55 (x : Svc) (name : List UInt8) : Pure Tryd.prog tabG 55 [x.pv, .eptr [.str name] 0 0] (.bool (decide (x.name = name))) := by
  obtain ⟨nm, rq, rp, un⟩ := x
  refine Pure.intro F55_ok (by simp [F55]) ?_
  simp (config := { maxSteps := 1000000 }) (disch := first | exact chk_rfl | (unfold Chk; decide +kernel) | omega | (simp only [cells_agg, List.length_cons, List.length_nil, List.length_map, List.length_take, List.length_append, Nat.zero_add, Nat.reduceAdd]; first | done | omega) | fail) only [F55o0, F55o1, F55c, F55, Svc.pv_mk, push_cast, ↓reduceIte, Nat.reduceEqDiff, Nat.reduceAdd, Nat.reduceMul, Nat.reduceLeDiff, Nat.reduceLT, Nat.reduceBEq, Nat.reduceSub, Int.reduceToNat, Int.reduceNeg]
  rfl
theorem find24 (p : Prg) (name : List UInt8) (hp : p.ok) : Pure Tryd.prog tabG 24 [p.pv, .str name] (.tup [.int .i64 (max (idxI (p.services.findIdx? fun x => decide (x.name = name))) 0), .bool (hasI (p.services.findIdx? fun x => decide (x.name = name)))]) := by
  obtain ⟨v, ss, es, ws, rs⟩ := p
  rw [Prg.ok_mk] at hp
  refine Pure.intro F24_ok (by simp [F24]) ?_
  simp (config := { maxSteps := 1000000 }) (disch := first | exact chk_rfl | (unfold Chk; decide +kernel) | omega | (simp only [cells_agg, List.length_cons, List.length_nil, List.length_map, List.length_take, List.length_append, Nat.zero_add, Nat.reduceAdd]; first | done | omega) | fail) only [F24o0, F24o1, F24c, F24, Prg.pv_mk, push_cast, ↓reduceIte, Nat.reduceEqDiff, Nat.reduceAdd, Nat.reduceMul, Nat.reduceLeDiff, Nat.reduceLT, Nat.reduceBEq, Nat.reduceSub, Int.reduceToNat, Int.reduceNeg]
  refine ACall.pure (idx54 _ 55 [.eptr [.str name] 0 0] _ (fun x _ => clo55 x name) (by first | exact hp.2.1 | exact hp.2.2.2.1 | exact hp.2.2.2.2.2.1 | exact hp.2.2.2.2.2.2.2.1)) rfl ?_
  simp (config := { maxSteps := 1000000 }) (disch := first | exact chk_rfl | (unfold Chk; decide +kernel) | omega | (simp only [cells_agg, List.length_cons, List.length_nil, List.length_map, List.length_take, List.length_append, Nat.zero_add, Nat.reduceAdd]; first | done | omega) | fail) only [push_cast, ↓reduceIte, Nat.reduceEqDiff, Nat.reduceAdd, Nat.reduceMul, Nat.reduceLeDiff, Nat.reduceLT, Nat.reduceBEq, Nat.reduceSub, Int.reduceToNat, Int.reduceNeg]
  exact ⟨rfl, rfl⟩

theorem clo57 (x : Rou) (name : List UInt8) : Pure Tryd.prog tabG 57 [x.pv, .eptr [.str name] 0 0] (.bool (decide (x.src = name))) := by
  obtain ⟨nm, fr, st⟩ := x
  refine Pure.intro F57_ok (by simp [F57]) ?_
  simp (config := { maxSteps := 1000000 }) (disch := first | exact chk_rfl | (unfold Chk; decide +kernel) | omega | (simp only [cells_agg, List.length_cons, List.length_nil, List.length_map, List.length_take, List.length_append, Nat.zero_add, Nat.reduceAdd]; first | done | omega) | fail) only [F57o0, F57o1, F57c, F57, Rou.pv_mk, push_cast, ↓reduceIte, Nat.reduceEqDiff, Nat.reduceAdd, Nat.reduceMul, Nat.reduceLeDiff, Nat.reduceLT, Nat.reduceBEq, Nat.reduceSub, Int.reduceToNat, Int.reduceNeg]
  rfl
theorem find25 (p : Prg) (name : List UInt8) (hp : p.ok) : Pure Tryd.prog tabG 25 [p.pv, .str name] (.tup [.int .i64 (max (idxI (p.routes.findIdx? fun x => decide (x.src = name))) 0), .bool (hasI (p.routes.findIdx? fun x => decide (x.src = name)))]) := by
  obtain ⟨v, ss, es, ws, rs⟩ := p
  rw [Prg.ok_mk] at hp
  refine Pure.intro F25_ok (by simp [F25]) ?_
  simp (config := { maxSteps := 1000000 }) (disch := first | exact chk_rfl | (unfold Chk; decide +kernel) | omega | (simp only [cells_agg, List.length_cons, List.length_nil, List.length_map, List.length_take, List.length_append, Nat.zero_add, Nat.reduceAdd]; first | done | omega) | fail) only [F25o0, F25o1, F25c, F25, Prg.pv_mk, push_cast, ↓reduceIte, Nat.reduceEqDiff, Nat.reduceAdd, Nat.reduceMul, Nat.reduceLeDiff, Nat.reduceLT, Nat.reduceBEq, Nat.reduceSub, Int.reduceToNat, Int.reduceNeg]
  refine ACall.pure (idx56 _ 57 [.eptr [.str name] 0 0] _ (fun x _ => clo57 x name) (by first | exact hp.2.1 | exact hp.2.2.2.1 | exact hp.2.2.2.2.2.1 | exact hp.2.2.2.2.2.2.2.1)) rfl ?_
  simp (config := { maxSteps := 1000000 }) (disch := first | exact chk_rfl | (unfold Chk; decide +kernel) | omega | (simp only [cells_agg, List.length_cons, List.length_nil, List.length_map, List.length_take, List.length_append, Nat.zero_add, Nat.reduceAdd]; first | done | omega) | fail) only [push_cast, ↓reduceIte, Nat.reduceEqDiff, Nat.reduceAdd, Nat.reduceMul, Nat.reduceLeDiff, Nat.reduceLT, Nat.reduceBEq, Nat.reduceSub, Int.reduceToNat, Int.reduceNeg]
  exact ⟨rfl, rfl⟩

/-! ### the first one, found from the end -/
section
variable {α : Type}
def firstI (l : List α) (q : α → Bool) (m : Nat) : Int :=
  match (l.drop m).findIdx? q with
  | some i => (m + i : Nat)
  | none => -1
theorem firstI_zero (l : List α) (q : α → Bool) : firstI l q 0 = idxI (l.findIdx? q) := by
  unfold firstI
  rw [List.drop_zero]
  cases l.findIdx? q <;> simp [idxI]
theorem firstI_end {l : List α} (q : α → Bool) {m : Nat} (h : l.length ≤ m) : firstI l q m = -1 := by
  unfold firstI
  rw [List.drop_eq_nil_of_le h]; rfl
theorem firstI_none {l : List α} (q : α → Bool) {m : Nat} (h : ¬ m < l.length) : firstI l q m = firstI l q (m + 1) := by
  rw [firstI_end q (by omega), firstI_end q (by omega)]
theorem firstI_eq {l : List α} {q : α → Bool} {m : Nat} {x : α} (h : l[m]? = some x) (hq : q x = true) : firstI l q m = m := by
  obtain ⟨h1, h2⟩ := List.getElem?_eq_some_iff.1 h
  unfold firstI
  rw [List.drop_eq_getElem_cons h1, h2, List.findIdx?_cons, hq]; simp
theorem firstI_ne {l : List α} {q : α → Bool} {m : Nat} {x : α} (h : l[m]? = some x) (hq : q x = false) : firstI l q m = firstI l q (m + 1) := by
  obtain ⟨h1, h2⟩ := List.getElem?_eq_some_iff.1 h
  unfold firstI
  rw [List.drop_eq_getElem_cons h1, h2, List.findIdx?_cons, hq]
  simp only [Bool.false_eq_true, if_false]
  cases (l.drop (m + 1)).findIdx? q with
  | none => rfl
  | some i => simp only [Option.map_some]; omega
end
end Go.Proofs.YtfbakipopjoghaaDoor
