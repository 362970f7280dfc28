/- A part of the proof for ResolveWalksCardSaid. -/
import Derived.Test.YtfbakipopjoghaaDoorWalkXW3
set_option maxRecDepth 100000
set_option linter.unusedVariables false
set_option linter.unusedSimpArgs false
namespace Go.Proofs.YtfbakipopjoghaaDoor
open Go Go.Ab

set_option maxHeartbeats 4000000 in
/-- The law's own walk. -/
theorem steps69 (route : Int) : ∀ (n : Nat) (p : List Int) (l : List Stp), Bnd n l → p.length + 2 * n ≤ 1000 → cnt n ≤ 100000000 →
    Pure Tryd.prog tabG 69 [.int .i64 route, .list (p.map (PV.int .i64)), .list (l.map Stp.pv)] (.list ((stepsW route n p l).map Wkd.pv)) := by
  intro n
  induction n with
  | zero =>
    intro p l hB hp hc
    obtain rfl : l = [] := hB
    refine Pure.intro F69_ok (by simp [F69]) ?_
    simp (config := { maxSteps := 1000000 }) (disch := first | exact chk_rfl | (unfold Chk; decide +kernel) | omega | (simp only [cells_agg, List.length_cons, List.length_nil, List.length_map, List.length_take, List.length_append, Nat.zero_add, Nat.reduceAdd]; first | done | omega) | fail) only [F69o0, F69o1, F69o2, F69o3, F69o4, F69o5, F69o6, F69o7, F69o8, F69p8, F69o9, F69b10, F69o11, F69b12, F69o13, F69c, F69, stepsW, push_cast, ↓reduceIte, Nat.reduceEqDiff, Nat.reduceAdd, Nat.reduceMul, Nat.reduceLeDiff, Nat.reduceLT, Nat.reduceBEq, Nat.reduceSub, Int.reduceToNat, Int.reduceNeg]
    refine vc_over ([(7, 0, 79, 13)]) (fun m : Nat => []) (fun m => []) (fun m => m = 0) (fun m => m) (0) ?_; intro e0 σ0 n0 h0; simp (config := { maxSteps := 1000000 }) (disch := first | exact chk_rfl | (unfold Chk; decide +kernel) | omega | (simp only [cells_agg, List.length_cons, List.length_nil, List.length_map, List.length_take, List.length_append, Nat.zero_add, Nat.reduceAdd]; first | done | omega) | fail) only [push_cast, ↓reduceIte, Nat.reduceEqDiff, Nat.reduceAdd, Nat.reduceMul, Nat.reduceLeDiff, Nat.reduceLT, Nat.reduceBEq, Nat.reduceSub, Int.reduceToNat, Int.reduceNeg] at h0; obtain ⟨rfl, rfl, rfl⟩ := h0; refine ⟨?_, ?_, ?_⟩
    · simp (config := { maxSteps := 1000000 }) (disch := first | exact chk_rfl | (unfold Chk; decide +kernel) | omega | (simp only [cells_agg, List.length_cons, List.length_nil, List.length_map, List.length_take, List.length_append, Nat.zero_add, Nat.reduceAdd]; first | done | omega) | fail) only [push_cast, ↓reduceIte, Nat.reduceEqDiff, Nat.reduceAdd, Nat.reduceMul, Nat.reduceLeDiff, Nat.reduceLT, Nat.reduceBEq, Nat.reduceSub, Int.reduceToNat, Int.reduceNeg]
    · rfl
    · intro m hm
      simp (config := { maxSteps := 1000000 }) (disch := first | exact chk_rfl | (unfold Chk; decide +kernel) | omega | (simp only [cells_agg, List.length_cons, List.length_nil, List.length_map, List.length_take, List.length_append, Nat.zero_add, Nat.reduceAdd]; first | done | omega) | fail) only [push_cast, ↓reduceIte, Nat.reduceEqDiff, Nat.reduceAdd, Nat.reduceMul, Nat.reduceLeDiff, Nat.reduceLT, Nat.reduceBEq, Nat.reduceSub, Int.reduceToNat, Int.reduceNeg]
  | succ n ih =>
    intro p l hB hp hc
    have hcw := stepsW_len route (n + 1) p l hB
    obtain ⟨hB1, hB2⟩ := hB
    have hcn : cnt n ≤ 100000000 := by simp only [cnt] at hc; omega
    refine Pure.intro F69_ok (by simp [F69]) ?_
    rw [stepsW] at hcw ⊢
    generalize hF : (fun (s : Stp) (i : Nat) => Wkd.mk route (p ++ [(i : Int)]) s :: ixMap (fun b j => stepsW route n ((p ++ [(i : Int)]) ++ [(j : Int)]) b.steps) s.branches) = F at hcw ⊢
    simp (config := { maxSteps := 1000000 }) (disch := first | exact chk_rfl | (unfold Chk; decide +kernel) | omega | (simp only [cells_agg, List.length_cons, List.length_nil, List.length_map, List.length_take, List.length_append, Nat.zero_add, Nat.reduceAdd]; first | done | omega) | fail) only [F69o0, F69o1, F69o2, F69o3, F69o4, F69o5, F69o6, F69o7, F69o8, F69p8, F69o9, F69b10, F69o11, F69b12, F69o13, F69c, F69, push_cast, ↓reduceIte, Nat.reduceEqDiff, Nat.reduceAdd, Nat.reduceMul, Nat.reduceLeDiff, Nat.reduceLT, Nat.reduceBEq, Nat.reduceSub, Int.reduceToNat, Int.reduceNeg]
    refine vc_over ([(7, 0, 79, 13)]) (fun m : Nat => [(7, .olist 0 13 ((ixMap F (l.take m)).map Wkd.pv)), (8, .pv (.int .i64 (m : Int)))]) (fun m => []) (fun m => m ≤ l.length) (fun m => l.length - m) (0) ?_; intro e0 σ0 n0 h0; simp (config := { maxSteps := 1000000 }) (disch := first | exact chk_rfl | (unfold Chk; decide +kernel) | omega | (simp only [cells_agg, List.length_cons, List.length_nil, List.length_map, List.length_take, List.length_append, Nat.zero_add, Nat.reduceAdd]; first | done | omega) | fail) only [push_cast, ↓reduceIte, Nat.reduceEqDiff, Nat.reduceAdd, Nat.reduceMul, Nat.reduceLeDiff, Nat.reduceLT, Nat.reduceBEq, Nat.reduceSub, Int.reduceToNat, Int.reduceNeg] at h0; obtain ⟨rfl, rfl, rfl⟩ := h0; refine ⟨?_, ?_, ?_⟩
    · simp (config := { maxSteps := 1000000 }) (disch := first | exact chk_rfl | (unfold Chk; decide +kernel) | omega | (simp only [cells_agg, List.length_cons, List.length_nil, List.length_map, List.length_take, List.length_append, Nat.zero_add, Nat.reduceAdd]; first | done | omega) | fail) only [ixMap_nil, push_cast, ↓reduceIte, Nat.reduceEqDiff, Nat.reduceAdd, Nat.reduceMul, Nat.reduceLeDiff, Nat.reduceLT, Nat.reduceBEq, Nat.reduceSub, Int.reduceToNat, Int.reduceNeg]
    · omega
    · intro m hm
      by_cases hlt : m < l.length
      · have hltI : (m : Int) < l.length := by omega
        obtain ⟨x, hx⟩ : ∃ x, l[m]? = some x := ⟨_, List.getElem?_eq_getElem hlt⟩
        obtain ⟨hb1, hb2⟩ := hB2 x (List.mem_of_getElem? hx)
        have hwl : (ixMap F (l.take m)).length ≤ cnt (n + 1) := Nat.le_trans (ixMap_take_le F l m) hcw
        have hFx := congrFun (congrFun hF x) m
        have hsn := ixMap_snoc F hx
        have hcat0 : ([] : List PV) ++ p.map (PV.int .i64) ++ [PV.int .i64 (m : Int)] = (p ++ [(m : Int)]).map (PV.int .i64) := by simp
        obtain ⟨x1, x2, x3, x4, x5, x6, x7, x8, x9, x10, k⟩ := x
        simp only [Stp.branches] at hb1 hb2 hFx
        generalize hF2 : (fun (b : Bra) (j : Nat) => stepsW route n ((p ++ [(m : Int)]) ++ [(j : Int)]) b.steps) = F2 at hFx
        have hk3 : ∀ j, (ixMap F2 (k.take j)).length ≤ 4 * cnt n := fun j => Nat.le_trans (ixMap_len F2 (cnt n) (k.take j) (fun b hb i => by rw [← hF2]; exact stepsW_len route n _ _ (hb2 b (List.mem_of_mem_take hb)))) (Nat.mul_le_mul_right _ (by rw [List.length_take]; omega))
        simp (config := { maxSteps := 1000000 }) (disch := first | exact chk_rfl | (unfold Chk; decide +kernel) | omega | (simp only [cells_agg, List.length_cons, List.length_nil, List.length_map, List.length_take, List.length_append, Nat.zero_add, Nat.reduceAdd]; first | done | omega) | fail) only [hx, Stp.pv_mk, push_cast, ↓reduceIte, Nat.reduceEqDiff, Nat.reduceAdd, Nat.reduceMul, Nat.reduceLeDiff, Nat.reduceLT, Nat.reduceBEq, Nat.reduceSub, Int.reduceToNat, Int.reduceNeg]
        refine vc_over ([]) (fun j : Nat => [(7, .olist 0 13 ((ixMap F (l.take m) ++ Wkd.mk route (p ++ [(m : Int)]) (.mk x1 x2 x3 x4 x5 x6 x7 x8 x9 x10 k) :: ixMap F2 (k.take j)).map Wkd.pv)), (10, .pv (.int .i64 (j : Int)))]) (fun j => []) (fun j => j ≤ k.length) (fun j => k.length - j) (0) ?_; intro e0 σ0 n0 h0; simp (config := { maxSteps := 1000000 }) (disch := first | exact chk_rfl | (unfold Chk; decide +kernel) | omega | (simp only [cells_agg, List.length_cons, List.length_nil, List.length_map, List.length_take, List.length_append, Nat.zero_add, Nat.reduceAdd]; first | done | omega) | fail) only [push_cast, ↓reduceIte, Nat.reduceEqDiff, Nat.reduceAdd, Nat.reduceMul, Nat.reduceLeDiff, Nat.reduceLT, Nat.reduceBEq, Nat.reduceSub, Int.reduceToNat, Int.reduceNeg] at h0; obtain ⟨rfl, rfl, rfl⟩ := h0; refine ⟨?_, ?_, ?_⟩
        · simp (config := { maxSteps := 1000000 }) (disch := first | exact chk_rfl | (unfold Chk; decide +kernel) | omega | (simp only [cells_agg, List.length_cons, List.length_nil, List.length_map, List.length_take, List.length_append, Nat.zero_add, Nat.reduceAdd]; first | done | omega) | fail) only [ixMap_nil, Wkd.pv_mk, Stp.pv_mk, List.map_append, push_cast, ↓reduceIte, Nat.reduceEqDiff, Nat.reduceAdd, Nat.reduceMul, Nat.reduceLeDiff, Nat.reduceLT, Nat.reduceBEq, Nat.reduceSub, Int.reduceToNat, Int.reduceNeg]
        · omega
        · intro j hj
          by_cases hlj : j < k.length
          · have hljI : (j : Int) < k.length := by omega
            obtain ⟨b, hb⟩ : ∃ b, k[j]? = some b := ⟨_, List.getElem?_eq_getElem hlj⟩
            have hbB := hb2 b (List.mem_of_getElem? hb)
            have hsn2 := ixMap_snoc F2 hb
            have hF2b := congrFun (congrFun hF2 b) j
            have hl4 := stepsW_len route n ((p ++ [(m : Int)]) ++ [(j : Int)]) b.steps hbB
            obtain ⟨b1, b2⟩ := b
            simp only [Bra.steps] at hbB hF2b hl4
            have hih := ih ((p ++ [(m : Int)]) ++ [(j : Int)]) b2 hbB (by simp; omega) hcn
            have hk3j := hk3 j
            simp only [List.map_append, List.map_cons, List.map_nil, List.append_assoc, List.cons_append, List.nil_append] at hih hl4
            simp (config := { maxSteps := 1000000 }) (disch := first | exact chk_rfl | (unfold Chk; decide +kernel) | omega | (simp only [cells_agg, List.length_cons, List.length_nil, List.length_map, List.length_take, List.length_append, Nat.zero_add, Nat.reduceAdd]; first | done | omega) | fail) only [hx, hb, Bra.pv_mk, Stp.pv_mk, push_cast, ↓reduceIte, Nat.reduceEqDiff, Nat.reduceAdd, Nat.reduceMul, Nat.reduceLeDiff, Nat.reduceLT, Nat.reduceBEq, Nat.reduceSub, Int.reduceToNat, Int.reduceNeg]
            refine callDL_pure hih rfl ?_
            simp (config := { maxSteps := 1000000 }) (disch := first | exact chk_rfl | (unfold Chk; decide +kernel) | omega | (simp only [cells_agg, List.length_cons, List.length_nil, List.length_map, List.length_take, List.length_append, Nat.zero_add, Nat.reduceAdd]; first | done | omega) | fail) only [wkd_all, push_cast, ↓reduceIte, Nat.reduceEqDiff, Nat.reduceAdd, Nat.reduceMul, Nat.reduceLeDiff, Nat.reduceLT, Nat.reduceBEq, Nat.reduceSub, Int.reduceToNat, Int.reduceNeg]
            exact ⟨j + 1, hd_z (by simp (config := { maxSteps := 1000000 }) (disch := first | exact chk_rfl | (unfold Chk; decide +kernel) | omega | (simp only [cells_agg, List.length_cons, List.length_nil, List.length_map, List.length_take, List.length_append, Nat.zero_add, Nat.reduceAdd]; first | done | omega) | fail) only [hsn2, ← hF2b, List.append_assoc, List.map_append, push_cast, ↓reduceIte, Nat.reduceEqDiff, Nat.reduceAdd, Nat.reduceMul, Nat.reduceLeDiff, Nat.reduceLT, Nat.reduceBEq, Nat.reduceSub, Int.reduceToNat, Int.reduceNeg]), by omega, by omega⟩
          · have hljI : ¬ (j : Int) < k.length := by omega
            have hle : k.take j = k := List.take_of_length_le (by omega)
            simp (config := { maxSteps := 1000000 }) (disch := first | exact chk_rfl | (unfold Chk; decide +kernel) | omega | (simp only [cells_agg, List.length_cons, List.length_nil, List.length_map, List.length_take, List.length_append, Nat.zero_add, Nat.reduceAdd]; first | done | omega) | fail) only [hx, hle, Stp.pv_mk, push_cast, ↓reduceIte, Nat.reduceEqDiff, Nat.reduceAdd, Nat.reduceMul, Nat.reduceLeDiff, Nat.reduceLT, Nat.reduceBEq, Nat.reduceSub, Int.reduceToNat, Int.reduceNeg]
            exact ⟨m + 1, hd_z (by simp (config := { maxSteps := 1000000 }) (disch := first | exact chk_rfl | (unfold Chk; decide +kernel) | omega | (simp only [cells_agg, List.length_cons, List.length_nil, List.length_map, List.length_take, List.length_append, Nat.zero_add, Nat.reduceAdd]; first | done | omega) | fail) only [hsn, ← hFx, List.append_assoc, push_cast, ↓reduceIte, Nat.reduceEqDiff, Nat.reduceAdd, Nat.reduceMul, Nat.reduceLeDiff, Nat.reduceLT, Nat.reduceBEq, Nat.reduceSub, Int.reduceToNat, Int.reduceNeg]), by omega, by omega⟩
      · have hltI : ¬ (m : Int) < l.length := by omega
        have hle : l.take m = l := List.take_of_length_le (by omega)
        simp (config := { maxSteps := 1000000 }) (disch := first | exact chk_rfl | (unfold Chk; decide +kernel) | omega | (simp only [cells_agg, List.length_cons, List.length_nil, List.length_map, List.length_take, List.length_append, Nat.zero_add, Nat.reduceAdd]; first | done | omega) | fail) only [hle, push_cast, ↓reduceIte, Nat.reduceEqDiff, Nat.reduceAdd, Nat.reduceMul, Nat.reduceLeDiff, Nat.reduceLT, Nat.reduceBEq, Nat.reduceSub, Int.reduceToNat, Int.reduceNeg]
end Go.Proofs.YtfbakipopjoghaaDoor
