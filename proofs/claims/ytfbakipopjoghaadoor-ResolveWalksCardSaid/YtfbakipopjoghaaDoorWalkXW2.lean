/- A part of the proof for ResolveWalksCardSaid. -/
import Derived.Test.YtfbakipopjoghaaDoorWalkXW
import Derived.Test.YtfbakipopjoghaaDoorWalkXS
set_option maxRecDepth 100000
set_option linter.unusedVariables false
set_option linter.unusedSimpArgs false
namespace Go.Proofs.YtfbakipopjoghaaDoor
open Go Go.Ab

/-- What visit's closure is lent: the boxes of the place, of the function, of itself, of the list that is made; the place; the right to append. -/
def visitB (route : Int) (p : List Int) (ws : List Wkd) : List Blk :=
  [.cells 35 true [.row 4 1 0 p.length], .cells 129 true [.clo 92 [] [.ptr 3 0, .pv (.eptr [.int .i64 route] 0 0)]], .cells 168 true [.clo 102 [] [.ptr 0 0, .ptr 1 0, .ptr 2 0]], .cells 73 true [.olist 5 13 (ws.map Wkd.pv)],
    .cells 3 false ((p.map (PV.int .i64)).map .pv), .tok 79 13]

theorem ixMap_take_le {α β : Type} (F : α → Nat → List β) (l : List α) (m : Nat) : (ixMap F (l.take m)).length ≤ (ixMap F l).length := by
  have e : ixMap F l = ixMap F (l.take m) ++ ((l.drop m).zipIdx (l.take m).length).flatMap fun q => F q.1 q.2 := by
    conv => lhs; rw [← List.take_append_drop m l]
    simp only [ixMap, List.zipIdx_append, List.flatMap_append, Nat.zero_add]
  rw [e, List.length_append]; omega

set_option maxHeartbeats 4000000 in
theorem visit102 (route : Int) : ∀ (n : Nat) (p : List Int) (l : List Stp) (ws : List Wkd), Bnd n l → okL l → p.length + 2 * n ≤ 1000 → ws.length + cnt n ≤ 900000000 →
    Lent Tryd.prog tabG 4 102 [.pv (.list (l.map Stp.pv)), .ptr 0 0, .ptr 1 0, .ptr 2 0] (visitB route p ws) (.pv (.tup [])) (visitB route p (ws ++ stepsW route n p l)) := by
  intro n
  induction n with
  | zero =>
    intro p l ws hB hl hp hw
    obtain rfl : l = [] := hB
    refine Lent.intro F102_ok (by simp [F102]) ?_
    simp (config := { maxSteps := 1000000 }) (disch := first | exact chk_rfl | (unfold Chk; decide +kernel) | omega | (simp only [cells_agg, List.length_cons, List.length_nil, List.length_map, List.length_take, List.length_append, Nat.zero_add, Nat.reduceAdd]; first | done | omega) | fail) only [F102o0, F102o1, F102o2, F102o3, F102o4, F102p4, F102o5, F102o6, F102o7, F102o8, F102o9, F102p9, F102o10, F102o11, F102b12, F102o13, F102o14, F102b15, F102c, F102, visitB, stepsW, push_cast, ↓reduceIte, Nat.reduceEqDiff, Nat.reduceAdd, Nat.reduceMul, Nat.reduceLeDiff, Nat.reduceLT, Nat.reduceBEq, Nat.reduceSub, Int.reduceToNat, Int.reduceNeg]
    refine vc_over ([]) (fun m : Nat => []) (fun m => []) (fun m => m = 0) (fun m => m) (0) ?_; intro e0 σ0 n0 h0; simp (config := { maxSteps := 1000000 }) (disch := first | exact chk_rfl | (unfold Chk; decide +kernel) | omega | (simp only [cells_agg, List.length_cons, List.length_nil, List.length_map, List.length_take, List.length_append, Nat.zero_add, Nat.reduceAdd]; first | done | omega) | fail) only [push_cast, ↓reduceIte, Nat.reduceEqDiff, Nat.reduceAdd, Nat.reduceMul, Nat.reduceLeDiff, Nat.reduceLT, Nat.reduceBEq, Nat.reduceSub, Int.reduceToNat, Int.reduceNeg] at h0; obtain ⟨rfl, rfl, rfl⟩ := h0; refine ⟨?_, ?_, ?_⟩
    · simp (config := { maxSteps := 1000000 }) (disch := first | exact chk_rfl | (unfold Chk; decide +kernel) | omega | (simp only [cells_agg, List.length_cons, List.length_nil, List.length_map, List.length_take, List.length_append, Nat.zero_add, Nat.reduceAdd]; first | done | omega) | fail) only [push_cast, ↓reduceIte, Nat.reduceEqDiff, Nat.reduceAdd, Nat.reduceMul, Nat.reduceLeDiff, Nat.reduceLT, Nat.reduceBEq, Nat.reduceSub, Int.reduceToNat, Int.reduceNeg]
    · rfl
    · intro m hm
      simp (config := { maxSteps := 1000000 }) (disch := first | exact chk_rfl | (unfold Chk; decide +kernel) | omega | (simp only [cells_agg, List.length_cons, List.length_nil, List.length_map, List.length_take, List.length_append, Nat.zero_add, Nat.reduceAdd]; first | done | omega) | fail) only [push_cast, ↓reduceIte, Nat.reduceEqDiff, Nat.reduceAdd, Nat.reduceMul, Nat.reduceLeDiff, Nat.reduceLT, Nat.reduceBEq, Nat.reduceSub, Int.reduceToNat, Int.reduceNeg]
      exact lent_z [] (by simp (config := { maxSteps := 1000000 }) (disch := first | exact chk_rfl | (unfold Chk; decide +kernel) | omega | (simp only [cells_agg, List.length_cons, List.length_nil, List.length_map, List.length_take, List.length_append, Nat.zero_add, Nat.reduceAdd]; first | done | omega) | fail) only [visitB, push_cast, ↓reduceIte, Nat.reduceEqDiff, Nat.reduceAdd, Nat.reduceMul, Nat.reduceLeDiff, Nat.reduceLT, Nat.reduceBEq, Nat.reduceSub, Int.reduceToNat, Int.reduceNeg])
  | succ n ih =>
    intro p l ws hB hl hp hw
    have hcw := stepsW_len route (n + 1) p l hB
    obtain ⟨hB1, hB2⟩ := hB
    obtain ⟨hl1, hl2⟩ := hl
    refine Lent.intro F102_ok (by simp [F102]) ?_
    rw [stepsW] at hcw ⊢
    generalize hF : (fun (s : Stp) (i : Nat) => Wkd.mk route (p ++ [(i : Int)]) s :: ixMap (fun b j => stepsW route n ((p ++ [(i : Int)]) ++ [(j : Int)]) b.steps) s.branches) = F at hcw ⊢
    simp (config := { maxSteps := 1000000 }) (disch := first | exact chk_rfl | (unfold Chk; decide +kernel) | omega | (simp only [cells_agg, List.length_cons, List.length_nil, List.length_map, List.length_take, List.length_append, Nat.zero_add, Nat.reduceAdd]; first | done | omega) | fail) only [F102o0, F102o1, F102o2, F102o3, F102o4, F102p4, F102o5, F102o6, F102o7, F102o8, F102o9, F102p9, F102o10, F102o11, F102b12, F102o13, F102o14, F102b15, F102c, F102, visitB, push_cast, ↓reduceIte, Nat.reduceEqDiff, Nat.reduceAdd, Nat.reduceMul, Nat.reduceLeDiff, Nat.reduceLT, Nat.reduceBEq, Nat.reduceSub, Int.reduceToNat, Int.reduceNeg]
    refine vc_over ([]) (fun m : Nat => [(9, .pv (.int .i64 (m : Int)))]) (fun m => [(3, .cells 73 true [.olist 5 13 ((ws ++ ixMap F (l.take m)).map Wkd.pv)])]) (fun m => m ≤ l.length) (fun m => l.length - m) (0) ?_; intro e0 σ0 n0 h0; simp (config := { maxSteps := 1000000 }) (disch := first | exact chk_rfl | (unfold Chk; decide +kernel) | omega | (simp only [cells_agg, List.length_cons, List.length_nil, List.length_map, List.length_take, List.length_append, Nat.zero_add, Nat.reduceAdd]; first | done | omega) | fail) only [push_cast, ↓reduceIte, Nat.reduceEqDiff, Nat.reduceAdd, Nat.reduceMul, Nat.reduceLeDiff, Nat.reduceLT, Nat.reduceBEq, Nat.reduceSub, Int.reduceToNat, Int.reduceNeg] at h0; obtain ⟨rfl, rfl, rfl⟩ := h0; refine ⟨?_, ?_, ?_⟩
    · simp (config := { maxSteps := 1000000 }) (disch := first | exact chk_rfl | (unfold Chk; decide +kernel) | omega | (simp only [cells_agg, List.length_cons, List.length_nil, List.length_map, List.length_take, List.length_append, Nat.zero_add, Nat.reduceAdd]; first | done | omega) | fail) only [ixMap_nil, push_cast, ↓reduceIte, Nat.reduceEqDiff, Nat.reduceAdd, Nat.reduceMul, Nat.reduceLeDiff, Nat.reduceLT, Nat.reduceBEq, Nat.reduceSub, Int.reduceToNat, Int.reduceNeg]
    · omega
    · intro m hm
      by_cases hlt : m < l.length
      · have hltI : (m : Int) < l.length := by omega
        obtain ⟨x, hx⟩ : ∃ x, l[m]? = some x := ⟨_, List.getElem?_eq_getElem hlt⟩
        have hxo := hl2 x (List.mem_of_getElem? hx)
        obtain ⟨hb1, hb2⟩ := hB2 x (List.mem_of_getElem? hx)
        have hcat : ∀ (q : List Int) (k : Int), List.map AV.pv (List.map (PV.int .i64) (List.take (q.length * 1) q)) ++ flat [PV.int .i64 k] = List.map AV.pv (List.map (PV.int .i64) (q ++ [k])) := by
          intro q k
          rw [List.take_of_length_le (by omega)]
          simp [flat, PV.cells]
        have hwl : (ixMap F (l.take m)).length ≤ cnt (n + 1) := Nat.le_trans (ixMap_take_le F l m) hcw
        have hws : (ws ++ ixMap F (l.take m)).length ≤ 900000000 := by rw [List.length_append]; omega
        have h92 := walk92 (p ++ [(m : Int)]) (by simp) (by simp; omega) (ws ++ ixMap F (l.take m)) (by omega) l m x hx hxo route
        have hpl : (p ++ [(m : Int)]).length = p.length + 1 := by simp
        rw [hpl] at h92
        have hpre : AVzP (List.map AV.pv (List.map (PV.int .i64) (p ++ [(m : Int)]))) (List.map AV.pv (List.map (PV.int .i64) p)) := by
          rw [List.map_append, List.map_append]; exact AVzP.app _ _
        have hwl7 : (ixMap F (l.take m)).length ≤ 7 * (1 + 4 * cnt n) := Nat.le_trans (ixMap_len F (1 + 4 * cnt n) (l.take m) (fun x hx i => by
          obtain ⟨h3, h4⟩ := hB2 x (List.mem_of_mem_take hx)
          rw [← hF]
          have := ixMap_len (fun b j => stepsW route n ((p ++ [(i : Int)]) ++ [(j : Int)]) b.steps) (cnt n) x.branches fun b hb j => stepsW_len route n _ _ (h4 b hb)
          have h5 : x.branches.length * cnt n ≤ 4 * cnt n := Nat.mul_le_mul_right _ h3
          simp only [List.length_cons]
          omega)) (Nat.mul_le_mul_right _ (by rw [List.length_take]; omega))
        have hpl2 : ∀ j : Int, ((p ++ [(m : Int)]) ++ [j]).length = p.length + 1 + 1 := fun j => by simp
        have hcat2 : ∀ (k : Int), List.map AV.pv (List.map (PV.int .i64) (List.take ((p.length + 1) * 1) (p ++ [(m : Int)]))) ++ flat [PV.int .i64 k] = List.map AV.pv (List.map (PV.int .i64) ((p ++ [(m : Int)]) ++ [k])) := by
          intro k
          rw [List.take_of_length_le (by simp)]
          simp [flat, PV.cells]
        have hFx := congrFun (congrFun hF x) m
        have hsn := ixMap_snoc F hx
        obtain ⟨x1, x2, x3, x4, x5, x6, x7, x8, x9, x10, k⟩ := x
        simp only [Stp.branches] at hb1 hb2 hFx
        rw [Stp.ok_mk] at hxo
        obtain ⟨_, _, _, _, _, _, _, _, _, _, _, _, _, hk1, hk2⟩ := hxo
        simp (config := { maxSteps := 1000000 }) (disch := first | exact chk_rfl | (unfold Chk; decide +kernel) | omega | (simp only [cells_agg, List.length_cons, List.length_nil, List.length_map, List.length_take, List.length_append, Nat.zero_add, Nat.reduceAdd]; first | done | omega) | fail) only [hx, Stp.pv_mk, hcat, push_cast, ↓reduceIte, Nat.reduceEqDiff, Nat.reduceAdd, Nat.reduceMul, Nat.reduceLeDiff, Nat.reduceLT, Nat.reduceBEq, Nat.reduceSub, Int.reduceToNat, Int.reduceNeg]
        refine ACall.lentK h92 [3, 8, 5] rfl (by simp (config := { maxSteps := 1000000 }) (disch := first | exact chk_rfl | (unfold Chk; decide +kernel) | omega | (simp only [cells_agg, List.length_cons, List.length_nil, List.length_map, List.length_take, List.length_append, Nat.zero_add, Nat.reduceAdd]; first | done | omega) | fail) only [push_cast, ↓reduceIte, Nat.reduceEqDiff, Nat.reduceAdd, Nat.reduceMul, Nat.reduceLeDiff, Nat.reduceLT, Nat.reduceBEq, Nat.reduceSub, Int.reduceToNat, Int.reduceNeg]) (by simp (config := { maxSteps := 1000000 }) (disch := first | exact chk_rfl | (unfold Chk; decide +kernel) | omega | (simp only [cells_agg, List.length_cons, List.length_nil, List.length_map, List.length_take, List.length_append, Nat.zero_add, Nat.reduceAdd]; first | done | omega) | fail) only [push_cast, ↓reduceIte, Nat.reduceEqDiff, Nat.reduceAdd, Nat.reduceMul, Nat.reduceLeDiff, Nat.reduceLT, Nat.reduceBEq, Nat.reduceSub, Int.reduceToNat, Int.reduceNeg]) ?_
        generalize hW1 : (ws ++ ixMap F (l.take m)) ++ [Wkd.mk route (p ++ [(m : Int)]) (.mk x1 x2 x3 x4 x5 x6 x7 x8 x9 x10 k)] = W1
        simp (config := { maxSteps := 1000000 }) (disch := first | exact chk_rfl | (unfold Chk; decide +kernel) | omega | (simp only [cells_agg, List.length_cons, List.length_nil, List.length_map, List.length_take, List.length_append, Nat.zero_add, Nat.reduceAdd]; first | done | omega) | fail) only [hx, Stp.pv_mk, hW1, push_cast, ↓reduceIte, Nat.reduceEqDiff, Nat.reduceAdd, Nat.reduceMul, Nat.reduceLeDiff, Nat.reduceLT, Nat.reduceBEq, Nat.reduceSub, Int.reduceToNat, Int.reduceNeg]
        generalize hF2 : (fun (b : Bra) (j : Nat) => stepsW route n ((p ++ [(m : Int)]) ++ [(j : Int)]) b.steps) = F2 at hFx
        refine vc_over ([]) (fun j : Nat => [(28, .pv (.int .i64 (j : Int)))]) (fun j => [(3, .cells 73 true [.olist 5 13 ((W1 ++ ixMap F2 (k.take j)).map Wkd.pv)])]) (fun j => j ≤ k.length) (fun j => k.length - j) (0) ?_; intro e0 σ0 n0 h0; simp (config := { maxSteps := 1000000 }) (disch := first | exact chk_rfl | (unfold Chk; decide +kernel) | omega | (simp only [cells_agg, List.length_cons, List.length_nil, List.length_map, List.length_take, List.length_append, Nat.zero_add, Nat.reduceAdd]; first | done | omega) | fail) only [push_cast, ↓reduceIte, Nat.reduceEqDiff, Nat.reduceAdd, Nat.reduceMul, Nat.reduceLeDiff, Nat.reduceLT, Nat.reduceBEq, Nat.reduceSub, Int.reduceToNat, Int.reduceNeg] at h0; obtain ⟨rfl, rfl, rfl⟩ := h0; refine ⟨?_, ?_, ?_⟩
        · simp (config := { maxSteps := 1000000 }) (disch := first | exact chk_rfl | (unfold Chk; decide +kernel) | omega | (simp only [cells_agg, List.length_cons, List.length_nil, List.length_map, List.length_take, List.length_append, Nat.zero_add, Nat.reduceAdd]; first | done | omega) | fail) only [ixMap_nil, push_cast, ↓reduceIte, Nat.reduceEqDiff, Nat.reduceAdd, Nat.reduceMul, Nat.reduceLeDiff, Nat.reduceLT, Nat.reduceBEq, Nat.reduceSub, Int.reduceToNat, Int.reduceNeg]
        · omega
        · intro j hj
          by_cases hlj : j < k.length
          · have hljI : (j : Int) < k.length := by omega
            obtain ⟨b, hb⟩ : ∃ b, k[j]? = some b := ⟨_, List.getElem?_eq_getElem hlj⟩
            have hbo := hk2 b (List.mem_of_getElem? hb)
            have hbB := hb2 b (List.mem_of_getElem? hb)
            have hsn2 := ixMap_snoc F2 hb
            have hF2b := congrFun (congrFun hF2 b) j
            obtain ⟨b1, b2⟩ := b
            rw [Bra.ok_mk] at hbo
            simp only [Bra.steps] at hbB hF2b
            have hl3 : (ixMap F2 (k.take j)).length ≤ 3 * cnt n := Nat.le_trans (ixMap_len F2 (cnt n) (k.take j) (fun b hb i => by rw [← hF2]; exact stepsW_len route n _ _ (hb2 b (List.mem_of_mem_take hb)))) (Nat.mul_le_mul_right _ (by rw [List.length_take]; omega))
            have hih := ih ((p ++ [(m : Int)]) ++ [(j : Int)]) b2 (W1 ++ ixMap F2 (k.take j)) hbB ⟨hbo.2.2.1, hbo.2.2.2⟩ (by simp; omega) (by rw [List.length_append, ← hW1, List.length_append, List.length_append]; simp only [List.length_cons, List.length_nil]; simp only [cnt] at hw; omega)
            simp only [visitB, hpl2] at hih
            have hpre2 : AVzP (List.map AV.pv (List.map (PV.int .i64) (p ++ [(m : Int), (j : Int)]))) (List.map AV.pv (List.map (PV.int .i64) (p ++ [(m : Int)]))) := by
              rw [show p ++ [(m : Int), (j : Int)] = (p ++ [(m : Int)]) ++ [(j : Int)] by simp, List.map_append, List.map_append]; exact AVzP.app _ _
            simp (config := { maxSteps := 1000000 }) (disch := first | exact chk_rfl | (unfold Chk; decide +kernel) | omega | (simp only [cells_agg, List.length_cons, List.length_nil, List.length_map, List.length_take, List.length_append, Nat.zero_add, Nat.reduceAdd]; first | done | omega) | fail) only [hx, hb, Bra.pv_mk, Stp.pv_mk, hcat2, push_cast, ↓reduceIte, Nat.reduceEqDiff, Nat.reduceAdd, Nat.reduceMul, Nat.reduceLeDiff, Nat.reduceLT, Nat.reduceBEq, Nat.reduceSub, Int.reduceToNat, Int.reduceNeg]
            refine ACall.lentK hih [0, 1, 2, 3, 8, 5] rfl (by simp (config := { maxSteps := 1000000 }) (disch := first | exact chk_rfl | (unfold Chk; decide +kernel) | omega | (simp only [cells_agg, List.length_cons, List.length_nil, List.length_map, List.length_take, List.length_append, Nat.zero_add, Nat.reduceAdd]; first | done | omega) | fail) only [push_cast, ↓reduceIte, Nat.reduceEqDiff, Nat.reduceAdd, Nat.reduceMul, Nat.reduceLeDiff, Nat.reduceLT, Nat.reduceBEq, Nat.reduceSub, Int.reduceToNat, Int.reduceNeg]) (by simp (config := { maxSteps := 1000000 }) (disch := first | exact chk_rfl | (unfold Chk; decide +kernel) | omega | (simp only [cells_agg, List.length_cons, List.length_nil, List.length_map, List.length_take, List.length_append, Nat.zero_add, Nat.reduceAdd]; first | done | omega) | fail) only [push_cast, ↓reduceIte, Nat.reduceEqDiff, Nat.reduceAdd, Nat.reduceMul, Nat.reduceLeDiff, Nat.reduceLT, Nat.reduceBEq, Nat.reduceSub, Int.reduceToNat, Int.reduceNeg]) ?_
            simp (config := { maxSteps := 1000000 }) (disch := first | exact chk_rfl | (unfold Chk; decide +kernel) | omega | (simp only [cells_agg, List.length_cons, List.length_nil, List.length_map, List.length_take, List.length_append, Nat.zero_add, Nat.reduceAdd]; first | done | omega) | fail) only [hx, hb, Bra.pv_mk, Stp.pv_mk, push_cast, ↓reduceIte, Nat.reduceEqDiff, Nat.reduceAdd, Nat.reduceMul, Nat.reduceLeDiff, Nat.reduceLT, Nat.reduceBEq, Nat.reduceSub, Int.reduceToNat, Int.reduceNeg]
            exact ⟨j + 1, hd_z (by simp (config := { maxSteps := 1000000 }) (disch := first | exact chk_rfl | (unfold Chk; decide +kernel) | omega | (simp only [cells_agg, List.length_cons, List.length_nil, List.length_map, List.length_take, List.length_append, Nat.zero_add, Nat.reduceAdd]; first | done | omega) | fail) only [hsn2, ← hF2b, List.append_assoc, hpre2, push_cast, ↓reduceIte, Nat.reduceEqDiff, Nat.reduceAdd, Nat.reduceMul, Nat.reduceLeDiff, Nat.reduceLT, Nat.reduceBEq, Nat.reduceSub, Int.reduceToNat, Int.reduceNeg]), by omega, by omega⟩
          · have hljI : ¬ (j : Int) < k.length := by omega
            have hle : k.take j = k := List.take_of_length_le (by omega)
            simp (config := { maxSteps := 1000000 }) (disch := first | exact chk_rfl | (unfold Chk; decide +kernel) | omega | (simp only [cells_agg, List.length_cons, List.length_nil, List.length_map, List.length_take, List.length_append, Nat.zero_add, Nat.reduceAdd]; first | done | omega) | fail) only [hle, push_cast, ↓reduceIte, Nat.reduceEqDiff, Nat.reduceAdd, Nat.reduceMul, Nat.reduceLeDiff, Nat.reduceLT, Nat.reduceBEq, Nat.reduceSub, Int.reduceToNat, Int.reduceNeg]
            exact ⟨m + 1, hd_z (by simp (config := { maxSteps := 1000000 }) (disch := first | exact chk_rfl | (unfold Chk; decide +kernel) | omega | (simp only [cells_agg, List.length_cons, List.length_nil, List.length_map, List.length_take, List.length_append, Nat.zero_add, Nat.reduceAdd]; first | done | omega) | fail) only [hsn, ← hFx, ← hW1, List.append_assoc, hpre, push_cast, ↓reduceIte, Nat.reduceEqDiff, Nat.reduceAdd, Nat.reduceMul, Nat.reduceLeDiff, Nat.reduceLT, Nat.reduceBEq, Nat.reduceSub, Int.reduceToNat, Int.reduceNeg]), by omega, by omega⟩
      · have hltI : ¬ (m : Int) < l.length := by omega
        have hle : l.take m = l := List.take_of_length_le (by omega)
        simp (config := { maxSteps := 1000000 }) (disch := first | exact chk_rfl | (unfold Chk; decide +kernel) | omega | (simp only [cells_agg, List.length_cons, List.length_nil, List.length_map, List.length_take, List.length_append, Nat.zero_add, Nat.reduceAdd]; first | done | omega) | fail) only [hle, push_cast, ↓reduceIte, Nat.reduceEqDiff, Nat.reduceAdd, Nat.reduceMul, Nat.reduceLeDiff, Nat.reduceLT, Nat.reduceBEq, Nat.reduceSub, Int.reduceToNat, Int.reduceNeg]
        exact lent_z [] (by simp (config := { maxSteps := 1000000 }) (disch := first | exact chk_rfl | (unfold Chk; decide +kernel) | omega | (simp only [cells_agg, List.length_cons, List.length_nil, List.length_map, List.length_take, List.length_append, Nat.zero_add, Nat.reduceAdd]; first | done | omega) | fail) only [visitB, push_cast, ↓reduceIte, Nat.reduceEqDiff, Nat.reduceAdd, Nat.reduceMul, Nat.reduceLeDiff, Nat.reduceLT, Nat.reduceBEq, Nat.reduceSub, Int.reduceToNat, Int.reduceNeg])
end Go.Proofs.YtfbakipopjoghaaDoor
