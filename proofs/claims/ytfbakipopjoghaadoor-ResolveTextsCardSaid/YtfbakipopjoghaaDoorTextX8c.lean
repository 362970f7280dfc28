/- A part of the proof for ResolveTextsCardSaid. -/
import Derived.Test.YtfbakipopjoghaaDoorTextX8b
set_option maxRecDepth 100000
set_option linter.unusedVariables false
set_option linter.unusedSimpArgs false
namespace Go.Proofs.YtfbakipopjoghaaDoor
open Go Go.Ab

theorem sign67 (b : Bool) : Pure Tryd.prog tabG 67 [.bool b] (.int .i64 (if b then -1 else 1)) := by
  refine Pure.intro F67_ok (by simp [F67]) ?_
  cases b
  · simp (config := { maxSteps := 1000000 }) (disch := first | exact chk_rfl | (unfold Chk; decide +kernel) | omega | (simp only [cells_agg, List.length_cons, List.length_nil, List.length_map, List.length_take, List.length_append, Nat.zero_add, Nat.reduceAdd]; first | done | omega) | fail) only [F67o0, F67o1, F67o2, F67o3, F67c, F67, push_cast, ↓reduceIte, Nat.reduceEqDiff, Nat.reduceAdd, Nat.reduceMul, Nat.reduceLeDiff, Nat.reduceLT, Nat.reduceBEq, Nat.reduceSub, Int.reduceToNat, Int.reduceNeg]
    try rfl
  · simp (config := { maxSteps := 1000000 }) (disch := first | exact chk_rfl | (unfold Chk; decide +kernel) | omega | (simp only [cells_agg, List.length_cons, List.length_nil, List.length_map, List.length_take, List.length_append, Nat.zero_add, Nat.reduceAdd]; first | done | omega) | fail) only [F67o0, F67o1, F67o2, F67o3, F67c, F67, push_cast, ↓reduceIte, Nat.reduceEqDiff, Nat.reduceAdd, Nat.reduceMul, Nat.reduceLeDiff, Nat.reduceLT, Nat.reduceBEq, Nat.reduceSub, Int.reduceToNat, Int.reduceNeg]
    try rfl


theorem cmpI_ne {x y : Int} (h : ¬ x = y) : cmpI x y = if decide (x < y) = true then -1 else 1 := by
  unfold cmpI
  by_cases h1 : x < y
  · simp [h1]
  · rw [if_neg h1, if_pos (by omega)]; simp [h1]
theorem bytes_ne {x y : List UInt8} (h : ¬ x = y) : Lib.compareBytes x y = if bytesLt x y = true then -1 else 1 := by
  rw [bytesLt_iff]
  rcases bytes_ord.tri x y with a | a | a
  · rw [a]; rfl
  · exact absurd ((bytes_ord.eqv _ _).1 a) h
  · rw [a]; rfl
theorem cmpL_drop {a b : List Int} {i : Nat} {x y : Int} (hx : a[i]? = some x) (hy : b[i]? = some y) (h : cmpL a b = cmpL (a.drop i) (b.drop i)) : cmpL a b = if cmpI x y = 0 then cmpL (a.drop (i + 1)) (b.drop (i + 1)) else cmpI x y := by
  obtain ⟨h1, h2⟩ := List.getElem?_eq_some_iff.1 hx
  obtain ⟨h3, h4⟩ := List.getElem?_eq_some_iff.1 hy
  rw [h, List.drop_eq_getElem_cons h1, h2, List.drop_eq_getElem_cons h3, h4, cmpL_cons]
theorem cmpL_ends {a b : List Int} {i : Nat} (hi : i ≤ a.length) (hi2 : i ≤ b.length) (hn : ¬ (i < a.length ∧ i < b.length)) (h : cmpL a b = cmpL (a.drop i) (b.drop i)) : cmpL a b = cmpI a.length b.length := by
  rw [h]
  rcases Nat.lt_trichotomy a.length b.length with k | k | k
  · have e : i = a.length := by omega
    have hd : b.drop i = b[i] :: b.drop (i + 1) := List.drop_eq_getElem_cons (by omega)
    rw [List.drop_eq_nil_of_le (by omega : a.length ≤ i), hd]
    unfold cmpI
    rw [if_pos (by omega)]; rfl
  · rw [List.drop_eq_nil_of_le (by omega : a.length ≤ i), List.drop_eq_nil_of_le (by omega : b.length ≤ i)]
    unfold cmpI
    rw [if_neg (by omega), if_neg (by omega)]; rfl
  · have hd : a.drop i = a[i] :: a.drop (i + 1) := List.drop_eq_getElem_cons (by omega)
    rw [List.drop_eq_nil_of_le (by omega : b.length ≤ i), hd]
    unfold cmpI
    rw [if_neg (by omega), if_pos (by omega)]; rfl

set_option maxHeartbeats 4000000 in
theorem compare35 (a b : Prb) (ha : smallP a) (hb : smallP b) : Pure Tryd.prog tabG 35 [a.pv, b.pv] (.int .i64 (cmpP a b)) := by
  obtain ⟨ac, ar, ap, an⟩ := a
  obtain ⟨bc, br, bp, bn⟩ := b
  simp only [smallP, Prb.place] at ha hb
  have hP : cmpP (.mk ac ar ap an) (.mk bc br bp bn) = orI [Lib.compareBytes ar br, cmpL ap bp, cmpI ac bc, Lib.compareBytes an bn] := rfl
  rw [hP]
  refine Pure.intro F35_ok (by simp [F35]) ?_
  by_cases hr : ar = br
  · have hr0 : Lib.compareBytes ar br = 0 := (bytes_ord.eqv _ _).2 hr
    rw [orI, if_pos hr0]
    clear hr0 hP
    simp (config := { maxSteps := 1000000 }) (disch := first | exact chk_rfl | (unfold Chk; decide +kernel) | omega | (simp only [cells_agg, List.length_cons, List.length_nil, List.length_map, List.length_take, List.length_append, Nat.zero_add, Nat.reduceAdd]; first | done | omega) | fail) only [F35o0, F35o1, F35o2, F35o3, F35o4, F35o5, F35p5, F35o6, F35p6, F35o7, F35b8, F35o9, F35o10, F35o11, F35o12, F35o13, F35o14, F35o15, F35c, F35, Prb.pv_mk, hr, eq_self, push_cast, ↓reduceIte, Nat.reduceEqDiff, Nat.reduceAdd, Nat.reduceMul, Nat.reduceLeDiff, Nat.reduceLT, Nat.reduceBEq, Nat.reduceSub, Int.reduceToNat, Int.reduceNeg]
    refine vc_over ([]) (fun i : Nat => [(5, .pv (.int .i64 (i : Int)))]) (fun _ => []) (fun i => i ≤ ap.length ∧ i ≤ bp.length ∧ cmpL ap bp = cmpL (ap.drop i) (bp.drop i)) (fun i => ap.length - i) (0) ?_; intro e0 σ0 n0 h0; simp (config := { maxSteps := 1000000 }) (disch := first | exact chk_rfl | (unfold Chk; decide +kernel) | omega | (simp only [cells_agg, List.length_cons, List.length_nil, List.length_map, List.length_take, List.length_append, Nat.zero_add, Nat.reduceAdd]; first | done | omega) | fail) only [push_cast, ↓reduceIte, Nat.reduceEqDiff, Nat.reduceAdd, Nat.reduceMul, Nat.reduceLeDiff, Nat.reduceLT, Nat.reduceBEq, Nat.reduceSub, Int.reduceToNat, Int.reduceNeg] at h0; obtain ⟨rfl, rfl, rfl⟩ := h0; refine ⟨?_, ?_, ?_⟩
    · simp (config := { maxSteps := 1000000 }) (disch := first | exact chk_rfl | (unfold Chk; decide +kernel) | omega | (simp only [cells_agg, List.length_cons, List.length_nil, List.length_map, List.length_take, List.length_append, Nat.zero_add, Nat.reduceAdd]; first | done | omega) | fail) only [push_cast, ↓reduceIte, Nat.reduceEqDiff, Nat.reduceAdd, Nat.reduceMul, Nat.reduceLeDiff, Nat.reduceLT, Nat.reduceBEq, Nat.reduceSub, Int.reduceToNat, Int.reduceNeg]
    · exact ⟨Nat.zero_le _, Nat.zero_le _, rfl⟩
    rintro i ⟨hi, hi2, hpre⟩
    by_cases hlt : i < ap.length ∧ i < bp.length
    · obtain ⟨g1, g2⟩ := hlt
      have g1I : (i : Int) < ap.length := by omega
      have g2I : (i : Int) < bp.length := by omega
      obtain ⟨x, hx⟩ : ∃ x, ap[i]? = some x := ⟨ap[i], List.getElem?_eq_getElem g1⟩
      obtain ⟨y, hy⟩ : ∃ y, bp[i]? = some y := ⟨bp[i], List.getElem?_eq_getElem g2⟩
      have hs := cmpL_drop hx hy hpre
      by_cases h0 : x = y
      · simp (config := { maxSteps := 1000000 }) (disch := first | exact chk_rfl | (unfold Chk; decide +kernel) | omega | (simp only [cells_agg, List.length_cons, List.length_nil, List.length_map, List.length_take, List.length_append, Nat.zero_add, Nat.reduceAdd]; first | done | omega) | fail) only [hx, hy, h0, eq_self, push_cast, ↓reduceIte, Nat.reduceEqDiff, Nat.reduceAdd, Nat.reduceMul, Nat.reduceLeDiff, Nat.reduceLT, Nat.reduceBEq, Nat.reduceSub, Int.reduceToNat, Int.reduceNeg]
        exact ⟨i + 1, hd_z (by simp (config := { maxSteps := 1000000 }) (disch := first | exact chk_rfl | (unfold Chk; decide +kernel) | omega | (simp only [cells_agg, List.length_cons, List.length_nil, List.length_map, List.length_take, List.length_append, Nat.zero_add, Nat.reduceAdd]; first | done | omega) | fail) only [push_cast, ↓reduceIte, Nat.reduceEqDiff, Nat.reduceAdd, Nat.reduceMul, Nat.reduceLeDiff, Nat.reduceLT, Nat.reduceBEq, Nat.reduceSub, Int.reduceToNat, Int.reduceNeg]), ⟨by omega, by omega, by rw [hs, if_pos (cmpI_zero.2 h0)]⟩, by omega⟩
      · have hv := cmpI_ne h0
        have hne : ¬ cmpI x y = 0 := fun h => h0 (cmpI_zero.1 h)
        rw [if_neg hne] at hs
        simp (config := { maxSteps := 1000000 }) (disch := first | exact chk_rfl | (unfold Chk; decide +kernel) | omega | (simp only [cells_agg, List.length_cons, List.length_nil, List.length_map, List.length_take, List.length_append, Nat.zero_add, Nat.reduceAdd]; first | done | omega) | fail) only [hx, hy, h0, push_cast, ↓reduceIte, Nat.reduceEqDiff, Nat.reduceAdd, Nat.reduceMul, Nat.reduceLeDiff, Nat.reduceLT, Nat.reduceBEq, Nat.reduceSub, Int.reduceToNat, Int.reduceNeg]
        refine ACall.pure (sign67 _) rfl ?_
        simp (config := { maxSteps := 1000000 }) (disch := first | exact chk_rfl | (unfold Chk; decide +kernel) | omega | (simp only [cells_agg, List.length_cons, List.length_nil, List.length_map, List.length_take, List.length_append, Nat.zero_add, Nat.reduceAdd]; first | done | omega) | fail) only [push_cast, ↓reduceIte, Nat.reduceEqDiff, Nat.reduceAdd, Nat.reduceMul, Nat.reduceLeDiff, Nat.reduceLT, Nat.reduceBEq, Nat.reduceSub, Int.reduceToNat, Int.reduceNeg]
        rw [orI, hs, if_neg hne, hv]
    · have he := cmpL_ends hi hi2 hlt hpre
      have hfin : ∀ Q : Prop, (cmpL ap bp = cmpI ap.length bp.length → Q) → Q := fun Q h => h he
      have hexit : ¬ i < ap.length ∨ (i < ap.length ∧ ¬ i < bp.length) := by omega
      by_cases hl : ap.length = bp.length
      · have hlI : (ap.length : Int) = bp.length := by omega
        have hL : cmpL ap bp = 0 := by rw [he]; exact cmpI_zero.2 hlI
        have hrest : orI [cmpL ap bp, cmpI ac bc, Lib.compareBytes an bn] = orI [cmpI ac bc, Lib.compareBytes an bn] := by rw [orI, if_pos hL]
        by_cases hc : ac = bc
        · have hC : cmpI ac bc = 0 := cmpI_zero.2 hc
          by_cases hn : an = bn
          · have hN : Lib.compareBytes an bn = 0 := (bytes_ord.eqv _ _).2 hn
            rw [hrest, orI, if_pos hC, orI, if_pos hN, orI]
            rcases hexit with g1 | ⟨g1, g2⟩
            · have g1I : ¬ (i : Int) < ap.length := by omega
              simp (config := { maxSteps := 1000000 }) (disch := first | exact chk_rfl | (unfold Chk; decide +kernel) | omega | (simp only [cells_agg, List.length_cons, List.length_nil, List.length_map, List.length_take, List.length_append, Nat.zero_add, Nat.reduceAdd]; first | done | omega) | fail) only [hlI, hc, hn, eq_self, push_cast, ↓reduceIte, Nat.reduceEqDiff, Nat.reduceAdd, Nat.reduceMul, Nat.reduceLeDiff, Nat.reduceLT, Nat.reduceBEq, Nat.reduceSub, Int.reduceToNat, Int.reduceNeg]
            · have g1I : (i : Int) < ap.length := by omega
              have g2I : ¬ (i : Int) < bp.length := by omega
              simp (config := { maxSteps := 1000000 }) (disch := first | exact chk_rfl | (unfold Chk; decide +kernel) | omega | (simp only [cells_agg, List.length_cons, List.length_nil, List.length_map, List.length_take, List.length_append, Nat.zero_add, Nat.reduceAdd]; first | done | omega) | fail) only [hlI, hc, hn, eq_self, push_cast, ↓reduceIte, Nat.reduceEqDiff, Nat.reduceAdd, Nat.reduceMul, Nat.reduceLeDiff, Nat.reduceLT, Nat.reduceBEq, Nat.reduceSub, Int.reduceToNat, Int.reduceNeg]
              omega
          · have hN : ¬ Lib.compareBytes an bn = 0 := fun h => hn ((bytes_ord.eqv _ _).1 h)
            rw [hrest, orI, if_pos hC, orI, if_neg hN, bytes_ne hn]
            rcases hexit with g1 | ⟨g1, g2⟩
            · have g1I : ¬ (i : Int) < ap.length := by omega
              simp (config := { maxSteps := 1000000 }) (disch := first | exact chk_rfl | (unfold Chk; decide +kernel) | omega | (simp only [cells_agg, List.length_cons, List.length_nil, List.length_map, List.length_take, List.length_append, Nat.zero_add, Nat.reduceAdd]; first | done | omega) | fail) only [hlI, hc, hn, eq_self, push_cast, ↓reduceIte, Nat.reduceEqDiff, Nat.reduceAdd, Nat.reduceMul, Nat.reduceLeDiff, Nat.reduceLT, Nat.reduceBEq, Nat.reduceSub, Int.reduceToNat, Int.reduceNeg]
              refine ACall.pure (sign67 _) rfl ?_
              simp (config := { maxSteps := 1000000 }) (disch := first | exact chk_rfl | (unfold Chk; decide +kernel) | omega | (simp only [cells_agg, List.length_cons, List.length_nil, List.length_map, List.length_take, List.length_append, Nat.zero_add, Nat.reduceAdd]; first | done | omega) | fail) only [push_cast, ↓reduceIte, Nat.reduceEqDiff, Nat.reduceAdd, Nat.reduceMul, Nat.reduceLeDiff, Nat.reduceLT, Nat.reduceBEq, Nat.reduceSub, Int.reduceToNat, Int.reduceNeg]
            · have g1I : (i : Int) < ap.length := by omega
              have g2I : ¬ (i : Int) < bp.length := by omega
              omega
        · have hC : ¬ cmpI ac bc = 0 := fun h => hc (cmpI_zero.1 h)
          rw [hrest, orI, if_neg hC, cmpI_ne hc]
          rcases hexit with g1 | ⟨g1, g2⟩
          · have g1I : ¬ (i : Int) < ap.length := by omega
            simp (config := { maxSteps := 1000000 }) (disch := first | exact chk_rfl | (unfold Chk; decide +kernel) | omega | (simp only [cells_agg, List.length_cons, List.length_nil, List.length_map, List.length_take, List.length_append, Nat.zero_add, Nat.reduceAdd]; first | done | omega) | fail) only [hlI, hc, eq_self, push_cast, ↓reduceIte, Nat.reduceEqDiff, Nat.reduceAdd, Nat.reduceMul, Nat.reduceLeDiff, Nat.reduceLT, Nat.reduceBEq, Nat.reduceSub, Int.reduceToNat, Int.reduceNeg]
            refine ACall.pure (sign67 _) rfl ?_
            simp (config := { maxSteps := 1000000 }) (disch := first | exact chk_rfl | (unfold Chk; decide +kernel) | omega | (simp only [cells_agg, List.length_cons, List.length_nil, List.length_map, List.length_take, List.length_append, Nat.zero_add, Nat.reduceAdd]; first | done | omega) | fail) only [push_cast, ↓reduceIte, Nat.reduceEqDiff, Nat.reduceAdd, Nat.reduceMul, Nat.reduceLeDiff, Nat.reduceLT, Nat.reduceBEq, Nat.reduceSub, Int.reduceToNat, Int.reduceNeg]
          · omega
      · have hlI : ¬ (ap.length : Int) = bp.length := by omega
        have hL : ¬ cmpL ap bp = 0 := by rw [he]; exact fun h => hlI (cmpI_zero.1 h)
        rw [orI, if_neg hL, he, cmpI_ne hlI]
        rcases hexit with g1 | ⟨g1, g2⟩
        · have g1I : ¬ (i : Int) < ap.length := by omega
          simp (config := { maxSteps := 1000000 }) (disch := first | exact chk_rfl | (unfold Chk; decide +kernel) | omega | (simp only [cells_agg, List.length_cons, List.length_nil, List.length_map, List.length_take, List.length_append, Nat.zero_add, Nat.reduceAdd]; first | done | omega) | fail) only [hlI, push_cast, ↓reduceIte, Nat.reduceEqDiff, Nat.reduceAdd, Nat.reduceMul, Nat.reduceLeDiff, Nat.reduceLT, Nat.reduceBEq, Nat.reduceSub, Int.reduceToNat, Int.reduceNeg]
          refine ACall.pure (sign67 _) rfl ?_
          simp (config := { maxSteps := 1000000 }) (disch := first | exact chk_rfl | (unfold Chk; decide +kernel) | omega | (simp only [cells_agg, List.length_cons, List.length_nil, List.length_map, List.length_take, List.length_append, Nat.zero_add, Nat.reduceAdd]; first | done | omega) | fail) only [push_cast, ↓reduceIte, Nat.reduceEqDiff, Nat.reduceAdd, Nat.reduceMul, Nat.reduceLeDiff, Nat.reduceLT, Nat.reduceBEq, Nat.reduceSub, Int.reduceToNat, Int.reduceNeg]
        · have g1I : (i : Int) < ap.length := by omega
          have g2I : ¬ (i : Int) < bp.length := by omega
          simp (config := { maxSteps := 1000000 }) (disch := first | exact chk_rfl | (unfold Chk; decide +kernel) | omega | (simp only [cells_agg, List.length_cons, List.length_nil, List.length_map, List.length_take, List.length_append, Nat.zero_add, Nat.reduceAdd]; first | done | omega) | fail) only [hlI, push_cast, ↓reduceIte, Nat.reduceEqDiff, Nat.reduceAdd, Nat.reduceMul, Nat.reduceLeDiff, Nat.reduceLT, Nat.reduceBEq, Nat.reduceSub, Int.reduceToNat, Int.reduceNeg]
          refine ACall.pure (sign67 _) rfl ?_
          simp (config := { maxSteps := 1000000 }) (disch := first | exact chk_rfl | (unfold Chk; decide +kernel) | omega | (simp only [cells_agg, List.length_cons, List.length_nil, List.length_map, List.length_take, List.length_append, Nat.zero_add, Nat.reduceAdd]; first | done | omega) | fail) only [push_cast, ↓reduceIte, Nat.reduceEqDiff, Nat.reduceAdd, Nat.reduceMul, Nat.reduceLeDiff, Nat.reduceLT, Nat.reduceBEq, Nat.reduceSub, Int.reduceToNat, Int.reduceNeg]
  · have hr0 : ¬ Lib.compareBytes ar br = 0 := fun h => hr ((bytes_ord.eqv _ _).1 h)
    rw [orI, if_neg hr0, bytes_ne hr]
    simp (config := { maxSteps := 1000000 }) (disch := first | exact chk_rfl | (unfold Chk; decide +kernel) | omega | (simp only [cells_agg, List.length_cons, List.length_nil, List.length_map, List.length_take, List.length_append, Nat.zero_add, Nat.reduceAdd]; first | done | omega) | fail) only [F35o0, F35o1, F35o2, F35o3, F35o4, F35o5, F35p5, F35o6, F35p6, F35o7, F35b8, F35o9, F35o10, F35o11, F35o12, F35o13, F35o14, F35o15, F35c, F35, Prb.pv_mk, hr, push_cast, ↓reduceIte, Nat.reduceEqDiff, Nat.reduceAdd, Nat.reduceMul, Nat.reduceLeDiff, Nat.reduceLT, Nat.reduceBEq, Nat.reduceSub, Int.reduceToNat, Int.reduceNeg]
    refine ACall.pure (sign67 _) rfl ?_
    simp (config := { maxSteps := 1000000 }) (disch := first | exact chk_rfl | (unfold Chk; decide +kernel) | omega | (simp only [cells_agg, List.length_cons, List.length_nil, List.length_map, List.length_take, List.length_append, Nat.zero_add, Nat.reduceAdd]; first | done | omega) | fail) only [push_cast, ↓reduceIte, Nat.reduceEqDiff, Nat.reduceAdd, Nat.reduceMul, Nat.reduceLeDiff, Nat.reduceLT, Nat.reduceBEq, Nat.reduceSub, Int.reduceToNat, Int.reduceNeg]

def shortB : Prb → Prb
  | .mk c r p n => .mk c (r.take 70) (p.take 12) (n.take 70)
theorem short30 (a : Prb) : Pure Tryd.prog tabG 30 [a.pv] (shortB a).pv := by
  obtain ⟨c, r, p, n⟩ := a
  refine Pure.intro F30_ok (by simp [F30]) ?_
  simp (config := { maxSteps := 1000000 }) (disch := first | exact chk_rfl | (unfold Chk; decide +kernel) | omega | (simp only [cells_agg, List.length_cons, List.length_nil, List.length_map, List.length_take, List.length_append, Nat.zero_add, Nat.reduceAdd]; first | done | omega) | fail) only [F30o0, F30o1, F30p1, F30o2, F30c, F30, Prb.pv_mk, push_cast, ↓reduceIte, Nat.reduceEqDiff, Nat.reduceAdd, Nat.reduceMul, Nat.reduceLeDiff, Nat.reduceLT, Nat.reduceBEq, Nat.reduceSub, Int.reduceToNat, Int.reduceNeg]
  refine callDL_pure (cut_ok r) rfl ?_
  simp (config := { maxSteps := 1000000 }) (disch := first | exact chk_rfl | (unfold Chk; decide +kernel) | omega | (simp only [cells_agg, List.length_cons, List.length_nil, List.length_map, List.length_take, List.length_append, Nat.zero_add, Nat.reduceAdd]; first | done | omega) | fail) only [push_cast, ↓reduceIte, Nat.reduceEqDiff, Nat.reduceAdd, Nat.reduceMul, Nat.reduceLeDiff, Nat.reduceLT, Nat.reduceBEq, Nat.reduceSub, Int.reduceToNat, Int.reduceNeg]
  refine callDL_pure (cut_ok n) rfl ?_
  simp (config := { maxSteps := 1000000 }) (disch := first | exact chk_rfl | (unfold Chk; decide +kernel) | omega | (simp only [cells_agg, List.length_cons, List.length_nil, List.length_map, List.length_take, List.length_append, Nat.zero_add, Nat.reduceAdd]; first | done | omega) | fail) only [push_cast, ↓reduceIte, Nat.reduceEqDiff, Nat.reduceAdd, Nat.reduceMul, Nat.reduceLeDiff, Nat.reduceLT, Nat.reduceBEq, Nat.reduceSub, Int.reduceToNat, Int.reduceNeg]
  rw [shortB, Prb.pv_mk]
  simp (config := { maxSteps := 1000000 }) (disch := first | exact chk_rfl | (unfold Chk; decide +kernel) | omega | (simp only [cells_agg, List.length_cons, List.length_nil, List.length_map, List.length_take, List.length_append, Nat.zero_add, Nat.reduceAdd]; first | done | omega) | fail) only [push_cast, ↓reduceIte, Nat.reduceEqDiff, Nat.reduceAdd, Nat.reduceMul, Nat.reduceLeDiff, Nat.reduceLT, Nat.reduceBEq, Nat.reduceSub, Int.reduceToNat, Int.reduceNeg]
theorem shortB_small (a : Prb) : smallP (shortB a) := by
  obtain ⟨c, r, p, n⟩ := a
  simp only [smallP, shortB, Prb.place, List.length_take]; omega

theorem orders_law (a b c : Prb) : Pure Tryd.prog tabG 8 [a.pv, b.pv, c.pv] (.bool true) := by
  have sa := short30 a
  have sb := short30 b
  have sc := short30 c
  have ka := shortB_small a
  have kb := shortB_small b
  have kc := shortB_small c
  generalize shortB a = A at *
  generalize shortB b = B at *
  generalize shortB c = C at *
  have c1 := compare34 A B ka kb
  have c2 := compare34 B C kb kc
  have c3 := compare34 A C ka kc
  have c4 := compare34 B A kb ka
  have c5 := compare34 A A ka ka
  have c6 := compare35 A B ka kb
  have hanti := cmpP_ord.anti A B
  have hself : cmpP A A = 0 := (cmpP_ord.eqv A A).2 rfl
  have hle := cmpP_ord.le (x := A) (y := B) (z := C)
  have htri := cmpP_ord.tri A B
  rw [hanti] at c4
  rw [hself] at c5
  generalize cmpP A B = x at *
  generalize cmpP B C = y at *
  generalize cmpP A C = z at *
  obtain ⟨a1, a2, a3, a4⟩ := a
  obtain ⟨b1, b2, b3, b4⟩ := b
  obtain ⟨d1, d2, d3, d4⟩ := c
  obtain ⟨A1, A2, A3, A4⟩ := A
  obtain ⟨B1, B2, B3, B4⟩ := B
  obtain ⟨C1, C2, C3, C4⟩ := C
  simp only [Prb.pv_mk] at *
  clear ka kb kc hself hanti
  refine Pure.intro F8_ok (by simp [F8]) ?_
  simp (config := { maxSteps := 1000000 }) (disch := first | exact chk_rfl | (unfold Chk; decide +kernel) | omega | (simp only [cells_agg, List.length_cons, List.length_nil, List.length_map, List.length_take, List.length_append, Nat.zero_add, Nat.reduceAdd]; first | done | omega) | fail) only [F8o0, F8o1, F8p1, F8o2, F8p2, F8o3, F8c, F8, push_cast, ↓reduceIte, Nat.reduceEqDiff, Nat.reduceAdd, Nat.reduceMul, Nat.reduceLeDiff, Nat.reduceLT, Nat.reduceBEq, Nat.reduceSub, Int.reduceToNat, Int.reduceNeg]
  refine callDL_pure sa rfl ?_
  simp (config := { maxSteps := 1000000 }) (disch := first | exact chk_rfl | (unfold Chk; decide +kernel) | omega | (simp only [cells_agg, List.length_cons, List.length_nil, List.length_map, List.length_take, List.length_append, Nat.zero_add, Nat.reduceAdd]; first | done | omega) | fail) only [push_cast, ↓reduceIte, Nat.reduceEqDiff, Nat.reduceAdd, Nat.reduceMul, Nat.reduceLeDiff, Nat.reduceLT, Nat.reduceBEq, Nat.reduceSub, Int.reduceToNat, Int.reduceNeg]
  refine callDL_pure sb rfl ?_
  simp (config := { maxSteps := 1000000 }) (disch := first | exact chk_rfl | (unfold Chk; decide +kernel) | omega | (simp only [cells_agg, List.length_cons, List.length_nil, List.length_map, List.length_take, List.length_append, Nat.zero_add, Nat.reduceAdd]; first | done | omega) | fail) only [push_cast, ↓reduceIte, Nat.reduceEqDiff, Nat.reduceAdd, Nat.reduceMul, Nat.reduceLeDiff, Nat.reduceLT, Nat.reduceBEq, Nat.reduceSub, Int.reduceToNat, Int.reduceNeg]
  refine ACall.pure sc rfl ?_
  simp (config := { maxSteps := 1000000 }) (disch := first | exact chk_rfl | (unfold Chk; decide +kernel) | omega | (simp only [cells_agg, List.length_cons, List.length_nil, List.length_map, List.length_take, List.length_append, Nat.zero_add, Nat.reduceAdd]; first | done | omega) | fail) only [push_cast, ↓reduceIte, Nat.reduceEqDiff, Nat.reduceAdd, Nat.reduceMul, Nat.reduceLeDiff, Nat.reduceLT, Nat.reduceBEq, Nat.reduceSub, Int.reduceToNat, Int.reduceNeg]
  refine callDL_pure c1 rfl ?_
  simp (config := { maxSteps := 1000000 }) (disch := first | exact chk_rfl | (unfold Chk; decide +kernel) | omega | (simp only [cells_agg, List.length_cons, List.length_nil, List.length_map, List.length_take, List.length_append, Nat.zero_add, Nat.reduceAdd]; first | done | omega) | fail) only [push_cast, ↓reduceIte, Nat.reduceEqDiff, Nat.reduceAdd, Nat.reduceMul, Nat.reduceLeDiff, Nat.reduceLT, Nat.reduceBEq, Nat.reduceSub, Int.reduceToNat, Int.reduceNeg]
  refine callDL_pure c2 rfl ?_
  simp (config := { maxSteps := 1000000 }) (disch := first | exact chk_rfl | (unfold Chk; decide +kernel) | omega | (simp only [cells_agg, List.length_cons, List.length_nil, List.length_map, List.length_take, List.length_append, Nat.zero_add, Nat.reduceAdd]; first | done | omega) | fail) only [push_cast, ↓reduceIte, Nat.reduceEqDiff, Nat.reduceAdd, Nat.reduceMul, Nat.reduceLeDiff, Nat.reduceLT, Nat.reduceBEq, Nat.reduceSub, Int.reduceToNat, Int.reduceNeg]
  refine ACall.pure c3 rfl ?_
  simp (config := { maxSteps := 1000000 }) (disch := first | exact chk_rfl | (unfold Chk; decide +kernel) | omega | (simp only [cells_agg, List.length_cons, List.length_nil, List.length_map, List.length_take, List.length_append, Nat.zero_add, Nat.reduceAdd]; first | done | omega) | fail) only [push_cast, ↓reduceIte, Nat.reduceEqDiff, Nat.reduceAdd, Nat.reduceMul, Nat.reduceLeDiff, Nat.reduceLT, Nat.reduceBEq, Nat.reduceSub, Int.reduceToNat, Int.reduceNeg]
  refine ACall.pure known_ok rfl ?_
  simp (config := { maxSteps := 1000000 }) (disch := first | exact chk_rfl | (unfold Chk; decide +kernel) | omega | (simp only [cells_agg, List.length_cons, List.length_nil, List.length_map, List.length_take, List.length_append, Nat.zero_add, Nat.reduceAdd]; first | done | omega) | fail) only [push_cast, ↓reduceIte, Nat.reduceEqDiff, Nat.reduceAdd, Nat.reduceMul, Nat.reduceLeDiff, Nat.reduceLT, Nat.reduceBEq, Nat.reduceSub, Int.reduceToNat, Int.reduceNeg]
  refine ACall.pure c6 rfl ?_
  simp (config := { maxSteps := 1000000 }) (disch := first | exact chk_rfl | (unfold Chk; decide +kernel) | omega | (simp only [cells_agg, List.length_cons, List.length_nil, List.length_map, List.length_take, List.length_append, Nat.zero_add, Nat.reduceAdd]; first | done | omega) | fail) only [eq_self, push_cast, ↓reduceIte, Nat.reduceEqDiff, Nat.reduceAdd, Nat.reduceMul, Nat.reduceLeDiff, Nat.reduceLT, Nat.reduceBEq, Nat.reduceSub, Int.reduceToNat, Int.reduceNeg]
  refine ACall.pure c4 rfl ?_
  have hw : (0 : Int) - x = -x := by omega
  by_cases hx : 0 < x
  · simp (config := { maxSteps := 1000000 }) (disch := first | exact chk_rfl | (unfold Chk; decide +kernel) | omega | (simp only [cells_agg, List.length_cons, List.length_nil, List.length_map, List.length_take, List.length_append, Nat.zero_add, Nat.reduceAdd]; first | done | omega) | fail) only [hw, eq_self, push_cast, ↓reduceIte, Nat.reduceEqDiff, Nat.reduceAdd, Nat.reduceMul, Nat.reduceLeDiff, Nat.reduceLT, Nat.reduceBEq, Nat.reduceSub, Int.reduceToNat, Int.reduceNeg]
    refine ACall.pure c5 rfl ?_
    simp (config := { maxSteps := 1000000 }) (disch := first | exact chk_rfl | (unfold Chk; decide +kernel) | omega | (simp only [cells_agg, List.length_cons, List.length_nil, List.length_map, List.length_take, List.length_append, Nat.zero_add, Nat.reduceAdd]; first | done | omega) | fail) only [push_cast, ↓reduceIte, Nat.reduceEqDiff, Nat.reduceAdd, Nat.reduceMul, Nat.reduceLeDiff, Nat.reduceLT, Nat.reduceBEq, Nat.reduceSub, Int.reduceToNat, Int.reduceNeg]
  · by_cases hy : 0 < y
    · simp (config := { maxSteps := 1000000 }) (disch := first | exact chk_rfl | (unfold Chk; decide +kernel) | omega | (simp only [cells_agg, List.length_cons, List.length_nil, List.length_map, List.length_take, List.length_append, Nat.zero_add, Nat.reduceAdd]; first | done | omega) | fail) only [hw, eq_self, push_cast, ↓reduceIte, Nat.reduceEqDiff, Nat.reduceAdd, Nat.reduceMul, Nat.reduceLeDiff, Nat.reduceLT, Nat.reduceBEq, Nat.reduceSub, Int.reduceToNat, Int.reduceNeg]
      refine ACall.pure c5 rfl ?_
      simp (config := { maxSteps := 1000000 }) (disch := first | exact chk_rfl | (unfold Chk; decide +kernel) | omega | (simp only [cells_agg, List.length_cons, List.length_nil, List.length_map, List.length_take, List.length_append, Nat.zero_add, Nat.reduceAdd]; first | done | omega) | fail) only [push_cast, ↓reduceIte, Nat.reduceEqDiff, Nat.reduceAdd, Nat.reduceMul, Nat.reduceLeDiff, Nat.reduceLT, Nat.reduceBEq, Nat.reduceSub, Int.reduceToNat, Int.reduceNeg]
    · have hz := hle (by omega) (by omega)
      simp (config := { maxSteps := 1000000 }) (disch := first | exact chk_rfl | (unfold Chk; decide +kernel) | omega | (simp only [cells_agg, List.length_cons, List.length_nil, List.length_map, List.length_take, List.length_append, Nat.zero_add, Nat.reduceAdd]; first | done | omega) | fail) only [hw, eq_self, push_cast, ↓reduceIte, Nat.reduceEqDiff, Nat.reduceAdd, Nat.reduceMul, Nat.reduceLeDiff, Nat.reduceLT, Nat.reduceBEq, Nat.reduceSub, Int.reduceToNat, Int.reduceNeg]
      refine ACall.pure c5 rfl ?_
      simp (config := { maxSteps := 1000000 }) (disch := first | exact chk_rfl | (unfold Chk; decide +kernel) | omega | (simp only [cells_agg, List.length_cons, List.length_nil, List.length_map, List.length_take, List.length_append, Nat.zero_add, Nat.reduceAdd]; first | done | omega) | fail) only [push_cast, ↓reduceIte, Nat.reduceEqDiff, Nat.reduceAdd, Nat.reduceMul, Nat.reduceLeDiff, Nat.reduceLT, Nat.reduceBEq, Nat.reduceSub, Int.reduceToNat, Int.reduceNeg]

theorem orders_of (p0 p1 p2 : PV) (h0 : HasT Tryd.prog 63 p0) (h1 : HasT Tryd.prog 63 p1) (h2 : HasT Tryd.prog 63 p2) : Pure Tryd.prog tabG 8 [p0, p1, p2] (.bool true) := by
  obtain ⟨a, rfl, _⟩ := hasT_Prb h0
  obtain ⟨b, rfl, _⟩ := hasT_Prb h1
  obtain ⟨c, rfl, _⟩ := hasT_Prb h2
  exact orders_law a b c
end Go.Proofs.YtfbakipopjoghaaDoor
