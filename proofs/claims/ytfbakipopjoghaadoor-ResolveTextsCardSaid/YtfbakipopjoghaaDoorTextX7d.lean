/- A part of the proof for ResolveTextsCardSaid. -/
import Derived.Test.YtfbakipopjoghaaDoorTextX7c
import Derived.Test.YtfbakipopjoghaaDoorTextX8c
set_option maxRecDepth 100000
set_option linter.unusedVariables false
set_option linter.unusedSimpArgs false
namespace Go.Proofs.YtfbakipopjoghaaDoor
open Go Go.Ab
attribute [local irreducible] vc

theorem in31 (a lo hi : Int) : Pure Tryd.prog tabG 31 [.int .i64 a, .int .i64 lo, .int .i64 hi] (.bool (decide (lo ≤ a) && decide (a ≤ hi))) := by
  refine Pure.intro F31_ok (by simp [F31]) ?_
  by_cases h1 : lo ≤ a
  · by_cases h2 : a ≤ hi
    · simp (config := { maxSteps := 1000000 }) (disch := first | exact chk_rfl | (unfold Chk; decide +kernel) | (refine chk_of ?_; with_unfolding_all rfl) | omega | (simp only [cells_agg, List.length_cons, List.length_nil, List.length_map, List.length_take, List.length_append, Nat.zero_add, Nat.reduceAdd]; first | done | omega) | fail) only [F31o0, F31o1, F31c, F31, push_cast, ↓reduceIte, Nat.reduceEqDiff, Nat.reduceAdd, Nat.reduceMul, Nat.reduceLeDiff, Nat.reduceLT, Nat.reduceBEq, Nat.reduceSub, Int.reduceToNat, Int.reduceNeg]
    · simp (config := { maxSteps := 1000000 }) (disch := first | exact chk_rfl | (unfold Chk; decide +kernel) | (refine chk_of ?_; with_unfolding_all rfl) | omega | (simp only [cells_agg, List.length_cons, List.length_nil, List.length_map, List.length_take, List.length_append, Nat.zero_add, Nat.reduceAdd]; first | done | omega) | fail) only [F31o0, F31o1, F31c, F31, push_cast, ↓reduceIte, Nat.reduceEqDiff, Nat.reduceAdd, Nat.reduceMul, Nat.reduceLeDiff, Nat.reduceLT, Nat.reduceBEq, Nat.reduceSub, Int.reduceToNat, Int.reduceNeg]
  · simp (config := { maxSteps := 1000000 }) (disch := first | exact chk_rfl | (unfold Chk; decide +kernel) | (refine chk_of ?_; with_unfolding_all rfl) | omega | (simp only [cells_agg, List.length_cons, List.length_nil, List.length_map, List.length_take, List.length_append, Nat.zero_add, Nat.reduceAdd]; first | done | omega) | fail) only [F31o0, F31o1, F31c, F31, push_cast, ↓reduceIte, Nat.reduceEqDiff, Nat.reduceAdd, Nat.reduceMul, Nat.reduceLeDiff, Nat.reduceLT, Nat.reduceBEq, Nat.reduceSub, Int.reduceToNat, Int.reduceNeg]

theorem word_none (c : Int) (h : ¬ (1 ≤ c ∧ c ≤ 16)) : wordT c = [] := by
  unfold wordT
  by_cases h0 : 0 ≤ c
  · rw [if_pos h0]
    by_cases h1 : c = 0
    · subst h1; rfl
    · have : wordsL[c.toNat]? = none := List.getElem?_eq_none (by simp [wordsL]; omega)
      rw [this]; rfl
  · rw [if_neg h0]
theorem word_len (c : Int) : (wordT c).length ≤ 20 := by
  unfold wordT
  split
  · cases h : wordsL[c.toNat]? with
    | none => simp
    | some x =>
      have := List.mem_of_getElem? h
      have hall : ∀ x ∈ wordsL, x.length ≤ 20 := by decide
      exact hall x this
  · simp

theorem join_kept_nil (l : List (List UInt8)) (h : joinT [32] (kept l) = []) : kept l = [] := by
  cases hk : kept l with
  | nil => rfl
  | cons x r =>
    have hx : x ∈ kept l := by rw [hk]; simp
    have hne : x ≠ [] := by
      have := (List.mem_filter.1 hx).2
      simpa [empt] using this
    rw [hk] at h
    cases r with
    | nil => simp [joinT] at h; exact absurd h hne
    | cons y q => simp [joinT] at h

def wantT (L : List (List UInt8)) (m : Nat) : List UInt8 := joinT [32] (kept (L.take m))
theorem want_skip {L : List (List UInt8)} {m : Nat} (h : L[m]? = some []) : wantT L (m + 1) = wantT L m := by
  rw [wantT, kept_snoc h, if_pos (by simp [empt]), List.append_nil]; rfl
theorem want_first {L : List (List UInt8)} {m : Nat} {s : List UInt8} (h : L[m]? = some s) (hs : ¬ s = []) (hw : wantT L m = []) : wantT L (m + 1) = s := by
  rw [wantT, kept_snoc h, if_neg (by simp [empt, hs]), join_kept_nil _ hw]; rfl
theorem want_next {L : List (List UInt8)} {m : Nat} {s : List UInt8} (h : L[m]? = some s) (hs : ¬ s = []) (hw : ¬ wantT L m = []) : wantT L (m + 1) = wantT L m ++ (32 :: s) := by
  rw [wantT, kept_snoc h, if_neg (by simp [empt, hs])]
  rw [wantT] at hw ⊢
  cases hk : kept (L.take m) with
  | nil => exact absurd (by rw [hk]; rfl) hw
  | cons x q => rw [List.cons_append, joinT_snoc]; simp

set_option maxHeartbeats 4000000 in
theorem texts_law (p : Prb) (hok : p.ok) : Pure Tryd.prog tabG 7 [p.pv] (.bool true) := by
  have h30 := short30 p
  have hsm := shortB_small p
  obtain ⟨c, r, pl, n⟩ := p
  rw [Prb.ok_mk] at hok
  obtain ⟨hc, hrl, hplB, hpl, hnl⟩ := hok
  refine Pure.intro F7_ok (by simp [F7]) ?_
  simp only [shortB] at h30
  have g1 : (r.take 70).length ≤ 70 := by simp; omega
  have g2 : (pl.take 12).length ≤ 12 := by simp; omega
  have g3 : (n.take 70).length ≤ 70 := by simp; omega
  have g4 : ∀ x ∈ pl.take 12, I64 x := fun x hx => hpl x (List.mem_of_mem_take hx)
  generalize r.take 70 = R at *
  generalize pl.take 12 = Q at *
  generalize n.take 70 = N at *
  have hpt := placeT_len Q (by omega)
  have hwl := word_len c
  obtain ⟨L, hL⟩ : ∃ L, L = [R, placeT Q, wordT c, N] := ⟨_, rfl⟩
  have hLall : ∀ s ∈ L, s.length ≤ 30000 := by rw [hL]; simp; omega
  have hLlen : L.length = 4 := by rw [hL]; rfl
  have hfin : wantT L 4 = textT (.mk c R Q N) := by rw [hL]; rfl
  have h33 := text33 (.mk c R Q N) g1 g2 g3 g4
  have h32 := word32 c
  have h31 := in31 c 1 16
  have h20 := placeDef_ok Q (by omega) g4
  have hLp : L.map PV.str = [PV.str R, PV.str (placeT Q), PV.str (wordT c), PV.str N] := by rw [hL]; rfl
  rw [Prb.pv_mk] at h30 h33
  rw [Prb.pv_mk] at h30
  obtain ⟨W, hW⟩ : ∃ W, W = wordT c := ⟨_, rfl⟩
  have hidx : 1 ≤ c ∧ c ≤ 16 → ∃ k : Nat, c = k ∧ (wordsL.map PV.str)[k]? = some (PV.str W) := by
    intro h
    refine ⟨c.toNat, by omega, ?_⟩
    rw [List.getElem?_map, hW, wordT, if_pos (by omega)]
    have hk : c.toNat < wordsL.length := by simp [wordsL]; omega
    rw [List.getElem?_eq_getElem hk]; rfl
  have hno := word_none c
  rw [← hW] at h32 hLp hno
  clear hL hwl
  simp (config := { maxSteps := 1000000 }) (disch := first | exact chk_rfl | (unfold Chk; decide +kernel) | (refine chk_of ?_; with_unfolding_all rfl) | omega | (simp only [cells_agg, List.length_cons, List.length_nil, List.length_map, List.length_take, List.length_append, Nat.zero_add, Nat.reduceAdd]; first | done | omega) | fail) only [F7o0, F7o1, F7o2, F7o3, F7o4, F7o5, F7o6, F7o7, F7p7, F7o8, F7o9, F7o10, F7o11, F7o12, F7o13, F7b14, F7o15, F7c, F7, Prb.pv_mk, push_cast, ↓reduceIte, Nat.reduceEqDiff, Nat.reduceAdd, Nat.reduceMul, Nat.reduceLeDiff, Nat.reduceLT, Nat.reduceBEq, Nat.reduceSub, Int.reduceToNat, Int.reduceNeg]
  refine ACall.pure h30 rfl ?_
  simp (config := { maxSteps := 1000000 }) (disch := first | exact chk_rfl | (unfold Chk; decide +kernel) | (refine chk_of ?_; with_unfolding_all rfl) | omega | (simp only [cells_agg, List.length_cons, List.length_nil, List.length_map, List.length_take, List.length_append, Nat.zero_add, Nat.reduceAdd]; first | done | omega) | fail) only [push_cast, ↓reduceIte, Nat.reduceEqDiff, Nat.reduceAdd, Nat.reduceMul, Nat.reduceLeDiff, Nat.reduceLT, Nat.reduceBEq, Nat.reduceSub, Int.reduceToNat, Int.reduceNeg]
  refine ACall.pure h31 rfl ?_
  by_cases h1 : 1 ≤ c ∧ c ≤ 16
  · obtain ⟨k, hk, hkw⟩ := hidx h1
    obtain ⟨c1, c2⟩ := h1
    have c1' : (1 : Int) ≤ k := by omega
    have c2' : (k : Int) ≤ 16 := by omega
    subst hk
    simp only [wordsL, List.map_cons, List.map_nil] at hkw
    simp (config := { maxSteps := 1000000 }) (disch := first | exact chk_rfl | (unfold Chk; decide +kernel) | (refine chk_of ?_; with_unfolding_all rfl) | omega | (simp only [cells_agg, List.length_cons, List.length_nil, List.length_map, List.length_take, List.length_append, Nat.zero_add, Nat.reduceAdd]; first | done | omega) | fail) only [hkw, push_cast, ↓reduceIte, Nat.reduceEqDiff, Nat.reduceAdd, Nat.reduceMul, Nat.reduceLeDiff, Nat.reduceLT, Nat.reduceBEq, Nat.reduceSub, Int.reduceToNat, Int.reduceNeg]
    refine callDL_pure h20 rfl ?_
    simp (config := { maxSteps := 1000000 }) (disch := first | exact chk_rfl | (unfold Chk; decide +kernel) | (refine chk_of ?_; with_unfolding_all rfl) | omega | (simp only [cells_agg, List.length_cons, List.length_nil, List.length_map, List.length_take, List.length_append, Nat.zero_add, Nat.reduceAdd]; first | done | omega) | fail) only [← hLp, push_cast, ↓reduceIte, Nat.reduceEqDiff, Nat.reduceAdd, Nat.reduceMul, Nat.reduceLeDiff, Nat.reduceLT, Nat.reduceBEq, Nat.reduceSub, Int.reduceToNat, Int.reduceNeg]
    refine vc_over ([]) (fun m : Nat => [(5, .pv (.str (wantT L m))), (29, .pv (.int .i64 (m : Int)))]) (fun m => []) (fun m => m ≤ 4 ∧ (wantT L m).length ≤ m * 40000) (fun m => 4 - m) (0) ?_; intro e0 σ0 n0 h0; simp (config := { maxSteps := 1000000 }) (disch := first | exact chk_rfl | (unfold Chk; decide +kernel) | (refine chk_of ?_; with_unfolding_all rfl) | omega | (simp only [cells_agg, List.length_cons, List.length_nil, List.length_map, List.length_take, List.length_append, Nat.zero_add, Nat.reduceAdd]; first | done | omega) | fail) only [push_cast, ↓reduceIte, Nat.reduceEqDiff, Nat.reduceAdd, Nat.reduceMul, Nat.reduceLeDiff, Nat.reduceLT, Nat.reduceBEq, Nat.reduceSub, Int.reduceToNat, Int.reduceNeg] at h0; obtain ⟨rfl, rfl, rfl⟩ := h0; refine ⟨?_, ?_, ?_⟩
    · simp (config := { maxSteps := 1000000 }) (disch := first | exact chk_rfl | (unfold Chk; decide +kernel) | (refine chk_of ?_; with_unfolding_all rfl) | omega | (simp only [cells_agg, List.length_cons, List.length_nil, List.length_map, List.length_take, List.length_append, Nat.zero_add, Nat.reduceAdd]; first | done | omega) | fail) only [wantT, push_cast, ↓reduceIte, Nat.reduceEqDiff, Nat.reduceAdd, Nat.reduceMul, Nat.reduceLeDiff, Nat.reduceLT, Nat.reduceBEq, Nat.reduceSub, Int.reduceToNat, Int.reduceNeg]
      rfl
    · exact ⟨by omega, by simp [wantT, kept, joinT]⟩
    · rintro m ⟨hm, hwm⟩
      by_cases hlt : m < 4
      · have hltI : (m : Int) < 4 := by omega
        obtain ⟨s, hs⟩ : ∃ x, L[m]? = some x := ⟨_, List.getElem?_eq_getElem (by omega)⟩
        have hsl := hLall s (List.mem_of_getElem? hs)
        by_cases hs0 : s = []
        · subst hs0
          have hn := want_skip hs
          simp (config := { maxSteps := 1000000 }) (disch := first | exact chk_rfl | (unfold Chk; decide +kernel) | (refine chk_of ?_; with_unfolding_all rfl) | omega | (simp only [cells_agg, List.length_cons, List.length_nil, List.length_map, List.length_take, List.length_append, Nat.zero_add, Nat.reduceAdd]; first | done | omega) | fail) only [hs, push_cast, ↓reduceIte, Nat.reduceEqDiff, Nat.reduceAdd, Nat.reduceMul, Nat.reduceLeDiff, Nat.reduceLT, Nat.reduceBEq, Nat.reduceSub, Int.reduceToNat, Int.reduceNeg]
          exact ⟨m + 1, hd_z (by simp (config := { maxSteps := 1000000 }) (disch := first | exact chk_rfl | (unfold Chk; decide +kernel) | (refine chk_of ?_; with_unfolding_all rfl) | omega | (simp only [cells_agg, List.length_cons, List.length_nil, List.length_map, List.length_take, List.length_append, Nat.zero_add, Nat.reduceAdd]; first | done | omega) | fail) only [hn, List.append_nil, push_cast, ↓reduceIte, Nat.reduceEqDiff, Nat.reduceAdd, Nat.reduceMul, Nat.reduceLeDiff, Nat.reduceLT, Nat.reduceBEq, Nat.reduceSub, Int.reduceToNat, Int.reduceNeg]), ⟨by omega, by rw [hn]; omega⟩, by omega⟩
        · by_cases hw0 : wantT L m = []
          · have hn := want_first hs hs0 hw0
            simp (config := { maxSteps := 1000000 }) (disch := first | exact chk_rfl | (unfold Chk; decide +kernel) | (refine chk_of ?_; with_unfolding_all rfl) | omega | (simp only [cells_agg, List.length_cons, List.length_nil, List.length_map, List.length_take, List.length_append, Nat.zero_add, Nat.reduceAdd]; first | done | omega) | fail) only [hs, hs0, hw0, push_cast, ↓reduceIte, Nat.reduceEqDiff, Nat.reduceAdd, Nat.reduceMul, Nat.reduceLeDiff, Nat.reduceLT, Nat.reduceBEq, Nat.reduceSub, Int.reduceToNat, Int.reduceNeg]
            exact ⟨m + 1, hd_z (by simp (config := { maxSteps := 1000000 }) (disch := first | exact chk_rfl | (unfold Chk; decide +kernel) | (refine chk_of ?_; with_unfolding_all rfl) | omega | (simp only [cells_agg, List.length_cons, List.length_nil, List.length_map, List.length_take, List.length_append, Nat.zero_add, Nat.reduceAdd]; first | done | omega) | fail) only [hn, List.nil_append, push_cast, ↓reduceIte, Nat.reduceEqDiff, Nat.reduceAdd, Nat.reduceMul, Nat.reduceLeDiff, Nat.reduceLT, Nat.reduceBEq, Nat.reduceSub, Int.reduceToNat, Int.reduceNeg]), ⟨by omega, by rw [hn]; omega⟩, by omega⟩
          · have hn := want_next hs hs0 hw0
            simp (config := { maxSteps := 1000000 }) (disch := first | exact chk_rfl | (unfold Chk; decide +kernel) | (refine chk_of ?_; with_unfolding_all rfl) | omega | (simp only [cells_agg, List.length_cons, List.length_nil, List.length_map, List.length_take, List.length_append, Nat.zero_add, Nat.reduceAdd]; first | done | omega) | fail) only [hs, hs0, hw0, push_cast, ↓reduceIte, Nat.reduceEqDiff, Nat.reduceAdd, Nat.reduceMul, Nat.reduceLeDiff, Nat.reduceLT, Nat.reduceBEq, Nat.reduceSub, Int.reduceToNat, Int.reduceNeg]
            exact ⟨m + 1, hd_z (by simp (config := { maxSteps := 1000000 }) (disch := first | exact chk_rfl | (unfold Chk; decide +kernel) | (refine chk_of ?_; with_unfolding_all rfl) | omega | (simp only [cells_agg, List.length_cons, List.length_nil, List.length_map, List.length_take, List.length_append, Nat.zero_add, Nat.reduceAdd]; first | done | omega) | fail) only [hn, List.append_assoc, List.cons_append, List.nil_append, push_cast, ↓reduceIte, Nat.reduceEqDiff, Nat.reduceAdd, Nat.reduceMul, Nat.reduceLeDiff, Nat.reduceLT, Nat.reduceBEq, Nat.reduceSub, Int.reduceToNat, Int.reduceNeg]), ⟨by omega, by rw [hn]; simp only [List.length_append, List.length_cons]; omega⟩, by omega⟩
      · have hltI : ¬ (m : Int) < 4 := by omega
        have hm4 : m = 4 := by omega
        subst hm4
        have h33' := h33 (by rw [← hfin]; exact Nat.le_trans hwm (by decide))
        simp (config := { maxSteps := 1000000 }) (disch := first | exact chk_rfl | (unfold Chk; decide +kernel) | (refine chk_of ?_; with_unfolding_all rfl) | omega | (simp only [cells_agg, List.length_cons, List.length_nil, List.length_map, List.length_take, List.length_append, Nat.zero_add, Nat.reduceAdd]; first | done | omega) | fail) only [push_cast, ↓reduceIte, Nat.reduceEqDiff, Nat.reduceAdd, Nat.reduceMul, Nat.reduceLeDiff, Nat.reduceLT, Nat.reduceBEq, Nat.reduceSub, Int.reduceToNat, Int.reduceNeg]
        refine ACall.pure known_ok rfl ?_
        simp (config := { maxSteps := 1000000 }) (disch := first | exact chk_rfl | (unfold Chk; decide +kernel) | (refine chk_of ?_; with_unfolding_all rfl) | omega | (simp only [cells_agg, List.length_cons, List.length_nil, List.length_map, List.length_take, List.length_append, Nat.zero_add, Nat.reduceAdd]; first | done | omega) | fail) only [push_cast, ↓reduceIte, Nat.reduceEqDiff, Nat.reduceAdd, Nat.reduceMul, Nat.reduceLeDiff, Nat.reduceLT, Nat.reduceBEq, Nat.reduceSub, Int.reduceToNat, Int.reduceNeg]
        refine ACall.pure h32 rfl ?_
        simp (config := { maxSteps := 1000000 }) (disch := first | exact chk_rfl | (unfold Chk; decide +kernel) | (refine chk_of ?_; with_unfolding_all rfl) | omega | (simp only [cells_agg, List.length_cons, List.length_nil, List.length_map, List.length_take, List.length_append, Nat.zero_add, Nat.reduceAdd]; first | done | omega) | fail) only [push_cast, ↓reduceIte, Nat.reduceEqDiff, Nat.reduceAdd, Nat.reduceMul, Nat.reduceLeDiff, Nat.reduceLT, Nat.reduceBEq, Nat.reduceSub, Int.reduceToNat, Int.reduceNeg]
        refine ACall.pure h33' rfl ?_
        simp (config := { maxSteps := 1000000 }) (disch := first | exact chk_rfl | (unfold Chk; decide +kernel) | (refine chk_of ?_; with_unfolding_all rfl) | omega | (simp only [cells_agg, List.length_cons, List.length_nil, List.length_map, List.length_take, List.length_append, Nat.zero_add, Nat.reduceAdd]; first | done | omega) | fail) only [hfin, push_cast, ↓reduceIte, Nat.reduceEqDiff, Nat.reduceAdd, Nat.reduceMul, Nat.reduceLeDiff, Nat.reduceLT, Nat.reduceBEq, Nat.reduceSub, Int.reduceToNat, Int.reduceNeg]
  · have hW0 := hno h1
    subst hW0
    by_cases c1 : 1 ≤ c
    · have c2 : ¬ c ≤ 16 := fun h => h1 ⟨c1, h⟩
      simp (config := { maxSteps := 1000000 }) (disch := first | exact chk_rfl | (unfold Chk; decide +kernel) | (refine chk_of ?_; with_unfolding_all rfl) | omega | (simp only [cells_agg, List.length_cons, List.length_nil, List.length_map, List.length_take, List.length_append, Nat.zero_add, Nat.reduceAdd]; first | done | omega) | fail) only [push_cast, ↓reduceIte, Nat.reduceEqDiff, Nat.reduceAdd, Nat.reduceMul, Nat.reduceLeDiff, Nat.reduceLT, Nat.reduceBEq, Nat.reduceSub, Int.reduceToNat, Int.reduceNeg]
      refine callDL_pure h20 rfl ?_
      simp (config := { maxSteps := 1000000 }) (disch := first | exact chk_rfl | (unfold Chk; decide +kernel) | (refine chk_of ?_; with_unfolding_all rfl) | omega | (simp only [cells_agg, List.length_cons, List.length_nil, List.length_map, List.length_take, List.length_append, Nat.zero_add, Nat.reduceAdd]; first | done | omega) | fail) only [← hLp, push_cast, ↓reduceIte, Nat.reduceEqDiff, Nat.reduceAdd, Nat.reduceMul, Nat.reduceLeDiff, Nat.reduceLT, Nat.reduceBEq, Nat.reduceSub, Int.reduceToNat, Int.reduceNeg]
      refine vc_over ([]) (fun m : Nat => [(5, .pv (.str (wantT L m))), (29, .pv (.int .i64 (m : Int)))]) (fun m => []) (fun m => m ≤ 4 ∧ (wantT L m).length ≤ m * 40000) (fun m => 4 - m) (0) ?_; intro e0 σ0 n0 h0; simp (config := { maxSteps := 1000000 }) (disch := first | exact chk_rfl | (unfold Chk; decide +kernel) | (refine chk_of ?_; with_unfolding_all rfl) | omega | (simp only [cells_agg, List.length_cons, List.length_nil, List.length_map, List.length_take, List.length_append, Nat.zero_add, Nat.reduceAdd]; first | done | omega) | fail) only [push_cast, ↓reduceIte, Nat.reduceEqDiff, Nat.reduceAdd, Nat.reduceMul, Nat.reduceLeDiff, Nat.reduceLT, Nat.reduceBEq, Nat.reduceSub, Int.reduceToNat, Int.reduceNeg] at h0; obtain ⟨rfl, rfl, rfl⟩ := h0; refine ⟨?_, ?_, ?_⟩
      · simp (config := { maxSteps := 1000000 }) (disch := first | exact chk_rfl | (unfold Chk; decide +kernel) | (refine chk_of ?_; with_unfolding_all rfl) | omega | (simp only [cells_agg, List.length_cons, List.length_nil, List.length_map, List.length_take, List.length_append, Nat.zero_add, Nat.reduceAdd]; first | done | omega) | fail) only [wantT, push_cast, ↓reduceIte, Nat.reduceEqDiff, Nat.reduceAdd, Nat.reduceMul, Nat.reduceLeDiff, Nat.reduceLT, Nat.reduceBEq, Nat.reduceSub, Int.reduceToNat, Int.reduceNeg]
        rfl
      · exact ⟨by omega, by simp [wantT, kept, joinT]⟩
      · rintro m ⟨hm, hwm⟩
        by_cases hlt : m < 4
        · have hltI : (m : Int) < 4 := by omega
          obtain ⟨s, hs⟩ : ∃ x, L[m]? = some x := ⟨_, List.getElem?_eq_getElem (by omega)⟩
          have hsl := hLall s (List.mem_of_getElem? hs)
          by_cases hs0 : s = []
          · subst hs0
            have hn := want_skip hs
            simp (config := { maxSteps := 1000000 }) (disch := first | exact chk_rfl | (unfold Chk; decide +kernel) | (refine chk_of ?_; with_unfolding_all rfl) | omega | (simp only [cells_agg, List.length_cons, List.length_nil, List.length_map, List.length_take, List.length_append, Nat.zero_add, Nat.reduceAdd]; first | done | omega) | fail) only [hs, push_cast, ↓reduceIte, Nat.reduceEqDiff, Nat.reduceAdd, Nat.reduceMul, Nat.reduceLeDiff, Nat.reduceLT, Nat.reduceBEq, Nat.reduceSub, Int.reduceToNat, Int.reduceNeg]
            exact ⟨m + 1, hd_z (by simp (config := { maxSteps := 1000000 }) (disch := first | exact chk_rfl | (unfold Chk; decide +kernel) | (refine chk_of ?_; with_unfolding_all rfl) | omega | (simp only [cells_agg, List.length_cons, List.length_nil, List.length_map, List.length_take, List.length_append, Nat.zero_add, Nat.reduceAdd]; first | done | omega) | fail) only [hn, List.append_nil, push_cast, ↓reduceIte, Nat.reduceEqDiff, Nat.reduceAdd, Nat.reduceMul, Nat.reduceLeDiff, Nat.reduceLT, Nat.reduceBEq, Nat.reduceSub, Int.reduceToNat, Int.reduceNeg]), ⟨by omega, by rw [hn]; omega⟩, by omega⟩
          · by_cases hw0 : wantT L m = []
            · have hn := want_first hs hs0 hw0
              simp (config := { maxSteps := 1000000 }) (disch := first | exact chk_rfl | (unfold Chk; decide +kernel) | (refine chk_of ?_; with_unfolding_all rfl) | omega | (simp only [cells_agg, List.length_cons, List.length_nil, List.length_map, List.length_take, List.length_append, Nat.zero_add, Nat.reduceAdd]; first | done | omega) | fail) only [hs, hs0, hw0, push_cast, ↓reduceIte, Nat.reduceEqDiff, Nat.reduceAdd, Nat.reduceMul, Nat.reduceLeDiff, Nat.reduceLT, Nat.reduceBEq, Nat.reduceSub, Int.reduceToNat, Int.reduceNeg]
              exact ⟨m + 1, hd_z (by simp (config := { maxSteps := 1000000 }) (disch := first | exact chk_rfl | (unfold Chk; decide +kernel) | (refine chk_of ?_; with_unfolding_all rfl) | omega | (simp only [cells_agg, List.length_cons, List.length_nil, List.length_map, List.length_take, List.length_append, Nat.zero_add, Nat.reduceAdd]; first | done | omega) | fail) only [hn, List.nil_append, push_cast, ↓reduceIte, Nat.reduceEqDiff, Nat.reduceAdd, Nat.reduceMul, Nat.reduceLeDiff, Nat.reduceLT, Nat.reduceBEq, Nat.reduceSub, Int.reduceToNat, Int.reduceNeg]), ⟨by omega, by rw [hn]; omega⟩, by omega⟩
            · have hn := want_next hs hs0 hw0
              simp (config := { maxSteps := 1000000 }) (disch := first | exact chk_rfl | (unfold Chk; decide +kernel) | (refine chk_of ?_; with_unfolding_all rfl) | omega | (simp only [cells_agg, List.length_cons, List.length_nil, List.length_map, List.length_take, List.length_append, Nat.zero_add, Nat.reduceAdd]; first | done | omega) | fail) only [hs, hs0, hw0, push_cast, ↓reduceIte, Nat.reduceEqDiff, Nat.reduceAdd, Nat.reduceMul, Nat.reduceLeDiff, Nat.reduceLT, Nat.reduceBEq, Nat.reduceSub, Int.reduceToNat, Int.reduceNeg]
              exact ⟨m + 1, hd_z (by simp (config := { maxSteps := 1000000 }) (disch := first | exact chk_rfl | (unfold Chk; decide +kernel) | (refine chk_of ?_; with_unfolding_all rfl) | omega | (simp only [cells_agg, List.length_cons, List.length_nil, List.length_map, List.length_take, List.length_append, Nat.zero_add, Nat.reduceAdd]; first | done | omega) | fail) only [hn, List.append_assoc, List.cons_append, List.nil_append, push_cast, ↓reduceIte, Nat.reduceEqDiff, Nat.reduceAdd, Nat.reduceMul, Nat.reduceLeDiff, Nat.reduceLT, Nat.reduceBEq, Nat.reduceSub, Int.reduceToNat, Int.reduceNeg]), ⟨by omega, by rw [hn]; simp only [List.length_append, List.length_cons]; omega⟩, by omega⟩
        · have hltI : ¬ (m : Int) < 4 := by omega
          have hm4 : m = 4 := by omega
          subst hm4
          have h33' := h33 (by rw [← hfin]; exact Nat.le_trans hwm (by decide))
          simp (config := { maxSteps := 1000000 }) (disch := first | exact chk_rfl | (unfold Chk; decide +kernel) | (refine chk_of ?_; with_unfolding_all rfl) | omega | (simp only [cells_agg, List.length_cons, List.length_nil, List.length_map, List.length_take, List.length_append, Nat.zero_add, Nat.reduceAdd]; first | done | omega) | fail) only [push_cast, ↓reduceIte, Nat.reduceEqDiff, Nat.reduceAdd, Nat.reduceMul, Nat.reduceLeDiff, Nat.reduceLT, Nat.reduceBEq, Nat.reduceSub, Int.reduceToNat, Int.reduceNeg]
          refine ACall.pure known_ok rfl ?_
          simp (config := { maxSteps := 1000000 }) (disch := first | exact chk_rfl | (unfold Chk; decide +kernel) | (refine chk_of ?_; with_unfolding_all rfl) | omega | (simp only [cells_agg, List.length_cons, List.length_nil, List.length_map, List.length_take, List.length_append, Nat.zero_add, Nat.reduceAdd]; first | done | omega) | fail) only [push_cast, ↓reduceIte, Nat.reduceEqDiff, Nat.reduceAdd, Nat.reduceMul, Nat.reduceLeDiff, Nat.reduceLT, Nat.reduceBEq, Nat.reduceSub, Int.reduceToNat, Int.reduceNeg]
          refine ACall.pure h32 rfl ?_
          simp (config := { maxSteps := 1000000 }) (disch := first | exact chk_rfl | (unfold Chk; decide +kernel) | (refine chk_of ?_; with_unfolding_all rfl) | omega | (simp only [cells_agg, List.length_cons, List.length_nil, List.length_map, List.length_take, List.length_append, Nat.zero_add, Nat.reduceAdd]; first | done | omega) | fail) only [push_cast, ↓reduceIte, Nat.reduceEqDiff, Nat.reduceAdd, Nat.reduceMul, Nat.reduceLeDiff, Nat.reduceLT, Nat.reduceBEq, Nat.reduceSub, Int.reduceToNat, Int.reduceNeg]
          refine ACall.pure h33' rfl ?_
          simp (config := { maxSteps := 1000000 }) (disch := first | exact chk_rfl | (unfold Chk; decide +kernel) | (refine chk_of ?_; with_unfolding_all rfl) | omega | (simp only [cells_agg, List.length_cons, List.length_nil, List.length_map, List.length_take, List.length_append, Nat.zero_add, Nat.reduceAdd]; first | done | omega) | fail) only [hfin, push_cast, ↓reduceIte, Nat.reduceEqDiff, Nat.reduceAdd, Nat.reduceMul, Nat.reduceLeDiff, Nat.reduceLT, Nat.reduceBEq, Nat.reduceSub, Int.reduceToNat, Int.reduceNeg]
    · simp (config := { maxSteps := 1000000 }) (disch := first | exact chk_rfl | (unfold Chk; decide +kernel) | (refine chk_of ?_; with_unfolding_all rfl) | omega | (simp only [cells_agg, List.length_cons, List.length_nil, List.length_map, List.length_take, List.length_append, Nat.zero_add, Nat.reduceAdd]; first | done | omega) | fail) only [push_cast, ↓reduceIte, Nat.reduceEqDiff, Nat.reduceAdd, Nat.reduceMul, Nat.reduceLeDiff, Nat.reduceLT, Nat.reduceBEq, Nat.reduceSub, Int.reduceToNat, Int.reduceNeg]
      refine callDL_pure h20 rfl ?_
      simp (config := { maxSteps := 1000000 }) (disch := first | exact chk_rfl | (unfold Chk; decide +kernel) | (refine chk_of ?_; with_unfolding_all rfl) | omega | (simp only [cells_agg, List.length_cons, List.length_nil, List.length_map, List.length_take, List.length_append, Nat.zero_add, Nat.reduceAdd]; first | done | omega) | fail) only [← hLp, push_cast, ↓reduceIte, Nat.reduceEqDiff, Nat.reduceAdd, Nat.reduceMul, Nat.reduceLeDiff, Nat.reduceLT, Nat.reduceBEq, Nat.reduceSub, Int.reduceToNat, Int.reduceNeg]
      refine vc_over ([]) (fun m : Nat => [(5, .pv (.str (wantT L m))), (29, .pv (.int .i64 (m : Int)))]) (fun m => []) (fun m => m ≤ 4 ∧ (wantT L m).length ≤ m * 40000) (fun m => 4 - m) (0) ?_; intro e0 σ0 n0 h0; simp (config := { maxSteps := 1000000 }) (disch := first | exact chk_rfl | (unfold Chk; decide +kernel) | (refine chk_of ?_; with_unfolding_all rfl) | omega | (simp only [cells_agg, List.length_cons, List.length_nil, List.length_map, List.length_take, List.length_append, Nat.zero_add, Nat.reduceAdd]; first | done | omega) | fail) only [push_cast, ↓reduceIte, Nat.reduceEqDiff, Nat.reduceAdd, Nat.reduceMul, Nat.reduceLeDiff, Nat.reduceLT, Nat.reduceBEq, Nat.reduceSub, Int.reduceToNat, Int.reduceNeg] at h0; obtain ⟨rfl, rfl, rfl⟩ := h0; refine ⟨?_, ?_, ?_⟩
      · simp (config := { maxSteps := 1000000 }) (disch := first | exact chk_rfl | (unfold Chk; decide +kernel) | (refine chk_of ?_; with_unfolding_all rfl) | omega | (simp only [cells_agg, List.length_cons, List.length_nil, List.length_map, List.length_take, List.length_append, Nat.zero_add, Nat.reduceAdd]; first | done | omega) | fail) only [wantT, push_cast, ↓reduceIte, Nat.reduceEqDiff, Nat.reduceAdd, Nat.reduceMul, Nat.reduceLeDiff, Nat.reduceLT, Nat.reduceBEq, Nat.reduceSub, Int.reduceToNat, Int.reduceNeg]
        rfl
      · exact ⟨by omega, by simp [wantT, kept, joinT]⟩
      · rintro m ⟨hm, hwm⟩
        by_cases hlt : m < 4
        · have hltI : (m : Int) < 4 := by omega
          obtain ⟨s, hs⟩ : ∃ x, L[m]? = some x := ⟨_, List.getElem?_eq_getElem (by omega)⟩
          have hsl := hLall s (List.mem_of_getElem? hs)
          by_cases hs0 : s = []
          · subst hs0
            have hn := want_skip hs
            simp (config := { maxSteps := 1000000 }) (disch := first | exact chk_rfl | (unfold Chk; decide +kernel) | (refine chk_of ?_; with_unfolding_all rfl) | omega | (simp only [cells_agg, List.length_cons, List.length_nil, List.length_map, List.length_take, List.length_append, Nat.zero_add, Nat.reduceAdd]; first | done | omega) | fail) only [hs, push_cast, ↓reduceIte, Nat.reduceEqDiff, Nat.reduceAdd, Nat.reduceMul, Nat.reduceLeDiff, Nat.reduceLT, Nat.reduceBEq, Nat.reduceSub, Int.reduceToNat, Int.reduceNeg]
            exact ⟨m + 1, hd_z (by simp (config := { maxSteps := 1000000 }) (disch := first | exact chk_rfl | (unfold Chk; decide +kernel) | (refine chk_of ?_; with_unfolding_all rfl) | omega | (simp only [cells_agg, List.length_cons, List.length_nil, List.length_map, List.length_take, List.length_append, Nat.zero_add, Nat.reduceAdd]; first | done | omega) | fail) only [hn, List.append_nil, push_cast, ↓reduceIte, Nat.reduceEqDiff, Nat.reduceAdd, Nat.reduceMul, Nat.reduceLeDiff, Nat.reduceLT, Nat.reduceBEq, Nat.reduceSub, Int.reduceToNat, Int.reduceNeg]), ⟨by omega, by rw [hn]; omega⟩, by omega⟩
          · by_cases hw0 : wantT L m = []
            · have hn := want_first hs hs0 hw0
              simp (config := { maxSteps := 1000000 }) (disch := first | exact chk_rfl | (unfold Chk; decide +kernel) | (refine chk_of ?_; with_unfolding_all rfl) | omega | (simp only [cells_agg, List.length_cons, List.length_nil, List.length_map, List.length_take, List.length_append, Nat.zero_add, Nat.reduceAdd]; first | done | omega) | fail) only [hs, hs0, hw0, push_cast, ↓reduceIte, Nat.reduceEqDiff, Nat.reduceAdd, Nat.reduceMul, Nat.reduceLeDiff, Nat.reduceLT, Nat.reduceBEq, Nat.reduceSub, Int.reduceToNat, Int.reduceNeg]
              exact ⟨m + 1, hd_z (by simp (config := { maxSteps := 1000000 }) (disch := first | exact chk_rfl | (unfold Chk; decide +kernel) | (refine chk_of ?_; with_unfolding_all rfl) | omega | (simp only [cells_agg, List.length_cons, List.length_nil, List.length_map, List.length_take, List.length_append, Nat.zero_add, Nat.reduceAdd]; first | done | omega) | fail) only [hn, List.nil_append, push_cast, ↓reduceIte, Nat.reduceEqDiff, Nat.reduceAdd, Nat.reduceMul, Nat.reduceLeDiff, Nat.reduceLT, Nat.reduceBEq, Nat.reduceSub, Int.reduceToNat, Int.reduceNeg]), ⟨by omega, by rw [hn]; omega⟩, by omega⟩
            · have hn := want_next hs hs0 hw0
              simp (config := { maxSteps := 1000000 }) (disch := first | exact chk_rfl | (unfold Chk; decide +kernel) | (refine chk_of ?_; with_unfolding_all rfl) | omega | (simp only [cells_agg, List.length_cons, List.length_nil, List.length_map, List.length_take, List.length_append, Nat.zero_add, Nat.reduceAdd]; first | done | omega) | fail) only [hs, hs0, hw0, push_cast, ↓reduceIte, Nat.reduceEqDiff, Nat.reduceAdd, Nat.reduceMul, Nat.reduceLeDiff, Nat.reduceLT, Nat.reduceBEq, Nat.reduceSub, Int.reduceToNat, Int.reduceNeg]
              exact ⟨m + 1, hd_z (by simp (config := { maxSteps := 1000000 }) (disch := first | exact chk_rfl | (unfold Chk; decide +kernel) | (refine chk_of ?_; with_unfolding_all rfl) | omega | (simp only [cells_agg, List.length_cons, List.length_nil, List.length_map, List.length_take, List.length_append, Nat.zero_add, Nat.reduceAdd]; first | done | omega) | fail) only [hn, List.append_assoc, List.cons_append, List.nil_append, push_cast, ↓reduceIte, Nat.reduceEqDiff, Nat.reduceAdd, Nat.reduceMul, Nat.reduceLeDiff, Nat.reduceLT, Nat.reduceBEq, Nat.reduceSub, Int.reduceToNat, Int.reduceNeg]), ⟨by omega, by rw [hn]; simp only [List.length_append, List.length_cons]; omega⟩, by omega⟩
        · have hltI : ¬ (m : Int) < 4 := by omega
          have hm4 : m = 4 := by omega
          subst hm4
          have h33' := h33 (by rw [← hfin]; exact Nat.le_trans hwm (by decide))
          simp (config := { maxSteps := 1000000 }) (disch := first | exact chk_rfl | (unfold Chk; decide +kernel) | (refine chk_of ?_; with_unfolding_all rfl) | omega | (simp only [cells_agg, List.length_cons, List.length_nil, List.length_map, List.length_take, List.length_append, Nat.zero_add, Nat.reduceAdd]; first | done | omega) | fail) only [push_cast, ↓reduceIte, Nat.reduceEqDiff, Nat.reduceAdd, Nat.reduceMul, Nat.reduceLeDiff, Nat.reduceLT, Nat.reduceBEq, Nat.reduceSub, Int.reduceToNat, Int.reduceNeg]
          refine ACall.pure known_ok rfl ?_
          simp (config := { maxSteps := 1000000 }) (disch := first | exact chk_rfl | (unfold Chk; decide +kernel) | (refine chk_of ?_; with_unfolding_all rfl) | omega | (simp only [cells_agg, List.length_cons, List.length_nil, List.length_map, List.length_take, List.length_append, Nat.zero_add, Nat.reduceAdd]; first | done | omega) | fail) only [push_cast, ↓reduceIte, Nat.reduceEqDiff, Nat.reduceAdd, Nat.reduceMul, Nat.reduceLeDiff, Nat.reduceLT, Nat.reduceBEq, Nat.reduceSub, Int.reduceToNat, Int.reduceNeg]
          refine ACall.pure h32 rfl ?_
          simp (config := { maxSteps := 1000000 }) (disch := first | exact chk_rfl | (unfold Chk; decide +kernel) | (refine chk_of ?_; with_unfolding_all rfl) | omega | (simp only [cells_agg, List.length_cons, List.length_nil, List.length_map, List.length_take, List.length_append, Nat.zero_add, Nat.reduceAdd]; first | done | omega) | fail) only [push_cast, ↓reduceIte, Nat.reduceEqDiff, Nat.reduceAdd, Nat.reduceMul, Nat.reduceLeDiff, Nat.reduceLT, Nat.reduceBEq, Nat.reduceSub, Int.reduceToNat, Int.reduceNeg]
          refine ACall.pure h33' rfl ?_
          simp (config := { maxSteps := 1000000 }) (disch := first | exact chk_rfl | (unfold Chk; decide +kernel) | (refine chk_of ?_; with_unfolding_all rfl) | omega | (simp only [cells_agg, List.length_cons, List.length_nil, List.length_map, List.length_take, List.length_append, Nat.zero_add, Nat.reduceAdd]; first | done | omega) | fail) only [hfin, push_cast, ↓reduceIte, Nat.reduceEqDiff, Nat.reduceAdd, Nat.reduceMul, Nat.reduceLeDiff, Nat.reduceLT, Nat.reduceBEq, Nat.reduceSub, Int.reduceToNat, Int.reduceNeg]

theorem texts_of (p0 : PV) (h0 : HasT Tryd.prog 63 p0) : Pure Tryd.prog tabG 7 [p0] (.bool true) := by
  obtain ⟨p, rfl, hp⟩ := hasT_Prb h0
  exact texts_law p hp
end Go.Proofs.YtfbakipopjoghaaDoor
