/- A part of the proof for ResolveTextsCardSaid. -/
import Derived.Test.YtfbakipopjoghaaDoorCore4
import Derived.Test.YtfbakipopjoghaaDoorTextX4
set_option maxRecDepth 100000
set_option linter.unusedVariables false
set_option linter.unusedSimpArgs false
namespace Go.Proofs.YtfbakipopjoghaaDoor
open Go Go.Ab

def empt (s : List UInt8) : Bool := decide (s = [])
theorem empty62 (s : List UInt8) : Pure Tryd.prog tabG 62 [.str s] (.bool (empt s)) := by
  refine Pure.intro F62_ok (by simp [F62]) ?_
  simp (config := { maxSteps := 1000000 }) (disch := first | exact chk_rfl | (unfold Chk; decide +kernel) | omega | (simp only [cells_agg, List.length_cons, List.length_nil, List.length_map, List.length_take, List.length_append, Nat.zero_add, Nat.reduceAdd]; first | done | omega) | fail) only [F62o0, F62o1, F62c, F62, empt, push_cast, ↓reduceIte, Nat.reduceEqDiff, Nat.reduceAdd, Nat.reduceMul, Nat.reduceLeDiff, Nat.reduceLT, Nat.reduceBEq, Nat.reduceSub, Int.reduceToNat, Int.reduceNeg]
/-- The first empty text, from the m-th on. -/
def firstE : List (List UInt8) → Nat → Int
  | [], _ => -1
  | x :: r, m => if empt x = true then (m : Int) else firstE r (m + 1)
set_option maxHeartbeats 4000000 in
theorem index89 (l : List (List UInt8)) (hl : l.length ≤ 1000) : Lent Tryd.prog tabG 1 89 [.row 0 1 0 l.length, .pv (.clo 62 [] [])] [.cells 9 true ((l.map PV.str).map .pv)] (.pv (.int .i64 (firstE l 0))) [.cells 9 true ((l.map PV.str).map .pv)] := by
  refine Lent.intro F89_ok (by simp [F89]) ?_
  simp (config := { maxSteps := 1000000 }) (disch := first | exact chk_rfl | (unfold Chk; decide +kernel) | omega | (simp only [cells_agg, List.length_cons, List.length_nil, List.length_map, List.length_take, List.length_append, Nat.zero_add, Nat.reduceAdd]; first | done | omega) | fail) only [F89o0, F89o1, F89o2, F89o3, F89o4, F89o5, F89o6, F89b7, F89o8, F89c, F89, push_cast, ↓reduceIte, Nat.reduceEqDiff, Nat.reduceAdd, Nat.reduceMul, Nat.reduceLeDiff, Nat.reduceLT, Nat.reduceBEq, Nat.reduceSub, Int.reduceToNat, Int.reduceNeg]
  refine vc_over ([]) (fun m : Nat => [(8, .pv (.int .i64 (m : Int)))]) (fun m => []) (fun m => m ≤ l.length ∧ firstE l 0 = firstE (l.drop m) m) (fun m => l.length - m) (0) ?_; intro e0 σ0 n0 h0; simp (config := { maxSteps := 1000000 }) (disch := first | exact chk_rfl | (unfold Chk; decide +kernel) | omega | (simp only [cells_agg, List.length_cons, List.length_nil, List.length_map, List.length_take, List.length_append, Nat.zero_add, Nat.reduceAdd]; first | done | omega) | fail) only [push_cast, ↓reduceIte, Nat.reduceEqDiff, Nat.reduceAdd, Nat.reduceMul, Nat.reduceLeDiff, Nat.reduceLT, Nat.reduceBEq, Nat.reduceSub, Int.reduceToNat, Int.reduceNeg] at h0; obtain ⟨rfl, rfl, rfl⟩ := h0; refine ⟨?_, ?_, ?_⟩
  · simp (config := { maxSteps := 1000000 }) (disch := first | exact chk_rfl | (unfold Chk; decide +kernel) | omega | (simp only [cells_agg, List.length_cons, List.length_nil, List.length_map, List.length_take, List.length_append, Nat.zero_add, Nat.reduceAdd]; first | done | omega) | fail) only [push_cast, ↓reduceIte, Nat.reduceEqDiff, Nat.reduceAdd, Nat.reduceMul, Nat.reduceLeDiff, Nat.reduceLT, Nat.reduceBEq, Nat.reduceSub, Int.reduceToNat, Int.reduceNeg]
  · exact ⟨by omega, by simp⟩
  · rintro m ⟨hm, he⟩
    by_cases hlt : m < l.length
    · have hltI : (m : Int) < l.length := by omega
      obtain ⟨x, hx⟩ : ∃ x, l[m]? = some x := ⟨_, List.getElem?_eq_getElem hlt⟩
      have hdr : l.drop m = x :: l.drop (m + 1) := by
        obtain ⟨h1, h2⟩ := List.getElem?_eq_some_iff.1 hx
        rw [List.drop_eq_getElem_cons h1, h2]
      rw [hdr, firstE] at he
      simp (config := { maxSteps := 1000000 }) (disch := first | exact chk_rfl | (unfold Chk; decide +kernel) | omega | (simp only [cells_agg, List.length_cons, List.length_nil, List.length_map, List.length_take, List.length_append, Nat.zero_add, Nat.reduceAdd]; first | done | omega) | fail) only [hx, Nat.mul_one, push_cast, ↓reduceIte, Nat.reduceEqDiff, Nat.reduceAdd, Nat.reduceMul, Nat.reduceLeDiff, Nat.reduceLT, Nat.reduceBEq, Nat.reduceSub, Int.reduceToNat, Int.reduceNeg]
      refine ACall.pure (empty62 x) rfl ?_
      cases hex : empt x with
      | true =>
        rw [hex, if_pos rfl] at he
        rw [he]
        simp (config := { maxSteps := 1000000 }) (disch := first | exact chk_rfl | (unfold Chk; decide +kernel) | omega | (simp only [cells_agg, List.length_cons, List.length_nil, List.length_map, List.length_take, List.length_append, Nat.zero_add, Nat.reduceAdd]; first | done | omega) | fail) only [push_cast, ↓reduceIte, Nat.reduceEqDiff, Nat.reduceAdd, Nat.reduceMul, Nat.reduceLeDiff, Nat.reduceLT, Nat.reduceBEq, Nat.reduceSub, Int.reduceToNat, Int.reduceNeg]
        exact lent_z [] (by simp (config := { maxSteps := 1000000 }) (disch := first | exact chk_rfl | (unfold Chk; decide +kernel) | omega | (simp only [cells_agg, List.length_cons, List.length_nil, List.length_map, List.length_take, List.length_append, Nat.zero_add, Nat.reduceAdd]; first | done | omega) | fail) only [push_cast, ↓reduceIte, Nat.reduceEqDiff, Nat.reduceAdd, Nat.reduceMul, Nat.reduceLeDiff, Nat.reduceLT, Nat.reduceBEq, Nat.reduceSub, Int.reduceToNat, Int.reduceNeg])
      | false =>
        rw [hex, if_neg (by simp)] at he
        simp (config := { maxSteps := 1000000 }) (disch := first | exact chk_rfl | (unfold Chk; decide +kernel) | omega | (simp only [cells_agg, List.length_cons, List.length_nil, List.length_map, List.length_take, List.length_append, Nat.zero_add, Nat.reduceAdd]; first | done | omega) | fail) only [push_cast, ↓reduceIte, Nat.reduceEqDiff, Nat.reduceAdd, Nat.reduceMul, Nat.reduceLeDiff, Nat.reduceLT, Nat.reduceBEq, Nat.reduceSub, Int.reduceToNat, Int.reduceNeg]
        exact ⟨m + 1, hd_z (by simp (config := { maxSteps := 1000000 }) (disch := first | exact chk_rfl | (unfold Chk; decide +kernel) | omega | (simp only [cells_agg, List.length_cons, List.length_nil, List.length_map, List.length_take, List.length_append, Nat.zero_add, Nat.reduceAdd]; first | done | omega) | fail) only [push_cast, ↓reduceIte, Nat.reduceEqDiff, Nat.reduceAdd, Nat.reduceMul, Nat.reduceLeDiff, Nat.reduceLT, Nat.reduceBEq, Nat.reduceSub, Int.reduceToNat, Int.reduceNeg]), ⟨by omega, he⟩, by omega⟩
    · have hltI : ¬ (m : Int) < l.length := by omega
      rw [List.drop_eq_nil_of_le (by omega), firstE] at he
      rw [he]
      simp (config := { maxSteps := 1000000 }) (disch := first | exact chk_rfl | (unfold Chk; decide +kernel) | omega | (simp only [cells_agg, List.length_cons, List.length_nil, List.length_map, List.length_take, List.length_append, Nat.zero_add, Nat.reduceAdd]; first | done | omega) | fail) only [push_cast, ↓reduceIte, Nat.reduceEqDiff, Nat.reduceAdd, Nat.reduceMul, Nat.reduceLeDiff, Nat.reduceLT, Nat.reduceBEq, Nat.reduceSub, Int.reduceToNat, Int.reduceNeg]
      exact lent_z [] (by simp (config := { maxSteps := 1000000 }) (disch := first | exact chk_rfl | (unfold Chk; decide +kernel) | omega | (simp only [cells_agg, List.length_cons, List.length_nil, List.length_map, List.length_take, List.length_append, Nat.zero_add, Nat.reduceAdd]; first | done | omega) | fail) only [push_cast, ↓reduceIte, Nat.reduceEqDiff, Nat.reduceAdd, Nat.reduceMul, Nat.reduceLeDiff, Nat.reduceLT, Nat.reduceBEq, Nat.reduceSub, Int.reduceToNat, Int.reduceNeg])

def kept (l : List (List UInt8)) : List (List UInt8) := l.filter fun s => !empt s
theorem firstE_spec : ∀ (l : List (List UInt8)) (m : Nat), (firstE l m = -1 ∧ kept l = l) ∨ ∃ k, firstE l m = ((m + k : Nat) : Int) ∧ k < l.length ∧ kept (l.take (k + 1)) = l.take k
  | [], m => .inl ⟨rfl, rfl⟩
  | x :: r, m => by
    cases hx : empt x with
    | true => exact .inr ⟨0, by rw [firstE, hx, if_pos rfl]; rfl, by simp, by simp [kept, hx]⟩
    | false =>
      have h1 : firstE (x :: r) m = firstE r (m + 1) := by rw [firstE, hx, if_neg (by simp)]
      rcases firstE_spec r (m + 1) with ⟨h2, h3⟩ | ⟨k, h2, h3, h4⟩
      · exact .inl ⟨by rw [h1, h2], by unfold kept at h3 ⊢; rw [List.filter_cons_of_pos (by simp [hx]), h3]⟩
      · refine .inr ⟨k + 1, by rw [h1, h2]; congr 1; omega, by simpa using h3, ?_⟩
        unfold kept at h4 ⊢
        rw [List.take_succ_cons, List.filter_cons_of_pos (by simp [hx]), h4, List.take_succ_cons]
theorem kept_snoc {l : List (List UInt8)} {j : Nat} {x : List UInt8} (h : l[j]? = some x) : kept (l.take (j + 1)) = kept (l.take j) ++ if empt x = true then [] else [x] := by
  rw [take_snoc h, kept, List.filter_append]
  cases hx : empt x <;> simp [kept, hx]

set_option maxHeartbeats 4000000 in
theorem delete61 (l : List (List UInt8)) (hl : l.length ≤ 1000) : Lent Tryd.prog tabG 1 61 [.row 0 1 0 l.length, .pv (.clo 62 [] [])] [.cells 9 true ((l.map PV.str).map .pv)] (.row 0 1 0 (kept l).length)
    [.cells 9 true (((kept l ++ List.replicate (l.length - (kept l).length) []).map PV.str).map .pv)] := by
  refine Lent.intro F61_ok (by simp [F61]) ?_
  have h89 := index89 l hl
  rcases firstE_spec l 0 with ⟨h1, h2⟩ | ⟨k, h1, h2, h3⟩
  · rw [h1] at h89
    simp (config := { maxSteps := 1000000 }) (disch := first | exact chk_rfl | (unfold Chk; decide +kernel) | omega | (simp only [cells_agg, List.length_cons, List.length_nil, List.length_map, List.length_take, List.length_append, Nat.zero_add, Nat.reduceAdd]; first | done | omega) | fail) only [F61o0, F61o1, F61o2, F61o3, F61o4, F61o5, F61o6, F61o7, F61o8, F61o9, F61o10, F61b11, F61o12, F61o13, F61c, F61, push_cast, ↓reduceIte, Nat.reduceEqDiff, Nat.reduceAdd, Nat.reduceMul, Nat.reduceLeDiff, Nat.reduceLT, Nat.reduceBEq, Nat.reduceSub, Int.reduceToNat, Int.reduceNeg]
    refine ACall.lentK h89 [0] rfl (by simp (config := { maxSteps := 1000000 }) (disch := first | exact chk_rfl | (unfold Chk; decide +kernel) | omega | (simp only [cells_agg, List.length_cons, List.length_nil, List.length_map, List.length_take, List.length_append, Nat.zero_add, Nat.reduceAdd]; first | done | omega) | fail) only [push_cast, ↓reduceIte, Nat.reduceEqDiff, Nat.reduceAdd, Nat.reduceMul, Nat.reduceLeDiff, Nat.reduceLT, Nat.reduceBEq, Nat.reduceSub, Int.reduceToNat, Int.reduceNeg]) (by simp (config := { maxSteps := 1000000 }) (disch := first | exact chk_rfl | (unfold Chk; decide +kernel) | omega | (simp only [cells_agg, List.length_cons, List.length_nil, List.length_map, List.length_take, List.length_append, Nat.zero_add, Nat.reduceAdd]; first | done | omega) | fail) only [push_cast, ↓reduceIte, Nat.reduceEqDiff, Nat.reduceAdd, Nat.reduceMul, Nat.reduceLeDiff, Nat.reduceLT, Nat.reduceBEq, Nat.reduceSub, Int.reduceToNat, Int.reduceNeg]) ?_
    simp (config := { maxSteps := 1000000 }) (disch := first | exact chk_rfl | (unfold Chk; decide +kernel) | omega | (simp only [cells_agg, List.length_cons, List.length_nil, List.length_map, List.length_take, List.length_append, Nat.zero_add, Nat.reduceAdd]; first | done | omega) | fail) only [push_cast, ↓reduceIte, Nat.reduceEqDiff, Nat.reduceAdd, Nat.reduceMul, Nat.reduceLeDiff, Nat.reduceLT, Nat.reduceBEq, Nat.reduceSub, Int.reduceToNat, Int.reduceNeg]
    exact lent_z [] (by simp (config := { maxSteps := 1000000 }) (disch := first | exact chk_rfl | (unfold Chk; decide +kernel) | omega | (simp only [cells_agg, List.length_cons, List.length_nil, List.length_map, List.length_take, List.length_append, Nat.zero_add, Nat.reduceAdd]; first | done | omega) | fail) only [h2, Nat.sub_self, List.replicate_zero, push_cast, ↓reduceIte, Nat.reduceEqDiff, Nat.reduceAdd, Nat.reduceMul, Nat.reduceLeDiff, Nat.reduceLT, Nat.reduceBEq, Nat.reduceSub, Int.reduceToNat, Int.reduceNeg])
  · rw [h1, Nat.zero_add] at h89
    simp (config := { maxSteps := 1000000 }) (disch := first | exact chk_rfl | (unfold Chk; decide +kernel) | omega | (simp only [cells_agg, List.length_cons, List.length_nil, List.length_map, List.length_take, List.length_append, Nat.zero_add, Nat.reduceAdd]; first | done | omega) | fail) only [F61o0, F61o1, F61o2, F61o3, F61o4, F61o5, F61o6, F61o7, F61o8, F61o9, F61o10, F61b11, F61o12, F61o13, F61c, F61, push_cast, ↓reduceIte, Nat.reduceEqDiff, Nat.reduceAdd, Nat.reduceMul, Nat.reduceLeDiff, Nat.reduceLT, Nat.reduceBEq, Nat.reduceSub, Int.reduceToNat, Int.reduceNeg]
    refine ACall.lentK h89 [0] rfl (by simp (config := { maxSteps := 1000000 }) (disch := first | exact chk_rfl | (unfold Chk; decide +kernel) | omega | (simp only [cells_agg, List.length_cons, List.length_nil, List.length_map, List.length_take, List.length_append, Nat.zero_add, Nat.reduceAdd]; first | done | omega) | fail) only [push_cast, ↓reduceIte, Nat.reduceEqDiff, Nat.reduceAdd, Nat.reduceMul, Nat.reduceLeDiff, Nat.reduceLT, Nat.reduceBEq, Nat.reduceSub, Int.reduceToNat, Int.reduceNeg]) (by simp (config := { maxSteps := 1000000 }) (disch := first | exact chk_rfl | (unfold Chk; decide +kernel) | omega | (simp only [cells_agg, List.length_cons, List.length_nil, List.length_map, List.length_take, List.length_append, Nat.zero_add, Nat.reduceAdd]; first | done | omega) | fail) only [push_cast, ↓reduceIte, Nat.reduceEqDiff, Nat.reduceAdd, Nat.reduceMul, Nat.reduceLeDiff, Nat.reduceLT, Nat.reduceBEq, Nat.reduceSub, Int.reduceToNat, Int.reduceNeg]) ?_
    have hk1 : ¬ (k : Int) = -1 := by omega
    simp (config := { maxSteps := 1000000 }) (disch := first | exact chk_rfl | (unfold Chk; decide +kernel) | omega | (simp only [cells_agg, List.length_cons, List.length_nil, List.length_map, List.length_take, List.length_append, Nat.zero_add, Nat.reduceAdd]; first | done | omega) | fail) only [hk1, push_cast, ↓reduceIte, Nat.reduceEqDiff, Nat.reduceAdd, Nat.reduceMul, Nat.reduceLeDiff, Nat.reduceLT, Nat.reduceBEq, Nat.reduceSub, Int.reduceToNat, Int.reduceNeg]
    refine vc_over ([]) (fun x : Nat × Nat × List (List UInt8) => [(5, .pv (.int .i64 (x.1 : Int))), (6, .pv (.int .i64 (x.2.1 : Int)))]) (fun x => [(0, .cells 9 true ((x.2.2.map PV.str).map .pv))]) (fun x => x.2.1 ≤ l.length ∧ x.1 < x.2.1 ∧ x.2.2.length = l.length ∧ x.2.2.take x.1 = kept (l.take x.2.1) ∧ (kept (l.take x.2.1)).length = x.1 ∧ x.2.2.drop x.2.1 = l.drop x.2.1) (fun x => l.length - x.2.1) ((k, k + 1, l)) ?_; intro e0 σ0 n0 h0; simp (config := { maxSteps := 1000000 }) (disch := first | exact chk_rfl | (unfold Chk; decide +kernel) | omega | (simp only [cells_agg, List.length_cons, List.length_nil, List.length_map, List.length_take, List.length_append, Nat.zero_add, Nat.reduceAdd]; first | done | omega) | fail) only [push_cast, ↓reduceIte, Nat.reduceEqDiff, Nat.reduceAdd, Nat.reduceMul, Nat.reduceLeDiff, Nat.reduceLT, Nat.reduceBEq, Nat.reduceSub, Int.reduceToNat, Int.reduceNeg] at h0; obtain ⟨rfl, rfl, rfl⟩ := h0; refine ⟨?_, ?_, ?_⟩
    · simp (config := { maxSteps := 1000000 }) (disch := first | exact chk_rfl | (unfold Chk; decide +kernel) | omega | (simp only [cells_agg, List.length_cons, List.length_nil, List.length_map, List.length_take, List.length_append, Nat.zero_add, Nat.reduceAdd]; first | done | omega) | fail) only [push_cast, ↓reduceIte, Nat.reduceEqDiff, Nat.reduceAdd, Nat.reduceMul, Nat.reduceLeDiff, Nat.reduceLT, Nat.reduceBEq, Nat.reduceSub, Int.reduceToNat, Int.reduceNeg]
    · exact ⟨by simp only; omega, by simp only; omega, rfl, h3.symm, by rw [h3, List.length_take]; simp only; omega, rfl⟩
    · rintro ⟨i, j, d⟩ ⟨hj, hij, hd, ht, hlen, hdr⟩
      simp only at hj hij hd ht hlen hdr
      by_cases hlt : j < l.length
      · have hltI : (j : Int) < l.length := by omega
        obtain ⟨x, hx⟩ : ∃ x, l[j]? = some x := ⟨_, List.getElem?_eq_getElem hlt⟩
        have hxd : d[j]? = some x := by
          have : (d.drop j)[0]? = (l.drop j)[0]? := by rw [hdr]
          simpa [hx] using this
        have hks := kept_snoc hx
        simp (config := { maxSteps := 1000000 }) (disch := first | exact chk_rfl | (unfold Chk; decide +kernel) | omega | (simp only [cells_agg, List.length_cons, List.length_nil, List.length_map, List.length_take, List.length_append, Nat.zero_add, Nat.reduceAdd]; first | done | omega) | fail) only [hxd, Nat.mul_one, push_cast, ↓reduceIte, Nat.reduceEqDiff, Nat.reduceAdd, Nat.reduceMul, Nat.reduceLeDiff, Nat.reduceLT, Nat.reduceBEq, Nat.reduceSub, Int.reduceToNat, Int.reduceNeg]
        refine ACall.pure (empty62 x) rfl ?_
        cases hex : empt x with
        | true =>
          rw [hex, if_pos rfl, List.append_nil] at hks
          simp (config := { maxSteps := 1000000 }) (disch := first | exact chk_rfl | (unfold Chk; decide +kernel) | omega | (simp only [cells_agg, List.length_cons, List.length_nil, List.length_map, List.length_take, List.length_append, Nat.zero_add, Nat.reduceAdd]; first | done | omega) | fail) only [push_cast, ↓reduceIte, Nat.reduceEqDiff, Nat.reduceAdd, Nat.reduceMul, Nat.reduceLeDiff, Nat.reduceLT, Nat.reduceBEq, Nat.reduceSub, Int.reduceToNat, Int.reduceNeg]
          exact ⟨(i, j + 1, d), hd_z (by simp (config := { maxSteps := 1000000 }) (disch := first | exact chk_rfl | (unfold Chk; decide +kernel) | omega | (simp only [cells_agg, List.length_cons, List.length_nil, List.length_map, List.length_take, List.length_append, Nat.zero_add, Nat.reduceAdd]; first | done | omega) | fail) only [push_cast, ↓reduceIte, Nat.reduceEqDiff, Nat.reduceAdd, Nat.reduceMul, Nat.reduceLeDiff, Nat.reduceLT, Nat.reduceBEq, Nat.reduceSub, Int.reduceToNat, Int.reduceNeg]), ⟨by simp only; omega, by simp only; omega, hd, by rw [hks]; exact ht, by rw [hks]; exact hlen, by simp only; rw [← List.drop_drop, hdr, List.drop_drop]⟩, by simp only; omega⟩
        | false =>
          rw [hex, if_neg (by simp)] at hks
          have hfold : List.map AV.pv (List.map PV.str (List.take i d)) ++ AV.pv (PV.str x) :: List.map AV.pv (List.map PV.str (List.drop (i + 1) d)) = List.map AV.pv (List.map PV.str (d.take i ++ x :: d.drop (i + 1))) := by simp
          simp (config := { maxSteps := 1000000 }) (disch := first | exact chk_rfl | (unfold Chk; decide +kernel) | omega | (simp only [cells_agg, List.length_cons, List.length_nil, List.length_map, List.length_take, List.length_append, Nat.zero_add, Nat.reduceAdd]; first | done | omega) | fail) only [Nat.mul_one, hfold, push_cast, ↓reduceIte, Nat.reduceEqDiff, Nat.reduceAdd, Nat.reduceMul, Nat.reduceLeDiff, Nat.reduceLT, Nat.reduceBEq, Nat.reduceSub, Int.reduceToNat, Int.reduceNeg]
          have hti : (d.take i).length = i := by rw [List.length_take]; omega
          have hdj : d.drop (j + 1) = l.drop (j + 1) := by rw [← List.drop_drop, hdr, List.drop_drop]
          have htk : (d.take i ++ x :: d.drop (i + 1)).take (i + 1) = d.take i ++ [x] := by
            rw [List.take_append, hti, List.take_of_length_le (by omega), show i + 1 - i = 1 by omega]; rfl
          have hdk : (d.take i ++ x :: d.drop (i + 1)).drop (j + 1) = l.drop (j + 1) := by
            rw [List.drop_append, hti, List.drop_eq_nil_of_le (by omega), show j + 1 - i = (j - i) + 1 by omega, List.drop_succ_cons, List.drop_drop, List.nil_append, show i + 1 + (j - i) = j + 1 by omega, hdj]
          refine ⟨(i + 1, j + 1, d.take i ++ x :: d.drop (i + 1)), hd_z (by simp (config := { maxSteps := 1000000 }) (disch := first | exact chk_rfl | (unfold Chk; decide +kernel) | omega | (simp only [cells_agg, List.length_cons, List.length_nil, List.length_map, List.length_take, List.length_append, Nat.zero_add, Nat.reduceAdd]; first | done | omega) | fail) only [push_cast, ↓reduceIte, Nat.reduceEqDiff, Nat.reduceAdd, Nat.reduceMul, Nat.reduceLeDiff, Nat.reduceLT, Nat.reduceBEq, Nat.reduceSub, Int.reduceToNat, Int.reduceNeg]), ⟨by simp only; omega, by simp only; omega, by simp only [List.length_append, hti, List.length_cons, List.length_drop]; omega, by simp only; rw [htk, hks, ht], by simp only; rw [hks, List.length_append, hlen]; rfl, hdk⟩, by simp only; omega⟩
      · have hltI : ¬ (j : Int) < l.length := by omega
        obtain rfl : j = l.length := by omega
        rw [List.take_length] at ht hlen
        have hfin : List.take i (List.map AV.pv (List.map PV.str d)) = List.map AV.pv (List.map PV.str (kept l)) := by rw [← List.map_take, ← List.map_take, ht]
        by_cases hi : i = 0
        · subst hi
          have hcl : clearB 1 [PV.str []] 0 1 0 l.length (Blk.cells 9 true (List.map AV.pv (List.map PV.str d))) = some [(0, Blk.cells 9 true (List.map AV.pv (List.map PV.str (List.replicate l.length []))))] := by
            rw [clearB_one (by omega) (by simp; omega) rfl]; simp
          have hk0 : kept l = [] := List.eq_nil_of_length_eq_zero hlen
          simp (config := { maxSteps := 1000000 }) (disch := first | exact chk_rfl | (unfold Chk; decide +kernel) | omega | (simp only [cells_agg, List.length_cons, List.length_nil, List.length_map, List.length_take, List.length_append, Nat.zero_add, Nat.reduceAdd]; first | done | omega) | fail) only [rSliceL_row0, hcl, rSliceL_rowhi, push_cast, ↓reduceIte, Nat.reduceEqDiff, Nat.reduceAdd, Nat.reduceMul, Nat.reduceLeDiff, Nat.reduceLT, Nat.reduceBEq, Nat.reduceSub, Int.reduceToNat, Int.reduceNeg]
          exact lent_z [] (by simp (config := { maxSteps := 1000000 }) (disch := first | exact chk_rfl | (unfold Chk; decide +kernel) | omega | (simp only [cells_agg, List.length_cons, List.length_nil, List.length_map, List.length_take, List.length_append, Nat.zero_add, Nat.reduceAdd]; first | done | omega) | fail) only [hk0, Nat.sub_zero, push_cast, ↓reduceIte, Nat.reduceEqDiff, Nat.reduceAdd, Nat.reduceMul, Nat.reduceLeDiff, Nat.reduceLT, Nat.reduceBEq, Nat.reduceSub, Int.reduceToNat, Int.reduceNeg])
        · have hcl : clearB 1 [PV.str []] 0 1 i (l.length - i) (Blk.cells 9 true (List.map AV.pv (List.map PV.str d))) = some [(0, Blk.cells 9 true (List.map AV.pv (List.map PV.str (kept l ++ List.replicate (l.length - i) []))))] := by
            rw [clearB_one (by omega) (by simp; omega) rfl, hfin]; simp
          simp (config := { maxSteps := 1000000 }) (disch := first | exact chk_rfl | (unfold Chk; decide +kernel) | omega | (simp only [cells_agg, List.length_cons, List.length_nil, List.length_map, List.length_take, List.length_append, Nat.zero_add, Nat.reduceAdd]; first | done | omega) | fail) only [rSliceL_rowlo, Nat.mul_one, hcl, hfin, push_cast, ↓reduceIte, Nat.reduceEqDiff, Nat.reduceAdd, Nat.reduceMul, Nat.reduceLeDiff, Nat.reduceLT, Nat.reduceBEq, Nat.reduceSub, Int.reduceToNat, Int.reduceNeg]
          exact lent_z [] (by simp (config := { maxSteps := 1000000 }) (disch := first | exact chk_rfl | (unfold Chk; decide +kernel) | omega | (simp only [cells_agg, List.length_cons, List.length_nil, List.length_map, List.length_take, List.length_append, Nat.zero_add, Nat.reduceAdd]; first | done | omega) | fail) only [hlen, push_cast, ↓reduceIte, Nat.reduceEqDiff, Nat.reduceAdd, Nat.reduceMul, Nat.reduceLeDiff, Nat.reduceLT, Nat.reduceBEq, Nat.reduceSub, Int.reduceToNat, Int.reduceNeg])
end Go.Proofs.YtfbakipopjoghaaDoor
