/- A part of the proof for ResolveTextsCardSaid. -/
import Derived.Test.YtfbakipopjoghaaDoorTextXT3
import Derived.Test.YtfbakipopjoghaaDoorTextXD
set_option maxRecDepth 100000
set_option linter.unusedVariables false
set_option linter.unusedSimpArgs false
namespace Go.Proofs.YtfbakipopjoghaaDoor
open Go Go.Ab

/-! ### decimal numerals -/
theorem digit_cut (d : Nat) (h : d < 10) : (List.take (d + 1) [48, 49, 50, 51, 52, 53, 54, 55, 56, 57]).drop d = [UInt8.ofNat (48 + d)] := by
  have : ∀ d : Fin 10, (List.take (d.val + 1) [48, 49, 50, 51, 52, 53, 54, 55, 56, 57]).drop d.val = [UInt8.ofNat (48 + d.val)] := by decide
  exact this ⟨d, h⟩
theorem digit_cut' (d : Nat) (h : d < 10) : List.drop d (48 :: List.take d [49, 50, 51, 52, 53, 54, 55, 56, 57]) = [UInt8.ofNat (48 + d)] := digit_cut d h
theorem itoaT_nat (k : Nat) (h : (k : Int) ≤ 9223372036854775807) : itoaT k = Lib.decDigits k := by
  rw [itoaT_eq (by omega) h, Lib.itoa, if_neg (by omega), Int.toNat_natCast]
theorem itoaT_neg (k : Nat) (h0 : 0 < k) (h : (k : Int) ≤ 9223372036854775808) : itoaT (-(k : Int)) = 45 :: Lib.decDigits k := by
  rw [itoaT_eq (by omega) (by omega), Lib.itoa, if_pos (by omega), Int.natAbs_neg, Int.natAbs_natCast]
theorem dec_small {k : Nat} (h : k < 10) : Lib.decDigits k = [UInt8.ofNat (48 + k)] := by rw [Lib.decDigits, dif_pos h]
theorem dec_big {k : Nat} (h : ¬ k < 10) : Lib.decDigits k = Lib.decDigits (k / 10) ++ [UInt8.ofNat (48 + k % 10)] := by rw [Lib.decDigits, dif_neg h]

theorem decimal_nat (k : Nat) (h : (k : Int) ≤ 9223372036854775807) : Pure Tryd.prog tabG 50 [.int .i64 k] (.str (Lib.decDigits k)) := by
  induction k using Nat.strongRecOn with
  | _ k ih =>
    have hq : (k : Int).tdiv 10 = (k : Int) / 10 := by rw [Int.tdiv_eq_ediv_of_nonneg (by omega)]
    have hr : (k : Int).tmod 10 = (k : Int) % 10 := by rw [Int.tmod_eq_emod_of_nonneg (by omega)]
    have hd := digit_cut' (k % 10) (by omega)
    have h10 : k % 10 < 10 := by omega
    have hlen := itoaT_len ((k / 10 : Nat) : Int)
    rw [itoaT_nat _ (by omega)] at hlen
    refine Pure.intro F50_ok (by simp [F50]) ?_
    by_cases hk : k < 10
    · have hk' : ¬ (10 : Int) ≤ k := by omega
      have hk0 : ¬ (k : Int) < 0 := by omega
      have hm : k % 10 = k := by omega
      rw [hm] at hd
      have hr : (k : Int).tmod 10 = k := by omega
      have ht : ((k : Int) + 1).toNat = k + 1 := by omega
      simp (config := { maxSteps := 1000000 }) (disch := first | exact chk_rfl | (unfold Chk; decide +kernel) | omega | (simp only [cells_agg, List.length_cons, List.length_nil, List.length_map, List.length_take, List.length_append, Nat.zero_add, Nat.reduceAdd]; first | done | omega) | fail) only [F50o0, F50o1, F50o2, F50o3, F50o4, F50p4, F50o5, F50o6, F50o7, F50o8, F50c, F50, hq, hr, hd, ht, push_cast, ↓reduceIte, Nat.reduceEqDiff, Nat.reduceAdd, Nat.reduceMul, Nat.reduceLeDiff, Nat.reduceLT, Nat.reduceBEq, Nat.reduceSub, Int.reduceToNat, Int.reduceNeg]
      exact (dec_small hk).symm
    · have hk' : (10 : Int) ≤ k := by omega
      have hk0 : ¬ (k : Int) < 0 := by omega
      have ht : ((k : Int) % 10 + 1).toNat = k % 10 + 1 := by omega
      have ht0 : ((k : Int) % 10).toNat = k % 10 := by omega
      simp (config := { maxSteps := 1000000 }) (disch := first | exact chk_rfl | (unfold Chk; decide +kernel) | omega | (simp only [cells_agg, List.length_cons, List.length_nil, List.length_map, List.length_take, List.length_append, Nat.zero_add, Nat.reduceAdd]; first | done | omega) | fail) only [F50o0, F50o1, F50o2, F50o3, F50o4, F50p4, F50o5, F50o6, F50o7, F50o8, F50c, F50, hq, hr, hd, ht, ht0, push_cast, ↓reduceIte, Nat.reduceEqDiff, Nat.reduceAdd, Nat.reduceMul, Nat.reduceLeDiff, Nat.reduceLT, Nat.reduceBEq, Nat.reduceSub, Int.reduceToNat, Int.reduceNeg]
      refine ACall.pure (ih (k / 10) (by omega) (by omega)) rfl ?_
      simp (config := { maxSteps := 1000000 }) (disch := first | exact chk_rfl | (unfold Chk; decide +kernel) | omega | (simp only [cells_agg, List.length_cons, List.length_nil, List.length_map, List.length_take, List.length_append, Nat.zero_add, Nat.reduceAdd]; first | done | omega) | fail) only [push_cast, ↓reduceIte, Nat.reduceEqDiff, Nat.reduceAdd, Nat.reduceMul, Nat.reduceLeDiff, Nat.reduceLT, Nat.reduceBEq, Nat.reduceSub, Int.reduceToNat, Int.reduceNeg]
      exact (dec_big hk).symm

theorem decimal_ok (n : Int) (h : I64 n) : Pure Tryd.prog tabG 50 [.int .i64 n] (.str (itoaT n)) := by
  obtain ⟨h1, h2⟩ := h
  rcases Int.lt_or_le n 0 with hn | hn
  · obtain ⟨k, rfl⟩ : ∃ k : Nat, n = -(k : Int) := ⟨n.natAbs, by omega⟩
    have key : ∀ k : Nat, 0 < k → (k : Int) ≤ 9223372036854775808 → Pure Tryd.prog tabG 50 [.int .i64 (-(k : Int))] (.str (45 :: Lib.decDigits k)) := by
      intro k
      induction k using Nat.strongRecOn with
      | _ k ih =>
        intro h0 hk
        have hq : (-(k : Int)).tdiv 10 = -((k : Int) / 10) := by rw [Int.neg_tdiv, Int.tdiv_eq_ediv_of_nonneg (by omega)]
        have hr : (-(k : Int)).tmod 10 = -((k : Int) % 10) := by rw [Int.neg_tmod, Int.tmod_eq_emod_of_nonneg (by omega)]
        have hd := digit_cut' (k % 10) (by omega)
        have h10 : k % 10 < 10 := by omega
        have hneg : -(k : Int) < 0 := by omega
        have hlen := itoaT_len (-((k / 10 : Nat) : Int))
        by_cases hs : k < 10
        · have hq0 : -((k : Int) / 10) = 0 := by omega
          have hw : (0 : Int) - -(k : Int) = k := by omega
          have ht : ((k : Int) + 1).toNat = k + 1 := by omega
          have hm : k % 10 = k := by omega
          rw [hm] at hd
          refine Pure.intro F50_ok (by simp [F50]) ?_
          simp (config := { maxSteps := 1000000 }) (disch := first | exact chk_rfl | (unfold Chk; decide +kernel) | omega | (simp only [cells_agg, List.length_cons, List.length_nil, List.length_map, List.length_take, List.length_append, Nat.zero_add, Nat.reduceAdd]; first | done | omega) | fail) only [F50o0, F50o1, F50o2, F50o3, F50o4, F50p4, F50o5, F50o6, F50o7, F50o8, F50c, F50, hq, hr, hq0, hw, ht, hd, push_cast, ↓reduceIte, Nat.reduceEqDiff, Nat.reduceAdd, Nat.reduceMul, Nat.reduceLeDiff, Nat.reduceLT, Nat.reduceBEq, Nat.reduceSub, Int.reduceToNat, Int.reduceNeg]
          rw [dec_small hs]
        · have hq0 : ¬ -((k : Int) / 10) = 0 := by omega
          have hw : (0 : Int) - -((k : Int) % 10) = (k : Int) % 10 := by omega
          have ht0 : ((k : Int) % 10).toNat = k % 10 := by omega
          have ht : ((k : Int) % 10 + 1).toNat = k % 10 + 1 := by omega
          rw [itoaT_neg _ (by omega) (by omega), List.length_cons] at hlen
          refine Pure.intro F50_ok (by simp [F50]) ?_
          simp (config := { maxSteps := 1000000 }) (disch := first | exact chk_rfl | (unfold Chk; decide +kernel) | omega | (simp only [cells_agg, List.length_cons, List.length_nil, List.length_map, List.length_take, List.length_append, Nat.zero_add, Nat.reduceAdd]; first | done | omega) | fail) only [F50o0, F50o1, F50o2, F50o3, F50o4, F50p4, F50o5, F50o6, F50o7, F50o8, F50c, F50, hq, hr, hq0, hw, ht, ht0, hd, push_cast, ↓reduceIte, Nat.reduceEqDiff, Nat.reduceAdd, Nat.reduceMul, Nat.reduceLeDiff, Nat.reduceLT, Nat.reduceBEq, Nat.reduceSub, Int.reduceToNat, Int.reduceNeg]
          refine callDL_pure (ih (k / 10) (by omega) (by omega) (by omega)) rfl ?_
          simp (config := { maxSteps := 1000000 }) (disch := first | exact chk_rfl | (unfold Chk; decide +kernel) | omega | (simp only [cells_agg, List.length_cons, List.length_nil, List.length_map, List.length_take, List.length_append, Nat.zero_add, Nat.reduceAdd]; first | done | omega) | fail) only [hq, hr, hq0, hw, ht, ht0, hd, push_cast, ↓reduceIte, Nat.reduceEqDiff, Nat.reduceAdd, Nat.reduceMul, Nat.reduceLeDiff, Nat.reduceLT, Nat.reduceBEq, Nat.reduceSub, Int.reduceToNat, Int.reduceNeg]
          rw [dec_big hs]
    rw [itoaT_neg k (by omega) (by omega)]
    exact key k (by omega) (by omega)
  · obtain ⟨k, rfl⟩ : ∃ k : Nat, n = (k : Int) := ⟨n.toNat, by omega⟩
    rw [itoaT_nat k h2]
    exact decimal_nat k h2

/-! ### numbers with a separator between them -/
theorem joinT_len (sep : List UInt8) : ∀ l : List (List UInt8), (∀ x ∈ l, x.length ≤ 21) → (joinT sep l).length ≤ l.length * (21 + sep.length)
  | [], _ => by simp [joinT]
  | [x], h => by have := h x (by simp); simp [joinT]; omega
  | x :: y :: r, h => by
    have h1 := joinT_len sep (y :: r) fun z hz => h z (by simp [hz])
    have := h x (by simp)
    simp only [joinT, List.length_append, List.length_cons] at h1 ⊢
    rw [Nat.succ_mul]; omega

theorem itoas_len (l : List Int) : ∀ x ∈ l.map itoaT, x.length ≤ 21 := by
  intro x hx
  obtain ⟨n, _, rfl⟩ := List.mem_map.1 hx
  exact itoaT_len n

theorem joined_ok (l : List Int) (sep : List UInt8) (hl : l.length ≤ 1000) (hs : sep.length ≤ 10) (hok : ∀ x ∈ l, I64 x) : Pure Tryd.prog tabG 49 [.list (l.map (PV.int .i64)), .str sep] (.str (joinT sep (l.map itoaT))) := by
  refine Pure.intro F49_ok (by simp [F49]) ?_
  have hjl := joinT_len sep (l.map itoaT) (itoas_len l)
  simp (config := { maxSteps := 1000000 }) (disch := first | exact chk_rfl | (unfold Chk; decide +kernel) | omega | (simp only [cells_agg, List.length_cons, List.length_nil, List.length_map, List.length_take, List.length_append, Nat.zero_add, Nat.reduceAdd]; first | done | omega) | fail) only [F49o0, F49o1, F49o2, F49o3, F49o4, F49o5, F49o6, F49b7, F49o8, F49c, F49, push_cast, ↓reduceIte, Nat.reduceEqDiff, Nat.reduceAdd, Nat.reduceMul, Nat.reduceLeDiff, Nat.reduceLT, Nat.reduceBEq, Nat.reduceSub, Int.reduceToNat, Int.reduceNeg]
  refine vc_over ([(5, 0, 9, 1)]) (fun i : Nat => [(5, .olist 0 1 (((l.take i).map itoaT).map PV.str)), (10, .pv (.int .i64 (i : Int)))]) (fun _ => []) (fun i => i ≤ l.length) (fun i => l.length - i) (0) ?_; intro e0 σ0 n0 h0; simp (config := { maxSteps := 1000000 }) (disch := first | exact chk_rfl | (unfold Chk; decide +kernel) | omega | (simp only [cells_agg, List.length_cons, List.length_nil, List.length_map, List.length_take, List.length_append, Nat.zero_add, Nat.reduceAdd]; first | done | omega) | fail) only [push_cast, ↓reduceIte, Nat.reduceEqDiff, Nat.reduceAdd, Nat.reduceMul, Nat.reduceLeDiff, Nat.reduceLT, Nat.reduceBEq, Nat.reduceSub, Int.reduceToNat, Int.reduceNeg] at h0; obtain ⟨rfl, rfl, rfl⟩ := h0; refine ⟨?_, ?_, ?_⟩
  · simp (config := { maxSteps := 1000000 }) (disch := first | exact chk_rfl | (unfold Chk; decide +kernel) | omega | (simp only [cells_agg, List.length_cons, List.length_nil, List.length_map, List.length_take, List.length_append, Nat.zero_add, Nat.reduceAdd]; first | done | omega) | fail) only [push_cast, ↓reduceIte, Nat.reduceEqDiff, Nat.reduceAdd, Nat.reduceMul, Nat.reduceLeDiff, Nat.reduceLT, Nat.reduceBEq, Nat.reduceSub, Int.reduceToNat, Int.reduceNeg]
  · omega
  intro i hi
  by_cases hlt : i < l.length
  · have hltI : (i : Int) < l.length := by omega
    obtain ⟨x, hx⟩ : ∃ x, l[i]? = some x := ⟨_, List.getElem?_eq_getElem hlt⟩
    obtain ⟨h1, h2⟩ := hok x (List.mem_of_getElem? hx)
    have hts := take_snoc hx
    simp (config := { maxSteps := 1000000 }) (disch := first | exact chk_rfl | (unfold Chk; decide +kernel) | omega | (simp only [cells_agg, List.length_cons, List.length_nil, List.length_map, List.length_take, List.length_append, Nat.zero_add, Nat.reduceAdd]; first | done | omega) | fail) only [hx, push_cast, ↓reduceIte, Nat.reduceEqDiff, Nat.reduceAdd, Nat.reduceMul, Nat.reduceLeDiff, Nat.reduceLT, Nat.reduceBEq, Nat.reduceSub, Int.reduceToNat, Int.reduceNeg]
    refine ACall.pure (itoa_ok x h1 h2) rfl ?_
    simp (config := { maxSteps := 1000000 }) (disch := first | exact chk_rfl | (unfold Chk; decide +kernel) | omega | (simp only [cells_agg, List.length_cons, List.length_nil, List.length_map, List.length_take, List.length_append, Nat.zero_add, Nat.reduceAdd]; first | done | omega) | fail) only [push_cast, ↓reduceIte, Nat.reduceEqDiff, Nat.reduceAdd, Nat.reduceMul, Nat.reduceLeDiff, Nat.reduceLT, Nat.reduceBEq, Nat.reduceSub, Int.reduceToNat, Int.reduceNeg]
    exact ⟨i + 1, hd_z (by simp (config := { maxSteps := 1000000 }) (disch := first | exact chk_rfl | (unfold Chk; decide +kernel) | omega | (simp only [cells_agg, List.length_cons, List.length_nil, List.length_map, List.length_take, List.length_append, Nat.zero_add, Nat.reduceAdd]; first | done | omega) | fail) only [hts, List.map_append, push_cast, ↓reduceIte, Nat.reduceEqDiff, Nat.reduceAdd, Nat.reduceMul, Nat.reduceLeDiff, Nat.reduceLT, Nat.reduceBEq, Nat.reduceSub, Int.reduceToNat, Int.reduceNeg]), by omega, by omega⟩
  · have hltI : ¬ (i : Int) < l.length := by omega
    have he : l.take i = l := List.take_of_length_le (by omega)
    simp (config := { maxSteps := 1000000 }) (disch := first | exact chk_rfl | (unfold Chk; decide +kernel) | omega | (simp only [cells_agg, List.length_cons, List.length_nil, List.length_map, List.length_take, List.length_append, Nat.zero_add, Nat.reduceAdd]; first | done | omega) | fail) only [he, push_cast, ↓reduceIte, Nat.reduceEqDiff, Nat.reduceAdd, Nat.reduceMul, Nat.reduceLeDiff, Nat.reduceLT, Nat.reduceBEq, Nat.reduceSub, Int.reduceToNat, Int.reduceNeg]
    refine ACall.pure (join_ok (l.map itoaT) sep (by simp; omega) (Nat.le_trans hjl (by
      simp only [List.length_map]
      have : l.length * (21 + sep.length) ≤ 1000 * 31 := Nat.mul_le_mul hl (by omega)
      omega))) (by simp (config := { maxSteps := 1000000 }) (disch := first | exact chk_rfl | (unfold Chk; decide +kernel) | omega | (simp only [cells_agg, List.length_cons, List.length_nil, List.length_map, List.length_take, List.length_append, Nat.zero_add, Nat.reduceAdd]; first | done | omega) | fail) only [push_cast, ↓reduceIte, Nat.reduceEqDiff, Nat.reduceAdd, Nat.reduceMul, Nat.reduceLeDiff, Nat.reduceLT, Nat.reduceBEq, Nat.reduceSub, Int.reduceToNat, Int.reduceNeg]) ?_
    simp (config := { maxSteps := 1000000 }) (disch := first | exact chk_rfl | (unfold Chk; decide +kernel) | omega | (simp only [cells_agg, List.length_cons, List.length_nil, List.length_map, List.length_take, List.length_append, Nat.zero_add, Nat.reduceAdd]; first | done | omega) | fail) only [push_cast, ↓reduceIte, Nat.reduceEqDiff, Nat.reduceAdd, Nat.reduceMul, Nat.reduceLeDiff, Nat.reduceLT, Nat.reduceBEq, Nat.reduceSub, Int.reduceToNat, Int.reduceNeg]

def autoT (route : Int) (place : List Int) : List UInt8 := 115 :: joinT [95] ((route :: place).map itoaT)
def placeT (place : List Int) : List UInt8 := joinT [46] (place.map itoaT)

theorem autoName_ok (route : Int) (place : List Int) (hr : I64 route) (hl : place.length ≤ 900) (hok : ∀ x ∈ place, I64 x) : Pure Tryd.prog tabG 17 [.int .i64 route, .list (place.map (PV.int .i64))] (.str (autoT route place)) := by
  refine Pure.intro F17_ok (by simp [F17]) ?_
  have hj := joined_ok (route :: place) [95] (by simp; omega) (by simp) (by simp; exact ⟨hr, hok⟩)
  have hjl := joinT_len [95] ((route :: place).map itoaT) (itoas_len _)
  simp only [List.length_map, List.length_cons, List.length_nil] at hjl
  have hb : (joinT [95] ((route :: place).map itoaT)).length ≤ 30000 := by omega
  rw [List.map_cons, List.map_cons] at hj
  rw [List.map_cons] at hb
  simp (config := { maxSteps := 1000000 }) (disch := first | exact chk_rfl | (unfold Chk; decide +kernel) | omega | (simp only [cells_agg, List.length_cons, List.length_nil, List.length_map, List.length_take, List.length_append, Nat.zero_add, Nat.reduceAdd]; first | done | omega) | fail) only [F17o0, F17o1, F17c, F17, push_cast, ↓reduceIte, Nat.reduceEqDiff, Nat.reduceAdd, Nat.reduceMul, Nat.reduceLeDiff, Nat.reduceLT, Nat.reduceBEq, Nat.reduceSub, Int.reduceToNat, Int.reduceNeg]
  refine ACall.pure hj (by simp (config := { maxSteps := 1000000 }) (disch := first | exact chk_rfl | (unfold Chk; decide +kernel) | omega | (simp only [cells_agg, List.length_cons, List.length_nil, List.length_map, List.length_take, List.length_append, Nat.zero_add, Nat.reduceAdd]; first | done | omega) | fail) only [push_cast, ↓reduceIte, Nat.reduceEqDiff, Nat.reduceAdd, Nat.reduceMul, Nat.reduceLeDiff, Nat.reduceLT, Nat.reduceBEq, Nat.reduceSub, Int.reduceToNat, Int.reduceNeg]) ?_
  simp (config := { maxSteps := 1000000 }) (disch := first | exact chk_rfl | (unfold Chk; decide +kernel) | omega | (simp only [cells_agg, List.length_cons, List.length_nil, List.length_map, List.length_take, List.length_append, Nat.zero_add, Nat.reduceAdd]; first | done | omega) | fail) only [push_cast, ↓reduceIte, Nat.reduceEqDiff, Nat.reduceAdd, Nat.reduceMul, Nat.reduceLeDiff, Nat.reduceLT, Nat.reduceBEq, Nat.reduceSub, Int.reduceToNat, Int.reduceNeg]
  rfl

theorem placeText_ok (place : List Int) (hl : place.length ≤ 900) (hok : ∀ x ∈ place, I64 x) : Pure Tryd.prog tabG 19 [.list (place.map (PV.int .i64))] (.str (placeT place)) := by
  refine Pure.intro F19_ok (by simp [F19]) ?_
  simp (config := { maxSteps := 1000000 }) (disch := first | exact chk_rfl | (unfold Chk; decide +kernel) | omega | (simp only [cells_agg, List.length_cons, List.length_nil, List.length_map, List.length_take, List.length_append, Nat.zero_add, Nat.reduceAdd]; first | done | omega) | fail) only [F19o0, F19o1, F19c, F19, push_cast, ↓reduceIte, Nat.reduceEqDiff, Nat.reduceAdd, Nat.reduceMul, Nat.reduceLeDiff, Nat.reduceLT, Nat.reduceBEq, Nat.reduceSub, Int.reduceToNat, Int.reduceNeg]
  refine ACall.pure (joined_ok place [46] (by omega) (by simp) hok) rfl ?_
  simp (config := { maxSteps := 1000000 }) (disch := first | exact chk_rfl | (unfold Chk; decide +kernel) | omega | (simp only [cells_agg, List.length_cons, List.length_nil, List.length_map, List.length_take, List.length_append, Nat.zero_add, Nat.reduceAdd]; first | done | omega) | fail) only [push_cast, ↓reduceIte, Nat.reduceEqDiff, Nat.reduceAdd, Nat.reduceMul, Nat.reduceLeDiff, Nat.reduceLT, Nat.reduceBEq, Nat.reduceSub, Int.reduceToNat, Int.reduceNeg]
  rfl

theorem joinT_snoc (sep : List UInt8) (y : List UInt8) : ∀ (x : List UInt8) (l : List (List UInt8)), joinT sep (x :: (l ++ [y])) = joinT sep (x :: l) ++ (sep ++ y)
  | x, [] => by simp [joinT]
  | x, z :: r => by
    have := joinT_snoc sep y z r
    simp only [List.cons_append, joinT, this, List.append_assoc]

theorem autoT_len (route : Int) (place : List Int) (hl : place.length ≤ 900) : (autoT route place).length ≤ 30000 := by
  have hjl := joinT_len [95] ((route :: place).map itoaT) (itoas_len _)
  simp only [List.length_map, List.length_cons, List.length_nil] at hjl
  simp only [autoT, List.length_cons]; omega
theorem placeT_len (place : List Int) (hl : place.length ≤ 900) : (placeT place).length ≤ 30000 := by
  have hjl := joinT_len [46] (place.map itoaT) (itoas_len _)
  simp only [List.length_map, List.length_cons, List.length_nil] at hjl
  simp only [placeT]; omega
theorem autoT_snoc (route : Int) (l : List Int) (x : Int) : autoT route (l ++ [x]) = autoT route l ++ (95 :: itoaT x) := by
  simp only [autoT, List.map_cons, List.map_append, List.map_nil, joinT_snoc, List.cons_append, List.nil_append]
theorem placeT_snoc (l : List Int) (x : Int) : placeT (l ++ [x]) = placeT l ++ ((if l.isEmpty then [] else [46]) ++ itoaT x) := by
  cases l with
  | nil => simp [placeT, joinT]
  | cons y r => simp only [placeT, List.cons_append, List.map_cons, List.map_append, List.map_nil, joinT_snoc]; simp

theorem auto_ok (route : Int) (place : List Int) (hr : I64 route) (hl : place.length ≤ 900) (hok : ∀ x ∈ place, I64 x) : Pure Tryd.prog tabG 18 [.int .i64 route, .list (place.map (PV.int .i64))] (.str (autoT route place)) := by
  refine Pure.intro F18_ok (by simp [F18]) ?_
  have hrl := itoaT_len route
  simp (config := { maxSteps := 1000000 }) (disch := first | exact chk_rfl | (unfold Chk; decide +kernel) | omega | (simp only [cells_agg, List.length_cons, List.length_nil, List.length_map, List.length_take, List.length_append, Nat.zero_add, Nat.reduceAdd]; first | done | omega) | fail) only [F18o0, F18o1, F18o2, F18o3, F18o4, F18o5, F18b6, F18o7, F18c, F18, push_cast, ↓reduceIte, Nat.reduceEqDiff, Nat.reduceAdd, Nat.reduceMul, Nat.reduceLeDiff, Nat.reduceLT, Nat.reduceBEq, Nat.reduceSub, Int.reduceToNat, Int.reduceNeg]
  refine ACall.pure (decimal_ok route hr) rfl ?_
  simp (config := { maxSteps := 1000000 }) (disch := first | exact chk_rfl | (unfold Chk; decide +kernel) | omega | (simp only [cells_agg, List.length_cons, List.length_nil, List.length_map, List.length_take, List.length_append, Nat.zero_add, Nat.reduceAdd]; first | done | omega) | fail) only [push_cast, ↓reduceIte, Nat.reduceEqDiff, Nat.reduceAdd, Nat.reduceMul, Nat.reduceLeDiff, Nat.reduceLT, Nat.reduceBEq, Nat.reduceSub, Int.reduceToNat, Int.reduceNeg]
  refine vc_over ([]) (fun i : Nat => [(5, .pv (.str (autoT route (place.take i)))), (6, .pv (.int .i64 (i : Int)))]) (fun _ => []) (fun i => i ≤ place.length) (fun i => place.length - i) (0) ?_; intro e0 σ0 n0 h0; simp (config := { maxSteps := 1000000 }) (disch := first | exact chk_rfl | (unfold Chk; decide +kernel) | omega | (simp only [cells_agg, List.length_cons, List.length_nil, List.length_map, List.length_take, List.length_append, Nat.zero_add, Nat.reduceAdd]; first | done | omega) | fail) only [push_cast, ↓reduceIte, Nat.reduceEqDiff, Nat.reduceAdd, Nat.reduceMul, Nat.reduceLeDiff, Nat.reduceLT, Nat.reduceBEq, Nat.reduceSub, Int.reduceToNat, Int.reduceNeg] at h0; obtain ⟨rfl, rfl, rfl⟩ := h0; refine ⟨?_, ?_, ?_⟩
  · simp (config := { maxSteps := 1000000 }) (disch := first | exact chk_rfl | (unfold Chk; decide +kernel) | omega | (simp only [cells_agg, List.length_cons, List.length_nil, List.length_map, List.length_take, List.length_append, Nat.zero_add, Nat.reduceAdd]; first | done | omega) | fail) only [push_cast, ↓reduceIte, Nat.reduceEqDiff, Nat.reduceAdd, Nat.reduceMul, Nat.reduceLeDiff, Nat.reduceLT, Nat.reduceBEq, Nat.reduceSub, Int.reduceToNat, Int.reduceNeg]
    rfl
  · omega
  intro i hi
  by_cases hlt : i < place.length
  · have hltI : (i : Int) < place.length := by omega
    obtain ⟨x, hx⟩ : ∃ x, place[i]? = some x := ⟨_, List.getElem?_eq_getElem hlt⟩
    have hxl := itoaT_len x
    have hal := autoT_len route (place.take i) (by simp; omega)
    have hts := take_snoc hx
    simp (config := { maxSteps := 1000000 }) (disch := first | exact chk_rfl | (unfold Chk; decide +kernel) | omega | (simp only [cells_agg, List.length_cons, List.length_nil, List.length_map, List.length_take, List.length_append, Nat.zero_add, Nat.reduceAdd]; first | done | omega) | fail) only [hx, push_cast, ↓reduceIte, Nat.reduceEqDiff, Nat.reduceAdd, Nat.reduceMul, Nat.reduceLeDiff, Nat.reduceLT, Nat.reduceBEq, Nat.reduceSub, Int.reduceToNat, Int.reduceNeg]
    refine ACall.pure (decimal_ok x (hok x (List.mem_of_getElem? hx))) rfl ?_
    simp (config := { maxSteps := 1000000 }) (disch := first | exact chk_rfl | (unfold Chk; decide +kernel) | omega | (simp only [cells_agg, List.length_cons, List.length_nil, List.length_map, List.length_take, List.length_append, Nat.zero_add, Nat.reduceAdd]; first | done | omega) | fail) only [push_cast, ↓reduceIte, Nat.reduceEqDiff, Nat.reduceAdd, Nat.reduceMul, Nat.reduceLeDiff, Nat.reduceLT, Nat.reduceBEq, Nat.reduceSub, Int.reduceToNat, Int.reduceNeg]
    exact ⟨i + 1, hd_z (by simp (config := { maxSteps := 1000000 }) (disch := first | exact chk_rfl | (unfold Chk; decide +kernel) | omega | (simp only [cells_agg, List.length_cons, List.length_nil, List.length_map, List.length_take, List.length_append, Nat.zero_add, Nat.reduceAdd]; first | done | omega) | fail) only [hts, autoT_snoc, push_cast, ↓reduceIte, Nat.reduceEqDiff, Nat.reduceAdd, Nat.reduceMul, Nat.reduceLeDiff, Nat.reduceLT, Nat.reduceBEq, Nat.reduceSub, Int.reduceToNat, Int.reduceNeg]), by omega, by omega⟩
  · have hltI : ¬ (i : Int) < place.length := by omega
    have he : place.take i = place := List.take_of_length_le (by omega)
    simp (config := { maxSteps := 1000000 }) (disch := first | exact chk_rfl | (unfold Chk; decide +kernel) | omega | (simp only [cells_agg, List.length_cons, List.length_nil, List.length_map, List.length_take, List.length_append, Nat.zero_add, Nat.reduceAdd]; first | done | omega) | fail) only [he, push_cast, ↓reduceIte, Nat.reduceEqDiff, Nat.reduceAdd, Nat.reduceMul, Nat.reduceLeDiff, Nat.reduceLT, Nat.reduceBEq, Nat.reduceSub, Int.reduceToNat, Int.reduceNeg]

theorem placeDef_ok (place : List Int) (hl : place.length ≤ 900) (hok : ∀ x ∈ place, I64 x) : Pure Tryd.prog tabG 20 [.list (place.map (PV.int .i64))] (.str (placeT place)) := by
  refine Pure.intro F20_ok (by simp [F20]) ?_
  simp (config := { maxSteps := 1000000 }) (disch := first | exact chk_rfl | (unfold Chk; decide +kernel) | omega | (simp only [cells_agg, List.length_cons, List.length_nil, List.length_map, List.length_take, List.length_append, Nat.zero_add, Nat.reduceAdd]; first | done | omega) | fail) only [F20o0, F20o1, F20o2, F20o3, F20o4, F20o5, F20o6, F20o7, F20b8, F20o9, F20c, F20, push_cast, ↓reduceIte, Nat.reduceEqDiff, Nat.reduceAdd, Nat.reduceMul, Nat.reduceLeDiff, Nat.reduceLT, Nat.reduceBEq, Nat.reduceSub, Int.reduceToNat, Int.reduceNeg]
  refine vc_over ([]) (fun i : Nat => [(3, .pv (.str (placeT (place.take i)))), (4, .pv (.int .i64 (i : Int)))]) (fun _ => []) (fun i => i ≤ place.length) (fun i => place.length - i) (0) ?_; intro e0 σ0 n0 h0; simp (config := { maxSteps := 1000000 }) (disch := first | exact chk_rfl | (unfold Chk; decide +kernel) | omega | (simp only [cells_agg, List.length_cons, List.length_nil, List.length_map, List.length_take, List.length_append, Nat.zero_add, Nat.reduceAdd]; first | done | omega) | fail) only [push_cast, ↓reduceIte, Nat.reduceEqDiff, Nat.reduceAdd, Nat.reduceMul, Nat.reduceLeDiff, Nat.reduceLT, Nat.reduceBEq, Nat.reduceSub, Int.reduceToNat, Int.reduceNeg] at h0; obtain ⟨rfl, rfl, rfl⟩ := h0; refine ⟨?_, ?_, ?_⟩
  · simp (config := { maxSteps := 1000000 }) (disch := first | exact chk_rfl | (unfold Chk; decide +kernel) | omega | (simp only [cells_agg, List.length_cons, List.length_nil, List.length_map, List.length_take, List.length_append, Nat.zero_add, Nat.reduceAdd]; first | done | omega) | fail) only [push_cast, ↓reduceIte, Nat.reduceEqDiff, Nat.reduceAdd, Nat.reduceMul, Nat.reduceLeDiff, Nat.reduceLT, Nat.reduceBEq, Nat.reduceSub, Int.reduceToNat, Int.reduceNeg]
    rfl
  · omega
  intro i hi
  by_cases hlt : i < place.length
  · have hltI : (i : Int) < place.length := by omega
    obtain ⟨x, hx⟩ : ∃ x, place[i]? = some x := ⟨_, List.getElem?_eq_getElem hlt⟩
    have hxl := itoaT_len x
    have hal := placeT_len (place.take i) (by simp; omega)
    have hts := take_snoc hx
    by_cases h0 : i = 0
    · have h0I : ¬ (0 : Int) < i := by omega
      have hp0 : placeT (place.take i) = [] := by rw [h0]; rfl
      have hp1 : (place.take i).isEmpty = true := by rw [h0]; rfl
      simp (config := { maxSteps := 1000000 }) (disch := first | exact chk_rfl | (unfold Chk; decide +kernel) | omega | (simp only [cells_agg, List.length_cons, List.length_nil, List.length_map, List.length_take, List.length_append, Nat.zero_add, Nat.reduceAdd]; first | done | omega) | fail) only [hx, hp0, push_cast, ↓reduceIte, Nat.reduceEqDiff, Nat.reduceAdd, Nat.reduceMul, Nat.reduceLeDiff, Nat.reduceLT, Nat.reduceBEq, Nat.reduceSub, Int.reduceToNat, Int.reduceNeg]
      refine ACall.pure (decimal_ok x (hok x (List.mem_of_getElem? hx))) rfl ?_
      simp (config := { maxSteps := 1000000 }) (disch := first | exact chk_rfl | (unfold Chk; decide +kernel) | omega | (simp only [cells_agg, List.length_cons, List.length_nil, List.length_map, List.length_take, List.length_append, Nat.zero_add, Nat.reduceAdd]; first | done | omega) | fail) only [push_cast, ↓reduceIte, Nat.reduceEqDiff, Nat.reduceAdd, Nat.reduceMul, Nat.reduceLeDiff, Nat.reduceLT, Nat.reduceBEq, Nat.reduceSub, Int.reduceToNat, Int.reduceNeg]
      exact ⟨i + 1, hd_z (by simp (config := { maxSteps := 1000000 }) (disch := first | exact chk_rfl | (unfold Chk; decide +kernel) | omega | (simp only [cells_agg, List.length_cons, List.length_nil, List.length_map, List.length_take, List.length_append, Nat.zero_add, Nat.reduceAdd]; first | done | omega) | fail) only [hts, hp0, hp1, placeT_snoc, push_cast, ↓reduceIte, Nat.reduceEqDiff, Nat.reduceAdd, Nat.reduceMul, Nat.reduceLeDiff, Nat.reduceLT, Nat.reduceBEq, Nat.reduceSub, Int.reduceToNat, Int.reduceNeg]), by omega, by omega⟩
    · have h0I : (0 : Int) < i := by omega
      have hne : (place.take i).isEmpty = false := by
        cases hp : place.take i with
        | nil => have := congrArg List.length hp; rw [List.length_take, List.length_nil] at this; omega
        | cons _ _ => rfl
      simp (config := { maxSteps := 1000000 }) (disch := first | exact chk_rfl | (unfold Chk; decide +kernel) | omega | (simp only [cells_agg, List.length_cons, List.length_nil, List.length_map, List.length_take, List.length_append, Nat.zero_add, Nat.reduceAdd]; first | done | omega) | fail) only [hx, push_cast, ↓reduceIte, Nat.reduceEqDiff, Nat.reduceAdd, Nat.reduceMul, Nat.reduceLeDiff, Nat.reduceLT, Nat.reduceBEq, Nat.reduceSub, Int.reduceToNat, Int.reduceNeg]
      refine ACall.pure (decimal_ok x (hok x (List.mem_of_getElem? hx))) rfl ?_
      simp (config := { maxSteps := 1000000 }) (disch := first | exact chk_rfl | (unfold Chk; decide +kernel) | omega | (simp only [cells_agg, List.length_cons, List.length_nil, List.length_map, List.length_take, List.length_append, Nat.zero_add, Nat.reduceAdd]; first | done | omega) | fail) only [push_cast, ↓reduceIte, Nat.reduceEqDiff, Nat.reduceAdd, Nat.reduceMul, Nat.reduceLeDiff, Nat.reduceLT, Nat.reduceBEq, Nat.reduceSub, Int.reduceToNat, Int.reduceNeg]
      exact ⟨i + 1, hd_z (by simp (config := { maxSteps := 1000000 }) (disch := first | exact chk_rfl | (unfold Chk; decide +kernel) | omega | (simp only [cells_agg, List.length_cons, List.length_nil, List.length_map, List.length_take, List.length_append, Nat.zero_add, Nat.reduceAdd]; first | done | omega) | fail) only [hts, placeT_snoc, hne, push_cast, ↓reduceIte, Nat.reduceEqDiff, Nat.reduceAdd, Nat.reduceMul, Nat.reduceLeDiff, Nat.reduceLT, Nat.reduceBEq, Nat.reduceSub, Int.reduceToNat, Int.reduceNeg]; simp), by omega, by omega⟩
  · have hltI : ¬ (i : Int) < place.length := by omega
    have he : place.take i = place := List.take_of_length_le (by omega)
    simp (config := { maxSteps := 1000000 }) (disch := first | exact chk_rfl | (unfold Chk; decide +kernel) | omega | (simp only [cells_agg, List.length_cons, List.length_nil, List.length_map, List.length_take, List.length_append, Nat.zero_add, Nat.reduceAdd]; first | done | omega) | fail) only [he, push_cast, ↓reduceIte, Nat.reduceEqDiff, Nat.reduceAdd, Nat.reduceMul, Nat.reduceLeDiff, Nat.reduceLT, Nat.reduceBEq, Nat.reduceSub, Int.reduceToNat, Int.reduceNeg]

/-- The law. -/
theorem automatic_law (route : Int) (place : List Int) (hr : I64 route) (hm : place.length ≤ maxLen) (hok : ∀ x ∈ place, I64 x) : Pure Tryd.prog tabG 4 [.int .i64 route, .list (place.map (PV.int .i64))] (.bool true) := by
  refine Pure.intro F4_ok (by simp [F4]) ?_
  have hok' : ∀ x ∈ place.take 20, I64 x := fun x hx => hok x (List.mem_of_mem_take hx)
  have hl : (place.take 20).length ≤ 900 := by simp; omega
  simp (config := { maxSteps := 1000000 }) (disch := first | exact chk_rfl | (unfold Chk; decide +kernel) | omega | (simp only [cells_agg, List.length_cons, List.length_nil, List.length_map, List.length_take, List.length_append, Nat.zero_add, Nat.reduceAdd]; first | done | omega) | fail) only [F4o0, F4o1, F4o2, F4c, F4, push_cast, ↓reduceIte, Nat.reduceEqDiff, Nat.reduceAdd, Nat.reduceMul, Nat.reduceLeDiff, Nat.reduceLT, Nat.reduceBEq, Nat.reduceSub, Int.reduceToNat, Int.reduceNeg]
  refine ACall.pure known_ok rfl ?_
  simp (config := { maxSteps := 1000000 }) (disch := first | exact chk_rfl | (unfold Chk; decide +kernel) | omega | (simp only [cells_agg, List.length_cons, List.length_nil, List.length_map, List.length_take, List.length_append, Nat.zero_add, Nat.reduceAdd]; first | done | omega) | fail) only [push_cast, ↓reduceIte, Nat.reduceEqDiff, Nat.reduceAdd, Nat.reduceMul, Nat.reduceLeDiff, Nat.reduceLT, Nat.reduceBEq, Nat.reduceSub, Int.reduceToNat, Int.reduceNeg]
  refine ACall.pure (autoName_ok route (place.take 20) hr hl hok') rfl ?_
  simp (config := { maxSteps := 1000000 }) (disch := first | exact chk_rfl | (unfold Chk; decide +kernel) | omega | (simp only [cells_agg, List.length_cons, List.length_nil, List.length_map, List.length_take, List.length_append, Nat.zero_add, Nat.reduceAdd]; first | done | omega) | fail) only [push_cast, ↓reduceIte, Nat.reduceEqDiff, Nat.reduceAdd, Nat.reduceMul, Nat.reduceLeDiff, Nat.reduceLT, Nat.reduceBEq, Nat.reduceSub, Int.reduceToNat, Int.reduceNeg]
  refine ACall.pure (auto_ok route (place.take 20) hr hl hok') rfl ?_
  simp (config := { maxSteps := 1000000 }) (disch := first | exact chk_rfl | (unfold Chk; decide +kernel) | omega | (simp only [cells_agg, List.length_cons, List.length_nil, List.length_map, List.length_take, List.length_append, Nat.zero_add, Nat.reduceAdd]; first | done | omega) | fail) only [push_cast, ↓reduceIte, Nat.reduceEqDiff, Nat.reduceAdd, Nat.reduceMul, Nat.reduceLeDiff, Nat.reduceLT, Nat.reduceBEq, Nat.reduceSub, Int.reduceToNat, Int.reduceNeg]
  refine ACall.pure (placeText_ok (place.take 20) hl hok') rfl ?_
  simp (config := { maxSteps := 1000000 }) (disch := first | exact chk_rfl | (unfold Chk; decide +kernel) | omega | (simp only [cells_agg, List.length_cons, List.length_nil, List.length_map, List.length_take, List.length_append, Nat.zero_add, Nat.reduceAdd]; first | done | omega) | fail) only [push_cast, ↓reduceIte, Nat.reduceEqDiff, Nat.reduceAdd, Nat.reduceMul, Nat.reduceLeDiff, Nat.reduceLT, Nat.reduceBEq, Nat.reduceSub, Int.reduceToNat, Int.reduceNeg]
  refine ACall.pure (placeDef_ok (place.take 20) hl hok') rfl ?_
  simp (config := { maxSteps := 1000000 }) (disch := first | exact chk_rfl | (unfold Chk; decide +kernel) | omega | (simp only [cells_agg, List.length_cons, List.length_nil, List.length_map, List.length_take, List.length_append, Nat.zero_add, Nat.reduceAdd]; first | done | omega) | fail) only [push_cast, ↓reduceIte, Nat.reduceEqDiff, Nat.reduceAdd, Nat.reduceMul, Nat.reduceLeDiff, Nat.reduceLT, Nat.reduceBEq, Nat.reduceSub, Int.reduceToNat, Int.reduceNeg]

theorem automatic_of (p0 p1 : PV) (h0 : HasT Tryd.prog 3 p0) (h1 : HasT Tryd.prog 35 p1) : Pure Tryd.prog tabG 4 [p0, p1] (.bool true) := by
  obtain ⟨n, rfl, hn⟩ := hasT_i64 h0 Tryd.underlying3
  obtain ⟨l, rfl, hl, hx⟩ := list_all (f := PV.int .i64) (Q := I64) h1 Tryd.underlying35 byt_3 (fun x hx => hasT_i64 hx Tryd.underlying3)
  exact automatic_law n l hn (by unfold maxLen; omega) hx
end Go.Proofs.YtfbakipopjoghaaDoor
