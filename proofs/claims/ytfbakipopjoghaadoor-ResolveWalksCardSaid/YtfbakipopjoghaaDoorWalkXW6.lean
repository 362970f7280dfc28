/- A part of the proof for ResolveWalksCardSaid. -/
import Derived.Test.YtfbakipopjoghaaDoorWalkXW5
set_option maxRecDepth 100000
set_option linter.unusedVariables false
set_option linter.unusedSimpArgs false
namespace Go.Proofs.YtfbakipopjoghaaDoor
open Go Go.Ab

/-- The step at a place of a list. -/
def atS : List Int → List Stp → Option Stp
  | [], _ => none
  | [i], l => if 0 ≤ i then l[i.toNat]? else none
  | i :: b :: r, l => if 0 ≤ i then (match l[i.toNat]? with
    | some s => if 0 ≤ b then (match s.branches[b.toNat]? with
      | some x => atS r x.steps
      | none => none) else none
    | none => none) else none
def atP (p : Prg) (route : Int) (place : List Int) : Option Stp :=
  if 0 ≤ route ∧ place.length % 2 = 1 then (match p.routes[route.toNat]? with
    | some r => atS place r.steps
    | none => none) else none
def zeroS : Stp := .mk [] 0 0 0 0 [] [] [] [] [] []
def atR : Option Stp → PV
  | some s => .tup [s.pv, .int .i64 0]
  | none => .tup [zeroS.pv, .int .i64 8]
theorem atR_none : atR none = .tup [.agg [.str [], .int .i64 0, .int .i64 0, .int .i64 0, .int .i64 0, .str [], .str [], .list [], .list [], .list [], .list []], .int .i64 8] := by
  rw [atR, zeroS, Stp.pv_mk]; rfl
theorem atS_neg {a : Int} {r : List Int} {l : List Stp} (h : a < 0) : atS (a :: r) l = none := by
  cases r with
  | nil => simp only [atS]; rw [if_neg (by omega)]
  | cons b r => simp only [atS]; rw [if_neg (by omega)]
theorem atS_far {a : Int} {r : List Int} {l : List Stp} (h : (l.length : Int) ≤ a) : atS (a :: r) l = none := by
  have h1 : l[a.toNat]? = none := List.getElem?_eq_none (by omega)
  cases r with
  | nil => simp only [atS, h1]; split <;> rfl
  | cons b r => simp only [atS, h1]; split <;> rfl
theorem atS_one {k : Nat} {l : List Stp} : atS [(k : Int)] l = l[k]? := by
  simp only [atS]; rw [if_pos (by omega)]; rfl
theorem atS_two {k : Nat} {b : Int} {r : List Int} {l : List Stp} {s : Stp} (h : l[k]? = some s) : atS ((k : Int) :: b :: r) l = if 0 ≤ b then (match s.branches[b.toNat]? with
      | some x => atS r x.steps
      | none => none) else none := by
  simp only [atS]; rw [if_pos (by omega)]; simp only [Int.toNat_natCast, h]

set_option maxHeartbeats 4000000 in
theorem at39 (p : Prg) (hp : ∀ r ∈ p.routes, r.steps.length ≤ 9223372036854775807 ∧ ∀ s ∈ r.steps, s.ok) (hr0 : p.routes.length ≤ 1000) (route : Int) (place : List Int) (hm : place.length * 8 ≤ 140737488351232) :
    Pure Tryd.prog tabG 39 [p.pv, .int .i64 route, .list (place.map (PV.int .i64))] (atR (atP p route place)) := by
  obtain ⟨v, sc, e, w, rs⟩ := p
  simp only [Prg.routes] at hp hr0
  rw [atP]
  simp only [Prg.routes]
  refine Pure.intro F39_ok (by simp [F39]) ?_
  by_cases h1 : route < 0
  · rw [if_neg (by omega), atR_none]
    simp (config := { maxSteps := 1000000 }) (disch := first | exact chk_rfl | (unfold Chk; decide +kernel) | omega | (simp only [cells_agg, List.length_cons, List.length_nil, List.length_map, List.length_take, List.length_append, Nat.zero_add, Nat.reduceAdd]; first | done | omega) | fail) only [F39o0, F39o1, F39o2, F39o3, F39o4, F39o5, F39o6, F39o7, F39o8, F39o9, F39o10, F39o11, F39o12, F39o13, F39p13, F39o14, F39b15, F39c, F39, Prg.pv_mk, push_cast, ↓reduceIte, Nat.reduceEqDiff, Nat.reduceAdd, Nat.reduceMul, Nat.reduceLeDiff, Nat.reduceLT, Nat.reduceBEq, Nat.reduceSub, Int.reduceToNat, Int.reduceNeg]
  by_cases h2 : (rs.length : Int) ≤ route
  · have h3 : rs[route.toNat]? = none := List.getElem?_eq_none (by omega)
    have h4 : (if 0 ≤ route ∧ place.length % 2 = 1 then (match rs[route.toNat]? with
      | some r => atS place r.steps
      | none => none) else none) = none := by rw [h3]; split <;> rfl
    rw [h4, atR_none]
    simp (config := { maxSteps := 1000000 }) (disch := first | exact chk_rfl | (unfold Chk; decide +kernel) | omega | (simp only [cells_agg, List.length_cons, List.length_nil, List.length_map, List.length_take, List.length_append, Nat.zero_add, Nat.reduceAdd]; first | done | omega) | fail) only [F39o0, F39o1, F39o2, F39o3, F39o4, F39o5, F39o6, F39o7, F39o8, F39o9, F39o10, F39o11, F39o12, F39o13, F39p13, F39o14, F39b15, F39c, F39, Prg.pv_mk, push_cast, ↓reduceIte, Nat.reduceEqDiff, Nat.reduceAdd, Nat.reduceMul, Nat.reduceLeDiff, Nat.reduceLT, Nat.reduceBEq, Nat.reduceSub, Int.reduceToNat, Int.reduceNeg]
  obtain ⟨i, rfl⟩ : ∃ i : Nat, route = i := ⟨route.toNat, by omega⟩
  have hil : i < rs.length := by omega
  obtain ⟨r, hr⟩ : ∃ r, rs[i]? = some r := ⟨_, List.getElem?_eq_getElem hil⟩
  have hmod : (place.length : Int).tmod 2 = ((place.length % 2 : Nat) : Int) := _root_.id rfl
  by_cases h3 : place.length % 2 = 0
  · have h3I : (place.length : Int).tmod 2 = 0 := by rw [hmod]; omega
    rw [if_neg (by omega), atR_none]
    simp (config := { maxSteps := 1000000 }) (disch := first | exact chk_rfl | (unfold Chk; decide +kernel) | omega | (simp only [cells_agg, List.length_cons, List.length_nil, List.length_map, List.length_take, List.length_append, Nat.zero_add, Nat.reduceAdd]; first | done | omega) | fail) only [F39o0, F39o1, F39o2, F39o3, F39o4, F39o5, F39o6, F39o7, F39o8, F39o9, F39o10, F39o11, F39o12, F39o13, F39p13, F39o14, F39b15, F39c, F39, Prg.pv_mk, h3I, push_cast, ↓reduceIte, Nat.reduceEqDiff, Nat.reduceAdd, Nat.reduceMul, Nat.reduceLeDiff, Nat.reduceLT, Nat.reduceBEq, Nat.reduceSub, Int.reduceToNat, Int.reduceNeg]
  have h3I : ¬ (place.length : Int).tmod 2 = 0 := by rw [hmod]; omega
  rw [if_pos (by omega)]
  simp only [Int.toNat_natCast, hr]
  obtain ⟨hrl, hrs⟩ := hp r (List.mem_of_getElem? hr)
  obtain ⟨r1, r2, r3⟩ := r
  have hst : (Rou.mk r1 r2 r3).steps = r3 := _root_.id rfl
  rw [hst] at hrl hrs ⊢
  simp (config := { maxSteps := 1000000 }) (disch := first | exact chk_rfl | (unfold Chk; decide +kernel) | omega | (simp only [cells_agg, List.length_cons, List.length_nil, List.length_map, List.length_take, List.length_append, Nat.zero_add, Nat.reduceAdd]; first | done | omega) | fail) only [F39o0, F39o1, F39o2, F39o3, F39o4, F39o5, F39o6, F39o7, F39o8, F39o9, F39o10, F39o11, F39o12, F39o13, F39p13, F39o14, F39b15, F39c, F39, Prg.pv_mk, h3I, hr, Rou.pv_mk, push_cast, ↓reduceIte, Nat.reduceEqDiff, Nat.reduceAdd, Nat.reduceMul, Nat.reduceLeDiff, Nat.reduceLT, Nat.reduceBEq, Nat.reduceSub, Int.reduceToNat, Int.reduceNeg]
  refine vc_over ([]) (fun x : Nat × List Stp => [(8, .pv (.list (x.2.map Stp.pv))), (9, .pv (.int .i64 (x.1 : Int)))]) (fun x => []) (fun x => x.1 < place.length ∧ x.1 % 2 = 0 ∧ atS place r3 = atS (place.drop x.1) x.2 ∧ x.2.length ≤ 9223372036854775807 ∧ ∀ s ∈ x.2, s.ok) (fun x => place.length - x.1) ((0, r3)) ?_; intro e0 σ0 n0 h0; simp (config := { maxSteps := 1000000 }) (disch := first | exact chk_rfl | (unfold Chk; decide +kernel) | omega | (simp only [cells_agg, List.length_cons, List.length_nil, List.length_map, List.length_take, List.length_append, Nat.zero_add, Nat.reduceAdd]; first | done | omega) | fail) only [push_cast, ↓reduceIte, Nat.reduceEqDiff, Nat.reduceAdd, Nat.reduceMul, Nat.reduceLeDiff, Nat.reduceLT, Nat.reduceBEq, Nat.reduceSub, Int.reduceToNat, Int.reduceNeg] at h0; obtain ⟨rfl, rfl, rfl⟩ := h0; refine ⟨?_, ?_, ?_⟩
  · simp (config := { maxSteps := 1000000 }) (disch := first | exact chk_rfl | (unfold Chk; decide +kernel) | omega | (simp only [cells_agg, List.length_cons, List.length_nil, List.length_map, List.length_take, List.length_append, Nat.zero_add, Nat.reduceAdd]; first | done | omega) | fail) only [push_cast, ↓reduceIte, Nat.reduceEqDiff, Nat.reduceAdd, Nat.reduceMul, Nat.reduceLeDiff, Nat.reduceLT, Nat.reduceBEq, Nat.reduceSub, Int.reduceToNat, Int.reduceNeg]
  · exact ⟨by omega, by omega, rfl, hrl, hrs⟩
  · rintro ⟨j, l⟩ ⟨hj, hj2, hat, hll, hlo⟩
    simp only at hj hj2 hat hll hlo
    obtain ⟨a, ha⟩ : ∃ a, place[j]? = some a := ⟨_, List.getElem?_eq_getElem hj⟩
    have hdr : place.drop j = a :: place.drop (j + 1) := by
      obtain ⟨h1, h2⟩ := List.getElem?_eq_some_iff.1 ha
      rw [List.drop_eq_getElem_cons h1, h2]
    rw [hdr] at hat
    rw [hat]
    by_cases ha0 : a < 0
    · rw [atS_neg ha0, atR_none]
      simp (config := { maxSteps := 1000000 }) (disch := first | exact chk_rfl | (unfold Chk; decide +kernel) | omega | (simp only [cells_agg, List.length_cons, List.length_nil, List.length_map, List.length_take, List.length_append, Nat.zero_add, Nat.reduceAdd]; first | done | omega) | fail) only [ha, push_cast, ↓reduceIte, Nat.reduceEqDiff, Nat.reduceAdd, Nat.reduceMul, Nat.reduceLeDiff, Nat.reduceLT, Nat.reduceBEq, Nat.reduceSub, Int.reduceToNat, Int.reduceNeg]
    by_cases hal : (l.length : Int) ≤ a
    · rw [atS_far hal, atR_none]
      simp (config := { maxSteps := 1000000 }) (disch := first | exact chk_rfl | (unfold Chk; decide +kernel) | omega | (simp only [cells_agg, List.length_cons, List.length_nil, List.length_map, List.length_take, List.length_append, Nat.zero_add, Nat.reduceAdd]; first | done | omega) | fail) only [ha, push_cast, ↓reduceIte, Nat.reduceEqDiff, Nat.reduceAdd, Nat.reduceMul, Nat.reduceLeDiff, Nat.reduceLT, Nat.reduceBEq, Nat.reduceSub, Int.reduceToNat, Int.reduceNeg]
    obtain ⟨k, rfl⟩ : ∃ k : Nat, a = k := ⟨a.toNat, by omega⟩
    obtain ⟨s, hs⟩ : ∃ s, l[k]? = some s := ⟨_, List.getElem?_eq_getElem (by omega)⟩
    have hso := hlo s (List.mem_of_getElem? hs)
    by_cases hend : j + 1 = place.length
    · have hendI : (j : Int) + 1 = place.length := by omega
      rw [List.drop_eq_nil_of_le (by omega), atS_one, hs, atR]
      have hcall := cloned_ok _ s (Nat.lt_succ_self _) hso
      obtain ⟨x1, x2, x3, x4, x5, x6, x7, x8, x9, x10, kb⟩ := s
      rw [Stp.pv_mk] at hcall ⊢
      simp (config := { maxSteps := 1000000 }) (disch := first | exact chk_rfl | (unfold Chk; decide +kernel) | omega | (simp only [cells_agg, List.length_cons, List.length_nil, List.length_map, List.length_take, List.length_append, Nat.zero_add, Nat.reduceAdd]; first | done | omega) | fail) only [ha, hs, Stp.pv_mk, hendI, push_cast, ↓reduceIte, Nat.reduceEqDiff, Nat.reduceAdd, Nat.reduceMul, Nat.reduceLeDiff, Nat.reduceLT, Nat.reduceBEq, Nat.reduceSub, Int.reduceToNat, Int.reduceNeg]
      refine ACall.pure hcall rfl ?_
      simp (config := { maxSteps := 1000000 }) (disch := first | exact chk_rfl | (unfold Chk; decide +kernel) | omega | (simp only [cells_agg, List.length_cons, List.length_nil, List.length_map, List.length_take, List.length_append, Nat.zero_add, Nat.reduceAdd]; first | done | omega) | fail) only [push_cast, ↓reduceIte, Nat.reduceEqDiff, Nat.reduceAdd, Nat.reduceMul, Nat.reduceLeDiff, Nat.reduceLT, Nat.reduceBEq, Nat.reduceSub, Int.reduceToNat, Int.reduceNeg]
    · have hendI : ¬ (j : Int) + 1 = place.length := by omega
      obtain ⟨b, hb⟩ : ∃ b, place[j + 1]? = some b := ⟨_, List.getElem?_eq_getElem (by omega)⟩
      have hdr2 : place.drop (j + 1) = b :: place.drop (j + 2) := by
        obtain ⟨h1, h2⟩ := List.getElem?_eq_some_iff.1 hb
        rw [List.drop_eq_getElem_cons h1, h2]
      rw [hdr2, atS_two hs] at hat ⊢
      obtain ⟨x1, x2, x3, x4, x5, x6, x7, x8, x9, x10, kb⟩ := s
      have hbr : (Stp.mk x1 x2 x3 x4 x5 x6 x7 x8 x9 x10 kb).branches = kb := _root_.id rfl
      rw [hbr] at hat ⊢
      by_cases hb0 : b < 0
      · rw [if_neg (by omega), atR_none]
        simp (config := { maxSteps := 1000000 }) (disch := first | exact chk_rfl | (unfold Chk; decide +kernel) | omega | (simp only [cells_agg, List.length_cons, List.length_nil, List.length_map, List.length_take, List.length_append, Nat.zero_add, Nat.reduceAdd]; first | done | omega) | fail) only [ha, hs, Stp.pv_mk, hendI, hb, push_cast, ↓reduceIte, Nat.reduceEqDiff, Nat.reduceAdd, Nat.reduceMul, Nat.reduceLeDiff, Nat.reduceLT, Nat.reduceBEq, Nat.reduceSub, Int.reduceToNat, Int.reduceNeg]
      by_cases hbl : (kb.length : Int) ≤ b
      · have h1 : kb[b.toNat]? = none := List.getElem?_eq_none (by omega)
        rw [if_pos (by omega), h1, atR_none]
        simp (config := { maxSteps := 1000000 }) (disch := first | exact chk_rfl | (unfold Chk; decide +kernel) | omega | (simp only [cells_agg, List.length_cons, List.length_nil, List.length_map, List.length_take, List.length_append, Nat.zero_add, Nat.reduceAdd]; first | done | omega) | fail) only [ha, hs, Stp.pv_mk, hendI, hb, push_cast, ↓reduceIte, Nat.reduceEqDiff, Nat.reduceAdd, Nat.reduceMul, Nat.reduceLeDiff, Nat.reduceLT, Nat.reduceBEq, Nat.reduceSub, Int.reduceToNat, Int.reduceNeg]
      obtain ⟨q, rfl⟩ : ∃ q : Nat, b = q := ⟨b.toNat, by omega⟩
      obtain ⟨x, hx⟩ : ∃ x, kb[q]? = some x := ⟨_, List.getElem?_eq_getElem (by omega)⟩
      rw [if_pos (by omega)] at hat ⊢
      simp only [Int.toNat_natCast, hx] at hat ⊢
      rw [Stp.ok_mk] at hso
      obtain ⟨_, _, _, _, _, _, _, _, _, _, _, _, _, _, hko⟩ := hso
      have hxo := hko x (List.mem_of_getElem? hx)
      obtain ⟨y1, y2⟩ := x
      rw [Bra.ok_mk] at hxo
      obtain ⟨_, _, hx3, hx4⟩ := hxo
      have hbs : (Bra.mk y1 y2).steps = y2 := _root_.id rfl
      rw [hbs] at hat ⊢
      simp (config := { maxSteps := 1000000 }) (disch := first | exact chk_rfl | (unfold Chk; decide +kernel) | omega | (simp only [cells_agg, List.length_cons, List.length_nil, List.length_map, List.length_take, List.length_append, Nat.zero_add, Nat.reduceAdd]; first | done | omega) | fail) only [ha, hs, Stp.pv_mk, hendI, hb, hx, Bra.pv_mk, push_cast, ↓reduceIte, Nat.reduceEqDiff, Nat.reduceAdd, Nat.reduceMul, Nat.reduceLeDiff, Nat.reduceLT, Nat.reduceBEq, Nat.reduceSub, Int.reduceToNat, Int.reduceNeg]
      exact ⟨(j + 2, y2), hd_z (by simp (config := { maxSteps := 1000000 }) (disch := first | exact chk_rfl | (unfold Chk; decide +kernel) | omega | (simp only [cells_agg, List.length_cons, List.length_nil, List.length_map, List.length_take, List.length_append, Nat.zero_add, Nat.reduceAdd]; first | done | omega) | fail) only [push_cast, ↓reduceIte, Nat.reduceEqDiff, Nat.reduceAdd, Nat.reduceMul, Nat.reduceLeDiff, Nat.reduceLT, Nat.reduceBEq, Nat.reduceSub, Int.reduceToNat, Int.reduceNeg]; omega), ⟨by simp only; omega, by simp only; omega, _root_.id rfl, by simp only; omega, hx4⟩, by simp only; omega⟩
end Go.Proofs.YtfbakipopjoghaaDoor
