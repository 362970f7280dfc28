/- A part of the proof for DelimitedJoinsCardSaid. -/
import Derived.Test.YtbaaokocnegdoaaGreatDoorJoiV15
set_option maxRecDepth 100000
set_option linter.unusedVariables false
set_option linter.unusedSimpArgs false
-- many steps
namespace Go.Proofs.YtbaaokocnegdoaaGreatDoor
open Go Go.Ab
open Nat renaming reduceEqDiff → qa, reduceAdd → qb, reduceMul → qc, reduceLeDiff → qd, reduceLT → qe, reduceBEq → qf, reduceSub → qg
open Int renaming reduceToNat → qh, reduceNeg → qi
attribute [local irreducible] vc
def cut50 (c : Cel) : Cel := (c.1.take 50, c.2)
def cutC (C : List Cel) : List Cel := (C.take 70).map cut50
theorem cutC_len (C : List Cel) : (cutC C).length ≤ 70 := by simp [cutC]; omega
theorem cutC_text {C : List Cel} {c : Cel} (h : c ∈ cutC C) : c.1.length ≤ 50 := by
  obtain ⟨d, _, rfl⟩ := List.mem_map.1 h
  simp [cut50]; omega
def celZ (c : Cel) : Cel × Nat := (c, 0)
theorem cells25 (C : List Cel) : Pure Tryz.prog tabG 25 [.list (C.map celP)] (.tup [.list ((cutC C).map celP), .list (((cutC C).map celZ).map celR)]) := by
  obtain ⟨D, hD⟩ : ∃ D, D = cutC C := ⟨_, rfl⟩
  rw [← hD]
  refine Pure.intro F25_ok (by simp [F25]) ?_
  simp (maxSteps := 1000000) (disch := first | exact dI | fail) only [F25o0, F25o1, F25o2, F25o3, F25o4, F25o5, F25p5, F25o6, F25p6, F25o7, F25b8, F25o9, F25c, F25, push_cast, ↓reduceIte, qa, qb, qc, qd, qe, qf, qg, qh, qi]
  refine vc_over ([(4, 0, 66, 2), (5, 0, 101, 3)]) (fun i : Nat => [(4, .olist 0 2 (((C.take i).map cut50).map celP)), (5, .olist 1 3 ((((C.take i).map cut50).map celZ).map celR)), (6, .pv (.int .i64 (i : Int)))]) (fun _ => []) (fun i => i ≤ C.length ∧ i ≤ 70) (fun i => 70 - i) (0) ?_; intro e0 σ0 n0 h0; simp (maxSteps := 1000000) (disch := first | exact dI | fail) only [push_cast, ↓reduceIte, qa, qb, qc, qd, qe, qf, qg, qh, qi] at h0; obtain ⟨rfl, rfl, rfl⟩ := h0; refine ⟨?_, ?_, ?_⟩
  · simp (maxSteps := 1000000) (disch := first | exact dI | fail) only [push_cast, ↓reduceIte, qa, qb, qc, qd, qe, qf, qg, qh, qi]
  · exact ⟨by omega, by omega⟩
  rintro i ⟨hi, h70⟩
  by_cases hlt : i < C.length
  · have hltI : (i : Int) < (C.length : Int) := by omega
    by_cases hl7 : i < 70
    · obtain ⟨c, hc⟩ : ∃ c, C[i]? = some c := ⟨_, List.getElem?_eq_getElem hlt⟩
      obtain ⟨t, q⟩ := c
      have hcp : (C.map celP)[i]? = some (.agg [.str t, .bool q]) := by simp [hc, celP]
      have hts := take_snoc hc
      simp (maxSteps := 1000000) (disch := first | exact dI | fail) only [hcp, push_cast, ↓reduceIte, qa, qb, qc, qd, qe, qf, qg, qh, qi]
      exact ⟨i + 1, hd_z (by simp (maxSteps := 1000000) (disch := first | exact dI | fail) only [hts, List.map_append, cut50, celP, celZ, celR, push_cast, ↓reduceIte, qa, qb, qc, qd, qe, qf, qg, qh, qi]), ⟨by omega, by omega⟩, by omega⟩
    · have he : cutC C = (C.take i).map cut50 := by unfold cutC; rw [show (70 : Nat) = i by omega]
      rw [he] at hD
      subst hD
      simp (maxSteps := 1000000) (disch := first | exact dI | fail) only [push_cast, ↓reduceIte, qa, qb, qc, qd, qe, qf, qg, qh, qi]
  · have he : cutC C = (C.take i).map cut50 := by unfold cutC; rw [List.take_of_length_le (by omega), List.take_of_length_le (by omega)]
    rw [he] at hD
    subst hD
    simp (maxSteps := 1000000) (disch := first | exact dI | fail) only [push_cast, ↓reduceIte, qa, qb, qc, qd, qe, qf, qg, qh, qi]
end Go.Proofs.YtbaaokocnegdoaaGreatDoor
