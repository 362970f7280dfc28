/- A part of the proof for DelimitedJoinsCardSaid. -/
import Derived.Test.YtbaaokocnegdoaaGreatDoorJoiV7
import Derived.Test.YtbaaokocnegdoaaGreatDoorJoiV8
set_option maxRecDepth 100000
set_option linter.unusedVariables false
set_option linter.unusedSimpArgs false
-- many steps
namespace Go.Proofs.YtbaaokocnegdoaaGreatDoor
open Go Go.Ab
open Nat renaming reduceEqDiff → qa, reduceAdd → qb, reduceMul → qc, reduceLeDiff → qd, reduceLT → qe, reduceBEq → qf, reduceSub → qg
open Int renaming reduceToNat → qh, reduceNeg → qi
attribute [local irreducible] vc
theorem dbl_snoc (t : List UInt8) (c : UInt8) : dbl (t ++ [c]) = dbl t ++ (if c = 34 then [34, 34] else [c]) := by
  induction t with
  | nil => simp [dbl]
  | cons d t ih => simp only [List.cons_append, dbl, ih]; split <;> simp
theorem special56 (t : List UInt8) (sep : UInt8) (ht : t.length ≤ 70000) : Pure Tryz.prog tabG 56 [.str t, .int .i64 (sep.toNat : Int)] (.bool (spc sep t)) := by
  obtain ⟨b, hb⟩ : ∃ b, b = spc sep t := ⟨_, rfl⟩
  rw [← hb]
  refine Pure.intro F56_ok (by simp [F56]) ?_
  simp (maxSteps := 1000000) (disch := first | exact dI | fail) only [F56o0, F56o1, F56o2, F56o3, F56o4, F56o5, F56b6, F56o7, F56c, F56, push_cast, ↓reduceIte, qa, qb, qc, qd, qe, qf, qg, qh, qi]
  refine vc_over ([]) (fun i : Nat => [(5, .pv (.int .i64 (i : Int)))]) (fun _ => []) (fun i => i ≤ t.length ∧ b = spc sep (t.drop i)) (fun i => t.length - i) (0) ?_; intro e0 σ0 n0 h0; simp (maxSteps := 1000000) (disch := first | exact dI | fail) only [push_cast, ↓reduceIte, qa, qb, qc, qd, qe, qf, qg, qh, qi] at h0; obtain ⟨rfl, rfl, rfl⟩ := h0; refine ⟨?_, ?_, ?_⟩
  · simp (maxSteps := 1000000) (disch := first | exact dI | fail) only [push_cast, ↓reduceIte, qa, qb, qc, qd, qe, qf, qg, qh, qi]
  · exact ⟨by omega, by simpa using hb⟩
  rintro i ⟨hi, hbi⟩
  by_cases hlt : i < t.length
  · obtain ⟨c, hc⟩ : ∃ c, t[i]? = some c := ⟨_, List.getElem?_eq_getElem hlt⟩
    have h70 := special70 c sep
    rw [drop_at hc] at hbi
    simp only [spc, List.any_cons] at hbi
    cases hq : (c == sep || bad c) with
    | true =>
      rw [hq] at h70 hbi
      rw [Bool.true_or] at hbi
      subst hbi
      simp (maxSteps := 1000000) (disch := first | exact dI | fail) only [hc, byteO_some, push_cast, ↓reduceIte, qa, qb, qc, qd, qe, qf, qg, qh, qi]
      refine ACall.pure h70 rfl ?_
      simp (maxSteps := 1000000) (disch := first | exact dI | fail) only [push_cast, ↓reduceIte, qa, qb, qc, qd, qe, qf, qg, qh, qi]
    | false =>
      rw [hq] at h70 hbi
      rw [Bool.false_or] at hbi
      simp (maxSteps := 1000000) (disch := first | exact dI | fail) only [hc, byteO_some, push_cast, ↓reduceIte, qa, qb, qc, qd, qe, qf, qg, qh, qi]
      refine ACall.pure h70 rfl ?_
      simp (maxSteps := 1000000) (disch := first | exact dI | fail) only [push_cast, ↓reduceIte, qa, qb, qc, qd, qe, qf, qg, qh, qi]
      exact ⟨i + 1, hd_z (by simp (maxSteps := 1000000) (disch := first | exact dI | fail) only [push_cast, ↓reduceIte, qa, qb, qc, qd, qe, qf, qg, qh, qi]), ⟨by omega, hbi⟩, by omega⟩
  · rw [List.drop_eq_nil_of_le (by omega)] at hbi
    have : b = false := hbi
    subst this
    simp (maxSteps := 1000000) (disch := first | exact dI | fail) only [push_cast, ↓reduceIte, qa, qb, qc, qd, qe, qf, qg, qh, qi]
theorem write69 (c : Cel) (a : Nat) (hc : c.1.length ≤ 70000) : Pure Tryz.prog tabG 69 [celR (c, a)] (.str (wrt c)) := by
  obtain ⟨t, q⟩ := c
  simp only at hc
  refine Pure.intro F69_ok (by simp [F69]) ?_
  cases q with
  | false =>
    rw [show wrt (t, false) = t from rfl]
    simp (maxSteps := 1000000) (disch := first | exact dI | fail) only [F69o0, F69o1, F69o2, F69o3, F69o4, F69o5, F69o6, F69o7, F69o8, F69o9, F69b10, F69o11, F69c, F69, celR, push_cast, ↓reduceIte, qa, qb, qc, qd, qe, qf, qg, qh, qi]
  | true =>
    rw [show wrt (t, true) = 34 :: (dbl t ++ [34]) from rfl]
    simp (maxSteps := 1000000) (disch := first | exact dI | fail) only [F69o0, F69o1, F69o2, F69o3, F69o4, F69o5, F69o6, F69o7, F69o8, F69o9, F69b10, F69o11, F69c, F69, celR, push_cast, ↓reduceIte, qa, qb, qc, qd, qe, qf, qg, qh, qi]
    refine vc_over ([]) (fun i : Nat => [(3, .pv (.str (34 :: dbl (t.take i)))), (4, .pv (.int .i64 (i : Int)))]) (fun _ => []) (fun i => i ≤ t.length) (fun i => t.length - i) (0) ?_; intro e0 σ0 n0 h0; simp (maxSteps := 1000000) (disch := first | exact dI | fail) only [push_cast, ↓reduceIte, qa, qb, qc, qd, qe, qf, qg, qh, qi] at h0; obtain ⟨rfl, rfl, rfl⟩ := h0; refine ⟨?_, ?_, ?_⟩
    · simp (maxSteps := 1000000) (disch := first | exact dI | fail) only [push_cast, ↓reduceIte, qa, qb, qc, qd, qe, qf, qg, qh, qi]
      rfl
    · omega
    intro i hi
    have hdl := dbl_len (t.take i)
    have htl : (t.take i).length ≤ t.length := by simp; omega
    by_cases hlt : i < t.length
    · obtain ⟨c, hcc⟩ : ∃ c, t[i]? = some c := ⟨_, List.getElem?_eq_getElem hlt⟩
      have hts := take_snoc hcc
      have hds := dbl_snoc (t.take i) c
      rw [← hts] at hds
      have ho := one_at hcc
      by_cases h4 : c = 34
      · subst h4
        rw [if_pos rfl] at hds
        simp (maxSteps := 1000000) (disch := first | exact dI | fail) only [hcc, byteO_some, ho, push_cast, ↓reduceIte, qa, qb, qc, qd, qe, qf, qg, qh, qi]
        exact ⟨i + 1, hd_z (by simp (maxSteps := 1000000) (disch := first | exact dI | fail) only [hds, List.append_assoc, push_cast, ↓reduceIte, qa, qb, qc, qd, qe, qf, qg, qh, qi]), by omega, by omega⟩
      · rw [if_neg h4] at hds
        have n4 := ne34 h4
        simp (maxSteps := 1000000) (disch := first | exact dI | fail) only [hcc, byteO_some, ho, n4, push_cast, ↓reduceIte, qa, qb, qc, qd, qe, qf, qg, qh, qi]
        exact ⟨i + 1, hd_z (by simp (maxSteps := 1000000) (disch := first | exact dI | fail) only [hds, push_cast, ↓reduceIte, qa, qb, qc, qd, qe, qf, qg, qh, qi]), by omega, by omega⟩
    · have he : t.take i = t := List.take_of_length_le (by omega)
      rw [he] at hdl
      simp (maxSteps := 1000000) (disch := first | exact dI | fail) only [he, push_cast, ↓reduceIte, qa, qb, qc, qd, qe, qf, qg, qh, qi]
end Go.Proofs.YtbaaokocnegdoaaGreatDoor
