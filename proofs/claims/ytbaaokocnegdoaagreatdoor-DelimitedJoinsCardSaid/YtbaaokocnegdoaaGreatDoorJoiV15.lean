/- A part of the proof for DelimitedJoinsCardSaid. -/
import Derived.Test.YtbaaokocnegdoaaGreatDoorJoiV14
set_option maxRecDepth 100000
set_option linter.unusedVariables false
set_option linter.unusedSimpArgs false
-- many steps
namespace Go.Proofs.YtbaaokocnegdoaaGreatDoor
open Go Go.Ab
open Nat renaming reduceEqDiff → qa, reduceAdd → qb, reduceMul → qc, reduceLeDiff → qd, reduceLT → qe, reduceBEq → qf, reduceSub → qg
open Int renaming reduceToNat → qh, reduceNeg → qi
attribute [local irreducible] vc
set_option maxHeartbeats 1000000 in
theorem join27 (Z : List (Cel × Nat)) (n : Int) (sep : UInt8) (hsep : sepB n = true → n = (sep.toNat : Int)) (hm : ∀ z, z ∈ Z → z.1.1.length ≤ 70000) :
    Pure Tryz.prog tabG 27 [.list (Z.map celR), .int .i64 n] (.tup [.str (joinN (sepB n) sep (Z.map Prod.fst)).1, .int .i64 (joinN (sepB n) sep (Z.map Prod.fst)).2]) := by
  have hs := sep50 n
  generalize hb : sepB n = b at *
  refine Pure.intro F27_ok (by simp [F27]) ?_
  cases b with
  | false =>
    rw [show joinN false sep (Z.map Prod.fst) = ([], 2) from rfl]
    simp (maxSteps := 1000000) (disch := first | exact dI | fail) only [F27o0, F27o1, F27o2, F27o3, F27o4, F27o5, F27o6, F27o7, F27o8, F27o9, F27o10, F27o11, F27o12, F27o13, F27o14, F27o15, F27b16, F27o17, F27o18, F27o19, F27c, F27, push_cast, ↓reduceIte, qa, qb, qc, qd, qe, qf, qg, qh, qi]
    refine ACall.pure hs rfl ?_
    simp (maxSteps := 1000000) (disch := first | exact dI | fail) only [push_cast, ↓reduceIte, qa, qb, qc, qd, qe, qf, qg, qh, qi]
  | true =>
    have hse := hsep rfl
    subst hse
    have hss := sep.toNat_lt
    have hw := wrap_u8 (n := (sep.toNat : Int)) (by omega) (by omega)
    by_cases h0 : Z.length = 0
    · have : Z = [] := List.length_eq_zero_iff.1 h0
      subst this
      rw [show joinN true sep ([].map Prod.fst) = ([], 4) from rfl]
      simp (maxSteps := 1000000) (disch := first | exact dI | fail) only [F27o0, F27o1, F27o2, F27o3, F27o4, F27o5, F27o6, F27o7, F27o8, F27o9, F27o10, F27o11, F27o12, F27o13, F27o14, F27o15, F27b16, F27o17, F27o18, F27o19, F27c, F27, push_cast, ↓reduceIte, qa, qb, qc, qd, qe, qf, qg, qh, qi]
      refine ACall.pure hs rfl ?_
      simp (maxSteps := 1000000) (disch := first | exact dI | fail) only [push_cast, ↓reduceIte, qa, qb, qc, qd, qe, qf, qg, qh, qi]
    by_cases h64 : 64 < Z.length
    · rw [show joinN true sep (Z.map Prod.fst) = ([], 9) by unfold joinN; simp only [Bool.true_eq_false, if_false, List.length_map, if_neg h0, if_pos h64]]
      simp (maxSteps := 1000000) (disch := first | exact dI | fail) only [F27o0, F27o1, F27o2, F27o3, F27o4, F27o5, F27o6, F27o7, F27o8, F27o9, F27o10, F27o11, F27o12, F27o13, F27o14, F27o15, F27b16, F27o17, F27o18, F27o19, F27c, F27, push_cast, ↓reduceIte, qa, qb, qc, qd, qe, qf, qg, qh, qi]
      refine ACall.pure hs rfl ?_
      simp (maxSteps := 1000000) (disch := first | exact dI | fail) only [push_cast, ↓reduceIte, qa, qb, qc, qd, qe, qf, qg, qh, qi]
    obtain ⟨J, hJ⟩ : ∃ J, J = joinN true sep (Z.map Prod.fst) := ⟨_, rfl⟩
    rw [← hJ]
    unfold joinN at hJ
    simp only [Bool.true_eq_false, if_false, List.length_map, if_neg h0, if_neg h64] at hJ
    simp (maxSteps := 1000000) (disch := first | exact dI | fail) only [F27o0, F27o1, F27o2, F27o3, F27o4, F27o5, F27o6, F27o7, F27o8, F27o9, F27o10, F27o11, F27o12, F27o13, F27o14, F27o15, F27b16, F27o17, F27o18, F27o19, F27c, F27, push_cast, ↓reduceIte, qa, qb, qc, qd, qe, qf, qg, qh, qi]
    refine ACall.pure hs rfl ?_
    simp (maxSteps := 1000000) (disch := first | exact dI | fail) only [push_cast, ↓reduceIte, qa, qb, qc, qd, qe, qf, qg, qh, qi]
    refine vc_over ([]) (fun i : Nat => [(6, .pv (.str (lineN sep ((Z.take i).map Prod.fst)))), (7, .pv (.int .i64 (i : Int)))]) (fun _ => []) (fun i => i ≤ Z.length ∧ ((Z.take i).map Prod.fst).any (spcC sep) = false) (fun i => Z.length - i) (0) ?_; intro e0 σ0 n0 h0; simp (maxSteps := 1000000) (disch := first | exact dI | fail) only [push_cast, ↓reduceIte, qa, qb, qc, qd, qe, qf, qg, qh, qi] at h0; obtain ⟨rfl, rfl, rfl⟩ := h0; refine ⟨?_, ?_, ?_⟩
    · simp (maxSteps := 1000000) (disch := first | exact dI | fail) only [push_cast, ↓reduceIte, qa, qb, qc, qd, qe, qf, qg, qh, qi]
      rfl
    · exact ⟨by omega, by simp⟩
    rintro i ⟨h1, h4⟩
    have hll : (lineN sep ((Z.take i).map Prod.fst)).length ≤ 64 * 140003 := by
      refine Nat.le_trans (lineN_len sep _ 70000 fun c hc => ?_) ?_
      · obtain ⟨z, hz, rfl⟩ := List.mem_map.1 hc
        exact hm z (List.mem_of_mem_take hz)
      · refine Nat.mul_le_mul ?_ (Nat.le_refl _)
        simp; omega
    by_cases hi : i < Z.length
    · obtain ⟨z, hz⟩ : ∃ z, Z[i]? = some z := ⟨_, List.getElem?_eq_getElem hi⟩
      have hzm := List.mem_of_getElem? hz
      have hts := take_snoc hz
      obtain ⟨⟨tx, q⟩, a⟩ := z
      have hlc := hm _ hzm
      simp only at hlc
      have hwl := wrt_len (tx, q)
      simp only at hwl
      have hn := lineN_snoc sep ((Z.take i).map Prod.fst) (tx, q)
      have hmp : (Z.take (i + 1)).map Prod.fst = (Z.take i).map Prod.fst ++ [(tx, q)] := by rw [hts]; simp
      rw [← hmp] at hn
      have hav : ((Z.take (i + 1)).map Prod.fst).any (spcC sep) = spcC sep (tx, q) := by rw [hmp, List.any_append, h4]; simp
      have hcp : (Z.map celR)[i]? = some (.agg [.str tx, .bool q, .int .i64 (a : Int)]) := by simp [hz, celR]
      have h56 := special56 tx sep hlc
      have h69 := write69 (tx, q) a hlc
      simp only [celR] at h69
      have hlen : ((Z.take i).map Prod.fst).length = i := by simp; omega
      rw [hlen] at hn
      have main : ∀ (hq : q = true ∨ spc sep tx = false), spcC sep (tx, q) = false := by
        rintro (rfl | h)
        · rfl
        · simp [spcC, h]
      generalize hl : lineN sep ((Z.take i).map Prod.fst) = l at *
      cases q with
      | false =>
        cases hs1 : spc sep tx with
        | true =>
          rw [hs1] at h56
          rw [if_pos (List.any_eq_true.2 ⟨(tx, false), List.mem_map.2 ⟨_, hzm, rfl⟩, by simp [spcC, hs1]⟩)] at hJ
          rw [hJ]
          simp (maxSteps := 1000000) (disch := first | exact dI | fail) only [hcp, push_cast, ↓reduceIte, qa, qb, qc, qd, qe, qf, qg, qh, qi]
          refine ACall.pure h56 rfl ?_
          simp (maxSteps := 1000000) (disch := first | exact dI | fail) only [push_cast, ↓reduceIte, qa, qb, qc, qd, qe, qf, qg, qh, qi]
        | false =>
          rw [hs1] at h56
          rw [main (.inr hs1)] at hav
          by_cases hi0 : i = 0
          · rw [if_pos hi0, List.nil_append] at hn
            have hL0 : l = [] := by rw [← hl, hi0]; rfl
            rw [hL0]
            simp (maxSteps := 1000000) (disch := first | exact dI | fail) only [hcp, push_cast, ↓reduceIte, qa, qb, qc, qd, qe, qf, qg, qh, qi]
            refine ACall.pure h56 rfl ?_
            simp (maxSteps := 1000000) (disch := first | exact dI | fail) only [hcp, push_cast, ↓reduceIte, qa, qb, qc, qd, qe, qf, qg, qh, qi]
            refine ACall.pure h69 rfl ?_
            simp (maxSteps := 1000000) (disch := first | exact dI | fail) only [push_cast, ↓reduceIte, qa, qb, qc, qd, qe, qf, qg, qh, qi]
            exact ⟨i + 1, hd_z (by simp (maxSteps := 1000000) (disch := first | exact dI | fail) only [hn, push_cast, ↓reduceIte, qa, qb, qc, qd, qe, qf, qg, qh, qi]), ⟨by omega, hav⟩, by omega⟩
          · rw [if_neg hi0] at hn
            simp (maxSteps := 1000000) (disch := first | exact dI | fail) only [hcp, push_cast, ↓reduceIte, qa, qb, qc, qd, qe, qf, qg, qh, qi]
            refine ACall.pure h56 rfl ?_
            simp (maxSteps := 1000000) (disch := first | exact dI | fail) only [hcp, hw, UInt8.ofNat_toNat, push_cast, ↓reduceIte, qa, qb, qc, qd, qe, qf, qg, qh, qi]
            refine ACall.pure h69 rfl ?_
            simp (maxSteps := 1000000) (disch := first | exact dI | fail) only [push_cast, ↓reduceIte, qa, qb, qc, qd, qe, qf, qg, qh, qi]
            exact ⟨i + 1, hd_z (by simp (maxSteps := 1000000) (disch := first | exact dI | fail) only [hn, List.append_assoc, push_cast, ↓reduceIte, qa, qb, qc, qd, qe, qf, qg, qh, qi]), ⟨by omega, hav⟩, by omega⟩
      | true =>
        rw [main (.inl rfl)] at hav
        by_cases hi0 : i = 0
        · rw [if_pos hi0, List.nil_append] at hn
          have hL0 : l = [] := by rw [← hl, hi0]; rfl
          rw [hL0]
          simp (maxSteps := 1000000) (disch := first | exact dI | fail) only [hcp, push_cast, ↓reduceIte, qa, qb, qc, qd, qe, qf, qg, qh, qi]
          refine ACall.pure h69 rfl ?_
          simp (maxSteps := 1000000) (disch := first | exact dI | fail) only [push_cast, ↓reduceIte, qa, qb, qc, qd, qe, qf, qg, qh, qi]
          exact ⟨i + 1, hd_z (by simp (maxSteps := 1000000) (disch := first | exact dI | fail) only [hn, push_cast, ↓reduceIte, qa, qb, qc, qd, qe, qf, qg, qh, qi]), ⟨by omega, hav⟩, by omega⟩
        · rw [if_neg hi0] at hn
          simp (maxSteps := 1000000) (disch := first | exact dI | fail) only [hcp, hw, UInt8.ofNat_toNat, push_cast, ↓reduceIte, qa, qb, qc, qd, qe, qf, qg, qh, qi]
          refine ACall.pure h69 rfl ?_
          simp (maxSteps := 1000000) (disch := first | exact dI | fail) only [push_cast, ↓reduceIte, qa, qb, qc, qd, qe, qf, qg, qh, qi]
          exact ⟨i + 1, hd_z (by simp (maxSteps := 1000000) (disch := first | exact dI | fail) only [hn, List.append_assoc, push_cast, ↓reduceIte, qa, qb, qc, qd, qe, qf, qg, qh, qi]), ⟨by omega, hav⟩, by omega⟩
    · have he : Z.take i = Z := List.take_of_length_le (by omega)
      rw [he] at h4 hll
      rw [if_neg (by rw [h4]; simp)] at hJ
      by_cases h65 : 65536 < (lineN sep (Z.map Prod.fst)).length
      · rw [if_pos h65] at hJ
        rw [hJ]
        simp (maxSteps := 1000000) (disch := first | exact dI | fail) only [he, push_cast, ↓reduceIte, qa, qb, qc, qd, qe, qf, qg, qh, qi]
      · rw [if_neg h65] at hJ
        rw [hJ]
        simp (maxSteps := 1000000) (disch := first | exact dI | fail) only [he, push_cast, ↓reduceIte, qa, qb, qc, qd, qe, qf, qg, qh, qi]
end Go.Proofs.YtbaaokocnegdoaaGreatDoor
