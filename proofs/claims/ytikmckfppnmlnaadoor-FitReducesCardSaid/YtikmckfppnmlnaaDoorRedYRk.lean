/- A part of the proof for FitReducesCardSaid. -/
import Derived.Test.YtikmckfppnmlnaaDoorRedYRj
set_option maxRecDepth 100000
set_option linter.unusedVariables false
set_option linter.unusedSimpArgs false
namespace Go.Proofs.YtikmckfppnmlnaaDoor
open Go Go.Ab
open Nat renaming reduceEqDiff → qa, reduceAdd → qb, reduceMul → qc, reduceLeDiff → qd, reduceLT → qe, reduceBEq → qf, reduceSub → qg
open Int renaming reduceToNat → qh, reduceNeg → qi
attribute [local irreducible] vc
theorem reduces_law (t : Typ) (v : Val) (ht : t.ok) (hv : v.ok) : Pure Tryd.prog tabG 9 [t.pv, v.pv] (.bool true) := by
  have h22 := short22 t v ht hv
  have hd := shortV_dep 3 v
  have hy := shortT_ty 3 t
  have ho := shortV_ok 4 v hv
  have hD := shortT_tyD 4 t ht
  generalize shortT 4 t = T at *
  generalize shortV 4 v = V at *
  have h24 := allR 4 (by omega) T V [] hd hy ho (by simp)
  have hz := (same32_s _ zeroV (Nat.lt_succ_self _) zeroV_ok)
  by_cases hm : missN 4 T V [] = []
  · have h31 := reduce31 T V hd hy hD ho hm
    have h33 := refR 4 T V [] hd hy hD ho hm
    have h32 := same32_s _ (redN 4 T V) (Nat.lt_succ_self _) (redN_ok 4 T V ho)
    rw [hm] at h24
    generalize redN 4 T V = R at *
    obtain ⟨r1, r2, r3, r4, r5, r6⟩ := R
    obtain ⟨a1, a2, a3, a4, a5, a6, a7⟩ := T
    obtain ⟨b1, b2, b3, b4, b5, b6⟩ := V
    obtain ⟨k, m, M, s, w, e, fs⟩ := t
    obtain ⟨vk, vi, vs, vt, vl, vf⟩ := v
    simp only [Typ.pv_mk, Val.pv_mk, List.map_nil] at *
    refine Pure.intro F9_ok (by simp [F9]) ?_
    simp (disch := first | exact dI | fail) only [F9o0, F9o1, F9o2, F9o3, F9o4, F9o5, F9o6, F9o7, F9p7, F9c, F9, push_cast, ↓reduceIte, qa, qb, qc, qd, qe, qf, qg, qh, qi]
    refine ACall.pure h22 rfl ?_
    simp (disch := first | exact dI | fail) only [push_cast, ↓reduceIte, qa, qb, qc, qd, qe, qf, qg, qh, qi]
    refine ACall.pure h31 rfl ?_
    simp (disch := first | exact dI | fail) only [push_cast, ↓reduceIte, qa, qb, qc, qd, qe, qf, qg, qh, qi]
    refine ACall.pure known_ok rfl ?_
    simp (disch := first | exact dI | fail) only [push_cast, ↓reduceIte, qa, qb, qc, qd, qe, qf, qg, qh, qi]
    refine ACall.pure h24 rfl ?_
    simp (disch := first | exact dI | fail) only [push_cast, ↓reduceIte, qa, qb, qc, qd, qe, qf, qg, qh, qi]
    refine callDL_pure h33 rfl ?_
    simp (disch := first | exact dI | fail) only [push_cast, ↓reduceIte, qa, qb, qc, qd, qe, qf, qg, qh, qi]
    refine ACall.pure h32 rfl ?_
    simp (disch := first | exact dI | fail) only [push_cast, ↓reduceIte, qa, qb, qc, qd, qe, qf, qg, qh, qi]
  · have h31 := reduce31_bad T V hd hy ho hm
    have hpos : 0 < (missN 4 T V []).length := List.length_pos_iff.2 hm
    generalize missN 4 T V [] = L at *
    have hlI : (0 : Int) < L.length := by omega
    obtain ⟨a1, a2, a3, a4, a5, a6, a7⟩ := T
    obtain ⟨b1, b2, b3, b4, b5, b6⟩ := V
    obtain ⟨k, m, M, s, w, e, fs⟩ := t
    obtain ⟨vk, vi, vs, vt, vl, vf⟩ := v
    simp only [Typ.pv_mk, Val.pv_mk, zeroV, List.map_nil] at *
    have hz2 := hz.nz (qs := [.agg [.int .i64 0, .int .i64 0, .int .i64 0, .str [], .list [], .list []], .agg [.int .i64 0, .int .i64 0, .int .i64 0, .str [], .nils, .nils]]) (by repeat' constructor)
    refine Pure.intro F9_ok (by simp [F9]) ?_
    simp (disch := first | exact dI | fail) only [F9o0, F9o1, F9o2, F9o3, F9o4, F9o5, F9o6, F9o7, F9p7, F9c, F9, push_cast, ↓reduceIte, qa, qb, qc, qd, qe, qf, qg, qh, qi]
    refine ACall.pure h22 rfl ?_
    simp (disch := first | exact dI | fail) only [push_cast, ↓reduceIte, qa, qb, qc, qd, qe, qf, qg, qh, qi]
    refine ACall.pure h31 rfl ?_
    simp (disch := first | exact dI | fail) only [push_cast, ↓reduceIte, qa, qb, qc, qd, qe, qf, qg, qh, qi]
    refine ACall.pure known_ok rfl ?_
    simp (disch := first | exact dI | fail) only [push_cast, ↓reduceIte, qa, qb, qc, qd, qe, qf, qg, qh, qi]
    refine ACall.pure h24 rfl ?_
    simp (disch := first | exact dI | fail) only [push_cast, ↓reduceIte, qa, qb, qc, qd, qe, qf, qg, qh, qi]
    refine ACall.pure hz2 rfl ?_
    simp (disch := first | exact dI | fail) only [push_cast, ↓reduceIte, qa, qb, qc, qd, qe, qf, qg, qh, qi]
theorem reduces_of (p0 p1 : PV) (h0 : HasT Tryd.prog 58 p0) (h1 : HasT Tryd.prog 62 p1) : Pure Tryd.prog tabG 9 [p0, p1] (.bool true) := by
  obtain ⟨t, rfl, ht⟩ := hasT_Typ h0
  obtain ⟨v, rfl, hv⟩ := hasT_Val h1
  exact reduces_law t v ht hv
end Go.Proofs.YtikmckfppnmlnaaDoor
