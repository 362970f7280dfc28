/- A part of the proof for FitReducesSameCardSaid. -/
import Derived.Test.YtikmckfppnmlnaaDoorSamYCh
set_option maxRecDepth 100000
set_option linter.unusedVariables false
set_option linter.unusedSimpArgs false
namespace Go.Proofs.YtikmckfppnmlnaaDoor
open Go Go.Ab
open Nat renaming reduceEqDiff → qa, reduceAdd → qb, reduceMul → qc, reduceLeDiff → qd, reduceLT → qe, reduceBEq → qf, reduceSub → qg
open Int renaming reduceToNat → qh, reduceNeg → qi
attribute [local irreducible] vc
set_option maxHeartbeats 4000000 in
theorem reducesSame_law (t : Typ) (v w : Val) (ht : t.ok) (hv : v.ok) (hw : w.ok) : Pure Tryd.prog tabG 11 [t.pv, v.pv, w.pv] (.bool true) := by
  have h22 := short22 t v ht hv
  have h36 := shortV_pure 4 (by omega) w hw
  have hdV := shortV_dep 3 v
  have hdW := shortV_dep 3 w
  have h6V := shortV_fl6 4 v
  have h6W := shortV_fl6 4 w
  have hoV := shortV_ok 4 v hv
  have hoW := shortV_ok 4 w hw
  have hy4 := shortT_tyN 4 3 t
  have hy7 := shortT_tyN 7 3 t
  have h6T := shortT_tf6 4 3 t
  have hD4 := shortT_tyDN 4 3 t ht
  have hD7 := shortT_tyDN 7 3 t ht
  simp only [Nat.reduceAdd] at *
  generalize shortT 4 t = T at *
  generalize shortV 4 v = V at *
  generalize shortV 4 w = W at *
  have hdA := comN_dep 4 T V hdV h6V hy4 h6T hD4
  have hdB := comN_dep 4 T W hdW h6W hy4 h6T hD4
  have hoA := comN_ok 4 T V hdV h6V h6T hD4 hy4 hoV
  have hoB := comN_ok 4 T W hdW h6W h6T hD4 hy4 hoW
  obtain ⟨A, hA⟩ : ∃ A, comN 4 T V = A := ⟨_, rfl⟩
  obtain ⟨B, hB⟩ : ∃ B, comN 4 T W = B := ⟨_, rfl⟩
  rw [hA] at hdA hoA
  rw [hB] at hdB hoB
  simp only [Nat.reduceAdd] at hdA hdB
  by_cases hmA : missN 7 T A [] = []
  · have h35A := complete35 4 T V A hdV hy4 hA 7 hdA hy7 hoA (by omega) hmA
    by_cases hmB : missN 7 T B [] = []
    · have h35B := complete35 4 T W B hdW hy4 hB 7 hdB hy7 hoB (by omega) hmB
      by_cases hAB : A = B
      · subst hAB
        have h32 := same32_s _ A (Nat.lt_succ_self _) hoA
        have h31 := reduce31N 7 T A (by omega) hdA hy7 hD7 hoA hmA
        have h32R := same32_s _ (redN 7 T A) (Nat.lt_succ_self _) (redN_ok 7 T A hoA)
        clear hA hB hmA hmB hdA hdB hoA hoB
        generalize redN 7 T A = R at *
        obtain ⟨r1, r2, r3, r4, r5, r6⟩ := R
        obtain ⟨x1, x2, x3, x4, x5, x6⟩ := A
        obtain ⟨a1, a2, a3, a4, a5, a6, a7⟩ := T
        obtain ⟨b1, b2, b3, b4, b5, b6⟩ := V
        obtain ⟨c1, c2, c3, c4, c5, c6⟩ := W
        obtain ⟨k, m, M, s, wd, e, fs⟩ := t
        obtain ⟨vk, vi, vs, vt, vl, vf⟩ := v
        obtain ⟨wk, wi, ws, wt, wl, wf⟩ := w
        simp only [Typ.pv_mk, Val.pv_mk] at *
        refine Pure.intro F11_ok (by simp [F11]) ?_
        simp (disch := first | exact dI | fail) only [F11o0, F11o1, F11o2, F11o3, F11o4, F11o5, F11o6, F11o7, F11o8, F11o9, F11c, F11, push_cast, ↓reduceIte, qa, qb, qc, qd, qe, qf, qg, qh, qi]
        refine ACall.pure h22 rfl ?_
        simp (disch := first | exact dI | fail) only [push_cast, ↓reduceIte, qa, qb, qc, qd, qe, qf, qg, qh, qi]
        refine ACall.pure h36 rfl ?_
        simp (disch := first | exact dI | fail) only [push_cast, ↓reduceIte, qa, qb, qc, qd, qe, qf, qg, qh, qi]
        refine ACall.pure h35A rfl ?_
        simp (disch := first | exact dI | fail) only [push_cast, ↓reduceIte, qa, qb, qc, qd, qe, qf, qg, qh, qi]
        refine ACall.pure h35B rfl ?_
        simp (disch := first | exact dI | fail) only [push_cast, ↓reduceIte, qa, qb, qc, qd, qe, qf, qg, qh, qi]
        refine ACall.pure known_ok rfl ?_
        simp (disch := first | exact dI | fail) only [push_cast, ↓reduceIte, qa, qb, qc, qd, qe, qf, qg, qh, qi]
        refine ACall.pure h32 rfl ?_
        simp (disch := first | exact dI | fail) only [push_cast, ↓reduceIte, qa, qb, qc, qd, qe, qf, qg, qh, qi]
        refine ACall.pure h31 rfl ?_
        simp (disch := first | exact dI | fail) only [push_cast, ↓reduceIte, qa, qb, qc, qd, qe, qf, qg, qh, qi]
        refine ACall.pure h31 rfl ?_
        simp (disch := first | exact dI | fail) only [push_cast, ↓reduceIte, qa, qb, qc, qd, qe, qf, qg, qh, qi]
        refine ACall.pure h32R rfl ?_
        simp (disch := first | exact dI | fail) only [push_cast, ↓reduceIte, qa, qb, qc, qd, qe, qf, qg, qh, qi]
      · have h32 := same32_f 7 A B hdA hAB
        clear hA hB hmA hmB hdA hdB hoA hoB hAB
        obtain ⟨x1, x2, x3, x4, x5, x6⟩ := A
        obtain ⟨y1, y2, y3, y4, y5, y6⟩ := B
        obtain ⟨a1, a2, a3, a4, a5, a6, a7⟩ := T
        obtain ⟨b1, b2, b3, b4, b5, b6⟩ := V
        obtain ⟨c1, c2, c3, c4, c5, c6⟩ := W
        obtain ⟨k, m, M, s, wd, e, fs⟩ := t
        obtain ⟨vk, vi, vs, vt, vl, vf⟩ := v
        obtain ⟨wk, wi, ws, wt, wl, wf⟩ := w
        simp only [Typ.pv_mk, Val.pv_mk] at *
        refine Pure.intro F11_ok (by simp [F11]) ?_
        simp (disch := first | exact dI | fail) only [F11o0, F11o1, F11o2, F11o3, F11o4, F11o5, F11o6, F11o7, F11o8, F11o9, F11c, F11, push_cast, ↓reduceIte, qa, qb, qc, qd, qe, qf, qg, qh, qi]
        refine ACall.pure h22 rfl ?_
        simp (disch := first | exact dI | fail) only [push_cast, ↓reduceIte, qa, qb, qc, qd, qe, qf, qg, qh, qi]
        refine ACall.pure h36 rfl ?_
        simp (disch := first | exact dI | fail) only [push_cast, ↓reduceIte, qa, qb, qc, qd, qe, qf, qg, qh, qi]
        refine ACall.pure h35A rfl ?_
        simp (disch := first | exact dI | fail) only [push_cast, ↓reduceIte, qa, qb, qc, qd, qe, qf, qg, qh, qi]
        refine ACall.pure h35B rfl ?_
        simp (disch := first | exact dI | fail) only [push_cast, ↓reduceIte, qa, qb, qc, qd, qe, qf, qg, qh, qi]
        refine ACall.pure known_ok rfl ?_
        simp (disch := first | exact dI | fail) only [push_cast, ↓reduceIte, qa, qb, qc, qd, qe, qf, qg, qh, qi]
        refine ACall.pure h32 rfl ?_
        simp (disch := first | exact dI | fail) only [push_cast, ↓reduceIte, qa, qb, qc, qd, qe, qf, qg, qh, qi]
        refine ACall.pure known_ok rfl ?_
        simp (disch := first | exact dI | fail) only [push_cast, ↓reduceIte, qa, qb, qc, qd, qe, qf, qg, qh, qi]
    · have h35B := complete35_bad 4 T W B hdW hy4 hB 7 hdB hy7 hoB (by omega) hmB
      clear hA hB hmA hmB hdA hdB hoA hoB
      obtain ⟨x1, x2, x3, x4, x5, x6⟩ := A
      obtain ⟨a1, a2, a3, a4, a5, a6, a7⟩ := T
      obtain ⟨b1, b2, b3, b4, b5, b6⟩ := V
      obtain ⟨c1, c2, c3, c4, c5, c6⟩ := W
      obtain ⟨k, m, M, s, wd, e, fs⟩ := t
      obtain ⟨vk, vi, vs, vt, vl, vf⟩ := v
      obtain ⟨wk, wi, ws, wt, wl, wf⟩ := w
      simp only [Typ.pv_mk, Val.pv_mk, zeroV, List.map_nil] at *
      refine Pure.intro F11_ok (by simp [F11]) ?_
      simp (disch := first | exact dI | fail) only [F11o0, F11o1, F11o2, F11o3, F11o4, F11o5, F11o6, F11o7, F11o8, F11o9, F11c, F11, push_cast, ↓reduceIte, qa, qb, qc, qd, qe, qf, qg, qh, qi]
      refine ACall.pure h22 rfl ?_
      simp (disch := first | exact dI | fail) only [push_cast, ↓reduceIte, qa, qb, qc, qd, qe, qf, qg, qh, qi]
      refine ACall.pure h36 rfl ?_
      simp (disch := first | exact dI | fail) only [push_cast, ↓reduceIte, qa, qb, qc, qd, qe, qf, qg, qh, qi]
      refine ACall.pure h35A rfl ?_
      simp (disch := first | exact dI | fail) only [push_cast, ↓reduceIte, qa, qb, qc, qd, qe, qf, qg, qh, qi]
      refine ACall.pure h35B rfl ?_
      simp (disch := first | exact dI | fail) only [push_cast, ↓reduceIte, qa, qb, qc, qd, qe, qf, qg, qh, qi]
      refine ACall.pure known_ok rfl ?_
      simp (disch := first | exact dI | fail) only [push_cast, ↓reduceIte, qa, qb, qc, qd, qe, qf, qg, qh, qi]
      refine ACall.pure known_ok rfl ?_
      simp (disch := first | exact dI | fail) only [push_cast, ↓reduceIte, qa, qb, qc, qd, qe, qf, qg, qh, qi]
  · have h35A := complete35_bad 4 T V A hdV hy4 hA 7 hdA hy7 hoA (by omega) hmA
    obtain ⟨X, eb, h35B⟩ : ∃ (X : Val) (eb : Int), Pure Tryd.prog tabG 35 [T.pv, W.pv] (.tup [X.pv, .int .i64 eb]) := by
      by_cases hmB : missN 7 T B [] = []
      · exact ⟨_, _, complete35 4 T W B hdW hy4 hB 7 hdB hy7 hoB (by omega) hmB⟩
      · exact ⟨_, _, complete35_bad 4 T W B hdW hy4 hB 7 hdB hy7 hoB (by omega) hmB⟩
    clear hA hB hmA hdA hdB hoA hoB
    obtain ⟨x1, x2, x3, x4, x5, x6⟩ := X
    obtain ⟨a1, a2, a3, a4, a5, a6, a7⟩ := T
    obtain ⟨b1, b2, b3, b4, b5, b6⟩ := V
    obtain ⟨c1, c2, c3, c4, c5, c6⟩ := W
    obtain ⟨k, m, M, s, wd, e, fs⟩ := t
    obtain ⟨vk, vi, vs, vt, vl, vf⟩ := v
    obtain ⟨wk, wi, ws, wt, wl, wf⟩ := w
    simp only [Typ.pv_mk, Val.pv_mk, zeroV, List.map_nil] at *
    refine Pure.intro F11_ok (by simp [F11]) ?_
    simp (disch := first | exact dI | fail) only [F11o0, F11o1, F11o2, F11o3, F11o4, F11o5, F11o6, F11o7, F11o8, F11o9, F11c, F11, push_cast, ↓reduceIte, qa, qb, qc, qd, qe, qf, qg, qh, qi]
    refine ACall.pure h22 rfl ?_
    simp (disch := first | exact dI | fail) only [push_cast, ↓reduceIte, qa, qb, qc, qd, qe, qf, qg, qh, qi]
    refine ACall.pure h36 rfl ?_
    simp (disch := first | exact dI | fail) only [push_cast, ↓reduceIte, qa, qb, qc, qd, qe, qf, qg, qh, qi]
    refine ACall.pure h35A rfl ?_
    simp (disch := first | exact dI | fail) only [push_cast, ↓reduceIte, qa, qb, qc, qd, qe, qf, qg, qh, qi]
    refine ACall.pure h35B rfl ?_
    simp (disch := first | exact dI | fail) only [push_cast, ↓reduceIte, qa, qb, qc, qd, qe, qf, qg, qh, qi]
    refine ACall.pure known_ok rfl ?_
    simp (disch := first | exact dI | fail) only [push_cast, ↓reduceIte, qa, qb, qc, qd, qe, qf, qg, qh, qi]
    refine ACall.pure known_ok rfl ?_
    simp (disch := first | exact dI | fail) only [push_cast, ↓reduceIte, qa, qb, qc, qd, qe, qf, qg, qh, qi]
theorem reducesSame_of (p0 p1 p2 : PV) (h0 : HasT Tryd.prog 58 p0) (h1 : HasT Tryd.prog 62 p1) (h2 : HasT Tryd.prog 62 p2) : Pure Tryd.prog tabG 11 [p0, p1, p2] (.bool true) := by
  obtain ⟨t, rfl, ht⟩ := hasT_Typ h0
  obtain ⟨v, rfl, hv⟩ := hasT_Val h1
  obtain ⟨w, rfl, hw⟩ := hasT_Val h2
  exact reducesSame_law t v w ht hv hw
end Go.Proofs.YtikmckfppnmlnaaDoor
