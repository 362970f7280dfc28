/- A part of the proof for FitBackCardSaid. -/
import Derived.Test.YtikmckfppnmlnaaDoorBakYCj
set_option maxRecDepth 100000
set_option linter.unusedVariables false
set_option linter.unusedSimpArgs false
namespace Go.Proofs.YtikmckfppnmlnaaDoor
open Go Go.Ab
open Nat renaming reduceEqDiff → qa, reduceAdd → qb, reduceMul → qc, reduceLeDiff → qd, reduceLT → qe, reduceBEq → qf, reduceSub → qg
open Int renaming reduceToNat → qh, reduceNeg → qi
attribute [local irreducible] vc
theorem shortT1_ok {r : Typ → Typ} {on : Bool} {t : Typ} (h : t.ok) (hr : on = true → ∀ x : Typ, x.ok → (r x).ok) : (shortT1 r on t).ok := by
  obtain ⟨k, a, b, c, w, e, f⟩ := t
  rw [Typ.ok_mk] at h
  obtain ⟨h1, h2, h3, h4, h5, h6, h7, h8, h9, h10⟩ := h
  rw [shortT1, Typ.ok_mk]
  refine ⟨h1, h2, h3, h4, by simp; omega, fun x hx => ?_, ?_, fun x hx => ?_, ?_, fun x hx => ?_⟩
  · obtain ⟨y, hy, rfl⟩ := List.mem_map.1 hx
    have := h6 y (List.mem_of_mem_take hy)
    simp; omega
  · cases on <;> simp; omega
  · cases on with
    | false => simp at hx
    | true =>
      simp only [if_true] at hx
      obtain ⟨y, hy, rfl⟩ := List.mem_map.1 hx
      exact hr rfl y (h8 y (List.mem_of_mem_take hy))
  · cases on <;> simp; omega
  · cases on with
    | false => simp at hx
    | true =>
      simp only [if_true] at hx
      obtain ⟨y, hy, rfl⟩ := List.mem_map.1 hx
      have hyo := h10 y (List.mem_of_mem_take hy)
      obtain ⟨f1, f2, f3, f4, f5⟩ := y
      rw [TFd.ok_mk] at hyo
      obtain ⟨g1, g2, g3, g4, g5, g6⟩ := hyo
      rw [shortTF, TFd.ok_mk]
      refine ⟨g1, by simp; omega, g3, hr rfl f4 g4, by simp; omega, fun d hd => ?_⟩
      obtain ⟨z, hz, rfl⟩ := List.mem_map.1 hd
      exact shortV_ok 3 z (g6 z (List.mem_of_mem_take hz))
theorem shortT_ok : ∀ (n : Nat) (t : Typ), t.ok → (shortT n t).ok
  | 0, t, h => shortT1_ok h (fun hh => by cases hh)
  | n + 1, t, h => shortT1_ok h (fun _ x hx => shortT_ok n x hx)
set_option maxHeartbeats 4000000 in
theorem back_law (t : Typ) (v : Val) (ht : t.ok) (hv : v.ok) : Pure Tryd.prog tabG 10 [t.pv, v.pv] (.bool true) := by
  have h22 := short22 t v ht hv
  have hdV := shortV_dep 3 v
  have hoV := shortV_ok 4 v hv
  have hy4 := shortT_tyN 4 3 t
  have hD4 := shortT_tyDN 4 3 t ht
  have hoT := shortT_ok 4 t ht
  simp only [Nat.reduceAdd] at *
  generalize shortT 4 t = T at *
  generalize shortV 4 v = V at *
  have h34 := distinct34 _ T (Nat.lt_succ_self _) hoT
  have h26 := fits26 4 T V hdV hy4 hoV (by omega)
  cases hdst : dst (SizeOf.sizeOf T).succ T with
  | false =>
    rw [hdst] at h34
    obtain ⟨a1, a2, a3, a4, a5, a6, a7⟩ := T
    obtain ⟨b1, b2, b3, b4, b5, b6⟩ := V
    obtain ⟨k, m, M, s, wd, e, fs⟩ := t
    obtain ⟨vk, vi, vs, vt, vl, vf⟩ := v
    simp only [Typ.pv_mk, Val.pv_mk] at *
    refine Pure.intro F10_ok (by simp [F10]) ?_
    simp (disch := first | exact dI | fail) only [F10o0, F10o1, F10o2, F10o3, F10o4, F10o5, F10o6, F10c, F10, push_cast, ↓reduceIte, qa, qb, qc, qd, qe, qf, qg, qh, qi]
    refine ACall.pure h22 rfl ?_
    simp (disch := first | exact dI | fail) only [push_cast, ↓reduceIte, qa, qb, qc, qd, qe, qf, qg, qh, qi]
    refine ACall.pure known_ok rfl ?_
    simp (disch := first | exact dI | fail) only [push_cast, ↓reduceIte, qa, qb, qc, qd, qe, qf, qg, qh, qi]
    refine ACall.pure h34 rfl ?_
    simp (disch := first | exact dI | fail) only [push_cast, ↓reduceIte, qa, qb, qc, qd, qe, qf, qg, qh, qi]
    refine ACall.pure known_ok rfl ?_
    simp (disch := first | exact dI | fail) only [push_cast, ↓reduceIte, qa, qb, qc, qd, qe, qf, qg, qh, qi]
  | true =>
    rw [hdst] at h34
    by_cases hm : missN 4 T V [] = []
    · have h31 := reduce31 T V hdV hy4 hD4 hoV hm
      have hdR := redN_dep 4 T V [] hdV hm
      have hbk := com_red 4 _ T V [] hD4 hdV hm (Nat.lt_succ_self _) hdst
      have h35 := complete35 4 T (redN 4 T V) V hdR hy4 hbk 4 hdV hy4 hoV (by omega) hm
      have h32 := same32_s _ V (Nat.lt_succ_self _) hoV
      rw [hm, List.isEmpty_nil] at h26
      clear hbk hdR
      generalize redN 4 T V = R at *
      clear hdst hm hdV hoV hy4 hD4 hoT
      obtain ⟨r1, r2, r3, r4, r5, r6⟩ := R
      obtain ⟨a1, a2, a3, a4, a5, a6, a7⟩ := T
      obtain ⟨b1, b2, b3, b4, b5, b6⟩ := V
      obtain ⟨k, m, M, s, wd, e, fs⟩ := t
      obtain ⟨vk, vi, vs, vt, vl, vf⟩ := v
      simp only [Typ.pv_mk, Val.pv_mk] at *
      refine Pure.intro F10_ok (by simp [F10]) ?_
      simp (disch := first | exact dI | fail) only [F10o0, F10o1, F10o2, F10o3, F10o4, F10o5, F10o6, F10c, F10, push_cast, ↓reduceIte, qa, qb, qc, qd, qe, qf, qg, qh, qi]
      refine ACall.pure h22 rfl ?_
      simp (disch := first | exact dI | fail) only [push_cast, ↓reduceIte, qa, qb, qc, qd, qe, qf, qg, qh, qi]
      refine ACall.pure known_ok rfl ?_
      simp (disch := first | exact dI | fail) only [push_cast, ↓reduceIte, qa, qb, qc, qd, qe, qf, qg, qh, qi]
      refine ACall.pure h34 rfl ?_
      simp (disch := first | exact dI | fail) only [push_cast, ↓reduceIte, qa, qb, qc, qd, qe, qf, qg, qh, qi]
      refine ACall.pure h26 rfl ?_
      simp (disch := first | exact dI | fail) only [push_cast, ↓reduceIte, qa, qb, qc, qd, qe, qf, qg, qh, qi]
      refine ACall.pure h31 rfl ?_
      simp (disch := first | exact dI | fail) only [push_cast, ↓reduceIte, qa, qb, qc, qd, qe, qf, qg, qh, qi]
      refine ACall.pure h35 rfl ?_
      simp (disch := first | exact dI | fail) only [push_cast, ↓reduceIte, qa, qb, qc, qd, qe, qf, qg, qh, qi]
      refine ACall.pure h32 rfl ?_
      simp (disch := first | exact dI | fail) only [push_cast, ↓reduceIte, qa, qb, qc, qd, qe, qf, qg, qh, qi]
    · have hE : (missN 4 T V []).isEmpty = false := by
        cases hh : missN 4 T V [] with
        | nil => exact absurd hh hm
        | cons a b => rfl
      rw [hE] at h26
      obtain ⟨a1, a2, a3, a4, a5, a6, a7⟩ := T
      obtain ⟨b1, b2, b3, b4, b5, b6⟩ := V
      obtain ⟨k, m, M, s, wd, e, fs⟩ := t
      obtain ⟨vk, vi, vs, vt, vl, vf⟩ := v
      simp only [Typ.pv_mk, Val.pv_mk] at *
      refine Pure.intro F10_ok (by simp [F10]) ?_
      simp (disch := first | exact dI | fail) only [F10o0, F10o1, F10o2, F10o3, F10o4, F10o5, F10o6, F10c, F10, push_cast, ↓reduceIte, qa, qb, qc, qd, qe, qf, qg, qh, qi]
      refine ACall.pure h22 rfl ?_
      simp (disch := first | exact dI | fail) only [push_cast, ↓reduceIte, qa, qb, qc, qd, qe, qf, qg, qh, qi]
      refine ACall.pure known_ok rfl ?_
      simp (disch := first | exact dI | fail) only [push_cast, ↓reduceIte, qa, qb, qc, qd, qe, qf, qg, qh, qi]
      refine ACall.pure h34 rfl ?_
      simp (disch := first | exact dI | fail) only [push_cast, ↓reduceIte, qa, qb, qc, qd, qe, qf, qg, qh, qi]
      refine ACall.pure h26 rfl ?_
      simp (disch := first | exact dI | fail) only [push_cast, ↓reduceIte, qa, qb, qc, qd, qe, qf, qg, qh, qi]
      refine ACall.pure known_ok rfl ?_
      simp (disch := first | exact dI | fail) only [push_cast, ↓reduceIte, qa, qb, qc, qd, qe, qf, qg, qh, qi]
theorem back_of (p0 p1 : PV) (h0 : HasT Tryd.prog 58 p0) (h1 : HasT Tryd.prog 62 p1) : Pure Tryd.prog tabG 10 [p0, p1] (.bool true) := by
  obtain ⟨t, rfl, ht⟩ := hasT_Typ h0
  obtain ⟨v, rfl, hv⟩ := hasT_Val h1
  exact back_law t v ht hv
end Go.Proofs.YtikmckfppnmlnaaDoor
