/- A part of the proof for FitBackCardSaid. -/
import Derived.Test.YtikmckfppnmlnaaDoorBakYRh
set_option maxRecDepth 100000
set_option linter.unusedVariables false
set_option linter.unusedSimpArgs false
namespace Go.Proofs.YtikmckfppnmlnaaDoor
open Go Go.Ab
open Nat renaming reduceEqDiff → qa, reduceAdd → qb, reduceMul → qc, reduceLeDiff → qd, reduceLT → qe, reduceBEq → qf, reduceSub → qg
open Int renaming reduceToNat → qh, reduceNeg → qi
attribute [local irreducible] vc
theorem zeroV_ok : zeroV.ok := by rw [zeroV, Val.ok_mk]; simp [I64]
theorem redN_ok : ∀ (n : Nat) (t : Typ) (v : Val), v.ok → (redN n t v).ok
  | 0, t, v, h => h
  | n + 1, t, v, h => by
    have ih := redN_ok n
    have h0 := h
    rw [redN_succ]
    by_cases h8 : v.kind = 8
    · rw [red1_list h8]
      obtain ⟨vk, vi, vs, vt, vl, vf⟩ := v
      rw [Val.ok_mk] at h ⊢
      refine ⟨h.1, h.2.1, h.2.2.1, h.2.2.2.1, by simpa [Val.lst] using h.2.2.2.2.1, fun x hx => ?_, h.2.2.2.2.2.2⟩
      obtain ⟨y, hy, rfl⟩ := List.mem_map.1 hx
      have hyo := h.2.2.2.2.2.1 y hy
      unfold redE
      split
      · exact ih _ _ hyo
      · exact hyo
    · by_cases h10 : v.kind = 10
      · rw [red1_var h10]
        obtain ⟨vk, vi, vs, vt, vl, vf⟩ := v
        rw [Val.ok_mk] at h ⊢
        refine ⟨h.1, h.2.1, h.2.2.1, h.2.2.2.1, ?_, fun x hx => ?_, h.2.2.2.2.2.2⟩
        · unfold redC; split
          · simp
          · exact h.2.2.2.2.1
        · unfold redC at hx
          split at hx
          · simp only [List.mem_singleton] at hx
            subst hx
            refine ih _ _ ?_
            cases vl with
            | nil => exact zeroV_ok
            | cons a r => exact h.2.2.2.2.2.1 a (by simp)
          · exact h.2.2.2.2.2.1 x hx
      · by_cases h9 : v.kind = 9
        · rw [red1_rec h9]
          obtain ⟨vk, vi, vs, vt, vl, vf⟩ := v
          rw [Val.ok_mk] at h ⊢
          refine ⟨h.1, h.2.1, h.2.2.1, h.2.2.2.1, h.2.2.2.2.1, h.2.2.2.2.2.1, ?_, fun x hx => ?_⟩
          · have h1 := List.length_filter_le (fun x => !delB 3 t.fields x) vf
            have h2 := h.2.2.2.2.2.2.1
            simp only [List.length_map, Val.fields]; omega
          · obtain ⟨y, hy, rfl⟩ := List.mem_map.1 hx
            have hyo := h.2.2.2.2.2.2.2 y (List.mem_filter.1 hy).1
            unfold redF
            split
            · obtain ⟨a, b⟩ := y
              rw [Fld.ok_mk] at hyo ⊢
              exact ⟨hyo.1, ih _ _ hyo.2⟩
            · exact hyo
        · rw [red1_else h8 h10 h9]; exact h0
theorem reduce31 (t : Typ) (v : Val) (hd : dep 4 v) (ht : tyOk 4 t) (hD : tyD 4 t) (hv : v.ok) (h : missN 4 t v [] = []) : Pure Tryd.prog tabG 31 [t.pv, v.pv] (.tup [(redN 4 t v).pv, .int .i64 0]) := by
  have h26 := fits26 4 t v hd ht hv (by omega)
  have h67 := redG 4 t v [] hd ht hD hv h
  have h66 := cloneV_ok _ (redN 4 t v) (Nat.lt_succ_self _) (redN_ok 4 t v hv)
  rw [h, List.isEmpty_nil] at h26
  generalize redN 4 t v = R at *
  obtain ⟨k, m, M, s, w, el, fs⟩ := t
  obtain ⟨vk, vi, vs, vt, vl, vf⟩ := v
  obtain ⟨r1, r2, r3, r4, r5, r6⟩ := R
  simp only [Typ.pv_mk, Val.pv_mk] at *
  refine Pure.intro F31_ok (by simp [F31]) ?_
  simp (disch := first | exact dI | fail) only [F31o0, F31o1, F31o2, F31o3, F31c, F31, push_cast, ↓reduceIte, qa, qb, qc, qd, qe, qf, qg, qh, qi]
  refine ACall.pure h26 rfl ?_
  simp (disch := first | exact dI | fail) only [push_cast, ↓reduceIte, qa, qb, qc, qd, qe, qf, qg, qh, qi]
  refine ACall.pure h67 rfl ?_
  simp (disch := first | exact dI | fail) only [push_cast, ↓reduceIte, qa, qb, qc, qd, qe, qf, qg, qh, qi]
  refine ACall.pure h66 rfl ?_
  simp (disch := first | exact dI | fail) only [push_cast, ↓reduceIte, qa, qb, qc, qd, qe, qf, qg, qh, qi]
end Go.Proofs.YtikmckfppnmlnaaDoor
