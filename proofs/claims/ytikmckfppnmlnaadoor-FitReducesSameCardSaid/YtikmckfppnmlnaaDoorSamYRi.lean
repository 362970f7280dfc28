/- A part of the proof for FitReducesSameCardSaid. -/
import Derived.Test.YtikmckfppnmlnaaDoorSamYRh
set_option maxRecDepth 100000
set_option linter.unusedVariables false
set_option linter.unusedSimpArgs false
namespace Go.Proofs.YtikmckfppnmlnaaDoor
open Go Go.Ab
open Nat renaming reduceEqDiff → qa, reduceAdd → qb, reduceMul → qc, reduceLeDiff → qd, reduceLT → qe, reduceBEq → qf, reduceSub → qg
open Int renaming reduceToNat → qh, reduceNeg → qi
attribute [local irreducible] vc
theorem zeroV_ok : zeroV.ok := by rw [zeroV, Val.ok_mk]; simp [I64]
theorem redN_ok : ∀ (n : Nat) (t : Typ) (v : Val), v.ok → (redN n t v).ok
  | 0, t, v, h => h
  | n + 1, t, v, h => by
    have ih := redN_ok n
    have h0 := h
    rw [redN_succ]
    by_cases h8 : v.kind = 8
    · rw [red1_list h8]
      obtain ⟨vk, vi, vs, vt, vl, vf⟩ := v
      rw [Val.ok_mk] at h ⊢
      refine ⟨h.1, h.2.1, h.2.2.1, h.2.2.2.1, by simpa [Val.lst] using h.2.2.2.2.1, fun x hx => ?_, h.2.2.2.2.2.2⟩
      obtain ⟨y, hy, rfl⟩ := List.mem_map.1 hx
      have hyo := h.2.2.2.2.2.1 y hy
      unfold redE
      split
      · exact ih _ _ hyo
      · exact hyo
    · by_cases h10 : v.kind = 10
      · rw [red1_var h10]
        obtain ⟨vk, vi, vs, vt, vl, vf⟩ := v
        rw [Val.ok_mk] at h ⊢
        refine ⟨h.1, h.2.1, h.2.2.1, h.2.2.2.1, ?_, fun x hx => ?_, h.2.2.2.2.2.2⟩
        · unfold redC; split
          · simp
          · exact h.2.2.2.2.1
        · unfold redC at hx
          split at hx
          · simp only [List.mem_singleton] at hx
            subst hx
            refine ih _ _ ?_
            cases vl with
            | nil => exact zeroV_ok
            | cons a r => exact h.2.2.2.2.2.1 a (by simp)
          · exact h.2.2.2.2.2.1 x hx
      · by_cases h9 : v.kind = 9
        · rw [red1_rec h9]
          obtain ⟨vk, vi, vs, vt, vl, vf⟩ := v
          rw [Val.ok_mk] at h ⊢
          refine ⟨h.1, h.2.1, h.2.2.1, h.2.2.2.1, h.2.2.2.2.1, h.2.2.2.2.2.1, ?_, fun x hx => ?_⟩
          · have h1 := List.length_filter_le (fun x => !delB 3 t.fields x) vf
            have h2 := h.2.2.2.2.2.2.1
            simp only [List.length_map, Val.fields]; omega
          · obtain ⟨y, hy, rfl⟩ := List.mem_map.1 hx
            have hyo := h.2.2.2.2.2.2.2 y (List.mem_filter.1 hy).1
            unfold redF
            split
            · obtain ⟨a, b⟩ := y
              rw [Fld.ok_mk] at hyo ⊢
              exact ⟨hyo.1, ih _ _ hyo.2⟩
            · exact hyo
        · rw [red1_else h8 h10 h9]; exact h0
end Go.Proofs.YtikmckfppnmlnaaDoor
