/- A part of the proof for ResolveEndsCardSaid. -/
import Derived.Test.YtfbakipopjoghaaDoorEndsXT7
import Derived.Test.YtfbakipopjoghaaDoorEndsX11
set_option maxRecDepth 100000
set_option linter.unusedVariables false
set_option linter.unusedSimpArgs false
namespace Go.Proofs.YtfbakipopjoghaaDoor
open Go Go.Ab

theorem shortS_len (n : Nat) (l : List SV) : (shortS n l).length ≤ 8 := by rw [shortS_eq]; simp; omega
theorem okS_short1 {rec : List SV → List SV} {on : Bool} (hr : ∀ l, okSs l → okSs (rec l) ∧ (on = true → (rec l).length ≤ 8)) (s : SV) (h : okS s) : okS (short1 rec on s) := by
  obtain ⟨a, b, c, d, e, f, g, i, j, k, m⟩ := s
  simp only [okS, short1] at h ⊢
  obtain ⟨h1, h2, h3⟩ := h
  unfold maxLen at h1 h2 ⊢
  refine ⟨by simp; omega, ?_, ?_⟩
  · split
    · simp; omega
    · simp
  · split
    · rename_i hon
      refine okBs_of fun x hx => ?_
      obtain ⟨y, hy, rfl⟩ := List.mem_map.1 hx
      have hy' := okBs_mem h3 y (List.mem_of_mem_take hy)
      obtain ⟨q1, q2⟩ := hr y.2 hy'.1
      simp only [okB1]
      exact ⟨q1, by have := q2 hon; unfold maxLen; omega⟩
    · simp [okBs]
theorem okSs_short : ∀ (n : Nat) (l : List SV), okSs l → okSs (shortS n l)
  | 0, l, h => by
    rw [shortS]
    refine okS_short (fun s hs => okS_short1 (fun l hl => ⟨hl, by simp⟩) s hs) (okSs_of fun s hs => okSs_mem h s (List.mem_of_mem_take hs))
  | n + 1, l, h => by
    rw [shortS]
    refine okS_short (fun s hs => okS_short1 (fun l hl => ⟨okSs_short n l hl, fun _ => shortS_len n l⟩) s hs) (okSs_of fun s hs => okSs_mem h s (List.mem_of_mem_take hs))

theorem short_typed (p : PV) (h : HasT Tryd.prog 22 p) : ∃ l : List SV, okSs l ∧ l.length ≤ maxLen ∧ Pure Tryd.prog tabG 11 [p, .int .i64 4] (.list (l.map SV.pv)) := by
  obtain ⟨l, rfl, h1, h2⟩ := hasT_steps h
  exact ⟨shortS 4 l, okSs_short 4 l h1, by have := shortS_len 4 l; unfold maxLen; omega, short_all 4 (by omega) l h2 h1⟩
end Go.Proofs.YtfbakipopjoghaaDoor
