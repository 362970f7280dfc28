/- A part of the proof for FitBackCardSaid. -/
import Derived.Test.YtikmckfppnmlnaaDoorBakYRg
set_option maxRecDepth 100000
set_option linter.unusedVariables false
set_option linter.unusedSimpArgs false
namespace Go.Proofs.YtikmckfppnmlnaaDoor
open Go Go.Ab
attribute [local irreducible] vc
theorem redG : ∀ n, RedG n
  | 0 => fun t v p hd => hd.elim
  | n + 1 => fun t v p hd ht hD hv hm => by
    have ih := redG n
    by_cases h9 : v.kind = 9
    · exact red67_rec n ih t v p hd ht hD hv hm h9
    · refine red67_list n ih t v p hd ht hD hv hm h9 _ ?_
      rw [missN_succ] at hm
      obtain ⟨hg, hf⟩ := fit_kind hm
      have hd0 := hd
      have ht0 := ht
      have hD0 := hD
      simp only [dep] at hd0
      simp only [tyOk] at ht0
      simp only [tyD] at hD0
      have hvl : ∀ x ∈ v.lst, x.ok := by
        obtain ⟨vk, vi, vs, vt, vl, vf⟩ := v
        rw [Val.ok_mk] at hv
        exact hv.2.2.2.2.2.1
      by_cases h8 : v.kind = 8
      · rw [miss1_list hg hf (by omega), List.append_eq_nil_iff] at hm
        rw [redN_succ, red1_list h8]
        by_cases he : t.elem.length = 1
        · obtain ⟨e, he2⟩ := List.length_eq_one_iff.1 he
          have h1 := inner99_list 67 (redN n) t v e (by omega) he2 hd0.1 (fun x hx => by
            obtain ⟨i, hi⟩ := List.getElem?_of_mem hx
            have hxm := ixM_all hm.2 hi
            rw [elemM_one he2] at hxm
            exact ih e x _ (hd0.2.2.2.1 x hx) (ht0.2.2.1 e (by rw [he2]; simp)) (hD0.2 e (by rw [he2]; simp)) (hvl x hx) hxm)
          rw [he2]
          exact h1
        · have hnil : v.lst = [] := by
            cases hl : v.lst with
            | nil => rfl
            | cons x r =>
              have hxm := ixM_all hm.2 (i := 0) (x := x) (by rw [hl]; rfl)
              rw [elemM_bad he] at hxm; cases hxm
          have h1 := inner99_else 67 t v (fun _ => he) (by omega) (by omega)
          have e2 : Val.mk v.kind v.num v.scale v.text (v.lst.map (redE (redN n) t.elem)) v.fields = v := by
            rw [hnil]
            obtain ⟨vk, vi, vs, vt, vl, vf⟩ := v
            have : vl = [] := hnil
            subst this; rfl
          rw [e2]; exact h1
      · by_cases h10 : v.kind = 10
        · rw [miss1_var hg hf (by omega)] at hm
          rw [redN_succ, red1_var h10]
          have hl1 := formed10 h10 hf
          refine inner99_var 67 (redN n) t v (by omega) hl1 ht0.1 (fun x hx f hfd => ?_)
          rw [varM_some hfd] at hm
          obtain ⟨y, hy⟩ := List.length_eq_one_iff.1 hl1
          rw [hy] at hx hm
          have hxy : x = y := by simpa using hx
          subst hxy
          have hfm := List.mem_of_find?_eq_some hfd
          exact ih f.typ x _ (hd0.2.2.2.1 x (by rw [hy]; simp)) (ht0.2.2.2 f hfm).2 (hD0.1 f hfm).2 (hvl x (by rw [hy]; simp)) hm
        · rw [redN_succ, red1_else h8 h10 h9]
          exact inner99_else 67 t v (by omega) (by omega) (by omega)
end Go.Proofs.YtikmckfppnmlnaaDoor
