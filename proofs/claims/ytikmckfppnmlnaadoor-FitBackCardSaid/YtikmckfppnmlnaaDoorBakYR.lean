/- A part of the proof for FitBackCardSaid. -/
import Derived.Test.YtikmckfppnmlnaaDoorBakYQ
set_option maxRecDepth 100000
set_option linter.unusedVariables false
set_option linter.unusedSimpArgs false
namespace Go.Proofs.YtikmckfppnmlnaaDoor
open Go Go.Ab
open Nat renaming reduceEqDiff → qa, reduceAdd → qb, reduceMul → qc, reduceLeDiff → qd, reduceLT → qe, reduceBEq → qf, reduceSub → qg
open Int renaming reduceToNat → qh, reduceNeg → qi
attribute [local irreducible] vc
theorem shortV_lst (n : Nat) (v : Val) : (shortV (n + 1) v).lst = if 0 < n then (v.lst.take 6).map (shortV n) else [] := by
  obtain ⟨k, i, s, t, l, f⟩ := v
  simp only [shortV, shortV1, Val.lst, decide_eq_true_eq]
theorem shortV_fields (n : Nat) (v : Val) : (shortV (n + 1) v).fields = if 0 < n then (v.fields.take 6).map (shortF (shortV n)) else [] := by
  obtain ⟨k, i, s, t, l, f⟩ := v
  simp only [shortV, shortV1, Val.fields, decide_eq_true_eq]
theorem shortV_text (n : Nat) (v : Val) : (shortV n v).text = v.text.take 40 := by
  obtain ⟨k, i, s, t, l, f⟩ := v
  cases n <;> simp only [shortV, shortV1, Val.text]
theorem shortF_name (r : Val → Val) (f : Fld) : (shortF r f).name = f.name.take 40 := by
  obtain ⟨a, b⟩ := f; rfl
theorem shortF_value (r : Val → Val) (f : Fld) : (shortF r f).value = r f.value := by
  obtain ⟨a, b⟩ := f; rfl
theorem shortV_dep : ∀ (n : Nat) (v : Val), dep (n + 1) (shortV (n + 1) v)
  | 0, v => by
    simp only [dep]
    rw [shortV_lst, shortV_fields, shortV_text]
    simp; omega
  | n + 1, v => by
    simp only [dep]
    rw [shortV_lst, shortV_fields, shortV_text, if_pos (by omega), if_pos (by omega)]
    refine ⟨by simp; omega, by simp; omega, by simp; omega, ?_, ?_⟩
    · intro x hx
      obtain ⟨y, _, rfl⟩ := List.mem_map.1 hx
      exact shortV_dep n y
    · intro f hf
      obtain ⟨y, _, rfl⟩ := List.mem_map.1 hf
      rw [shortF_name, shortF_value]
      exact ⟨by simp; omega, shortV_dep n _⟩
theorem shortT_fields (n : Nat) (t : Typ) : (shortT (n + 1) t).fields = if 0 < n then (t.fields.take 6).map (shortTF (shortT n)) else [] := by
  obtain ⟨k, a, b, c, w, e, f⟩ := t
  simp only [shortT, shortT1, Typ.fields, decide_eq_true_eq]
theorem shortT_elem (n : Nat) (t : Typ) : (shortT (n + 1) t).elem = if 0 < n then (t.elem.take 2).map (shortT n) else [] := by
  obtain ⟨k, a, b, c, w, e, f⟩ := t
  simp only [shortT, shortT1, Typ.elem, decide_eq_true_eq]
theorem shortT_words (n : Nat) (t : Typ) : (shortT n t).words = (t.words.take 6).map (List.take 40) := by
  obtain ⟨k, a, b, c, w, e, f⟩ := t
  cases n <;> simp only [shortT, shortT1, Typ.words]
theorem shortTF_name (r : Typ → Typ) (f : TFd) : (shortTF r f).name = f.name.take 40 := by
  obtain ⟨a, b, c, d, e⟩ := f; rfl
theorem shortV1_ok (r : Val → Val) (on : Bool) (hr : on = true → ∀ v, v.ok → (r v).ok) (v : Val) (hv : v.ok) : (shortV1 r on v).ok := by
  obtain ⟨k, i, s, t, l, f⟩ := v
  rw [Val.ok_mk] at hv
  obtain ⟨h1, h2, h3, h4, h5, h6, h7, h8⟩ := hv
  rw [shortV1, Val.ok_mk]
  refine ⟨h1, h2, h3, by simp; omega, ?_, ?_, ?_, ?_⟩
  · cases on <;> simp; omega
  · intro x hx
    cases on with
    | false => simp at hx
    | true =>
      simp only [if_true] at hx
      obtain ⟨y, hy, rfl⟩ := List.mem_map.1 hx
      exact hr rfl y (h6 y (List.mem_of_mem_take hy))
  · cases on <;> simp; omega
  · intro x hx
    cases on with
    | false => simp at hx
    | true =>
      simp only [if_true] at hx
      obtain ⟨⟨a, b⟩, hy, rfl⟩ := List.mem_map.1 hx
      have := h8 _ (List.mem_of_mem_take hy)
      rw [Fld.ok_mk] at this
      rw [shortF, Fld.ok_mk]
      exact ⟨by simp; omega, hr rfl _ this.2⟩
theorem shortV_ok : ∀ (n : Nat) (v : Val), v.ok → (shortV n v).ok
  | 0, v, h => shortV1_ok id false (fun h => by cases h) v h
  | n + 1, v, h => shortV1_ok _ _ (fun _ v hv => shortV_ok n v hv) v h
theorem short22 (t : Typ) (v : Val) (ht : t.ok) (hv : v.ok) : Pure Tryd.prog tabG 22 [t.pv, v.pv] (.tup [(shortT 4 t).pv, (shortV 4 v).pv]) := by
  have h27 := shortT_pure 4 (by omega) t ht
  have h36 := shortV_pure 4 (by omega) v hv
  generalize shortT 4 t = T at *
  generalize shortV 4 v = V at *
  obtain ⟨a1, a2, a3, a4, a5, a6, a7⟩ := T
  obtain ⟨b1, b2, b3, b4, b5, b6⟩ := V
  obtain ⟨k, m, M, s, w, e, fs⟩ := t
  obtain ⟨vk, vi, vs, vt, vl, vf⟩ := v
  simp only [Typ.pv_mk, Val.pv_mk] at *
  refine Pure.intro F22_ok (by simp [F22]) ?_
  simp (disch := first | exact dI | fail) only [F22o0, F22o1, F22p1, F22c, F22, push_cast, ↓reduceIte, qa, qb, qc, qd, qe, qf, qg, qh, qi]
  refine callDL_pure h27 rfl ?_
  simp (disch := first | exact dI | fail) only [push_cast, ↓reduceIte, qa, qb, qc, qd, qe, qf, qg, qh, qi]
  refine ACall.pure h36 rfl ?_
  simp (disch := first | exact dI | fail) only [push_cast, ↓reduceIte, qa, qb, qc, qd, qe, qf, qg, qh, qi]
end Go.Proofs.YtikmckfppnmlnaaDoor
