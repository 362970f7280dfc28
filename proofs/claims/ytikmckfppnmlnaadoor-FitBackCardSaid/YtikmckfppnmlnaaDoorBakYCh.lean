/- A part of the proof for FitBackCardSaid. -/
import Derived.Test.YtikmckfppnmlnaaDoorBakYCg
set_option maxRecDepth 100000
set_option linter.unusedVariables false
set_option linter.unusedSimpArgs false
namespace Go.Proofs.YtikmckfppnmlnaaDoor
open Go Go.Ab
open Nat renaming reduceEqDiff → qa, reduceAdd → qb, reduceMul → qc, reduceLeDiff → qd, reduceLT → qe, reduceBEq → qf, reduceSub → qg
open Int renaming reduceToNat → qh, reduceNeg → qi
attribute [local irreducible] vc
theorem shortT_tyN : ∀ (m n : Nat) (t : Typ), tyOk m (shortT (n + 1) t)
  | 0, _, _ => trivial
  | m + 1, n, t => by
    simp only [tyOk]
    rw [shortT_fields, shortT_elem, shortT_words]
    cases n with
    | zero => simp; omega
    | succ n =>
      rw [if_pos (by omega), if_pos (by omega)]
      refine ⟨by simp; omega, by simp; omega, ?_, ?_⟩
      · intro x hx
        obtain ⟨y, _, rfl⟩ := List.mem_map.1 hx
        exact shortT_tyN m n y
      · intro f hf
        obtain ⟨y, _, rfl⟩ := List.mem_map.1 hf
        rw [shortTF_name, shortTF_typ]
        exact ⟨by simp; omega, shortT_tyN m n _⟩
theorem Typ.ok_in {t : Typ} (h : t.ok) : (∀ e ∈ t.elem, e.ok) ∧ ∀ f ∈ t.fields, (∀ d ∈ f.dflt, d.ok) ∧ f.typ.ok := by
  obtain ⟨k, a, b, c, w, e, f⟩ := t
  rw [Typ.ok_mk] at h
  refine ⟨h.2.2.2.2.2.2.2.1, fun x hx => ?_⟩
  have := h.2.2.2.2.2.2.2.2.2 x hx
  obtain ⟨a, b, c, d, e⟩ := x
  rw [TFd.ok_mk] at this
  exact ⟨this.2.2.2.2.2, this.2.2.2.1⟩
theorem shortT_tyDN : ∀ (m n : Nat) (t : Typ), t.ok → tyD m (shortT (n + 1) t)
  | 0, _, _, _ => trivial
  | m + 1, n, t, h => by
    obtain ⟨he, hd⟩ := Typ.ok_in h
    simp only [tyD]
    rw [shortT_fields, shortT_elem]
    cases n with
    | zero => simp
    | succ n =>
      rw [if_pos (by omega), if_pos (by omega)]
      refine ⟨fun x hx => ?_, fun x hx => ?_⟩
      · obtain ⟨y, hy, rfl⟩ := List.mem_map.1 hx
        have hym := hd y (List.mem_of_mem_take hy)
        rw [shortTF_typ, shortTF_dflt]
        refine ⟨fun d hdm => ?_, shortT_tyDN m n _ hym.2⟩
        obtain ⟨z, hz, rfl⟩ := List.mem_map.1 hdm
        exact ⟨shortV_dep 2 z, shortV_ok 3 z (hym.1 z (List.mem_of_mem_take hz))⟩
      · obtain ⟨y, hy, rfl⟩ := List.mem_map.1 hx
        exact shortT_tyDN m n y (he y (List.mem_of_mem_take hy))
theorem complete35 (n : Nat) (t : Typ) (v C : Val) (hd : dep n v) (ht : tyOk n t) (hC : comN n t v = C) (m : Nat) (hdC : dep m C) (htm : tyOk m t) (hoC : C.ok) (hm : m ≤ 400) (h : missN m t C [] = []) : Pure Tryd.prog tabG 35 [t.pv, v.pv] (.tup [C.pv, .int .i64 0]) := by
  have h26 := fits26 m t C hdC htm hoC hm
  have h68 := comG n t v hd ht
  have h66 := cloneV_ok _ C (Nat.lt_succ_self _) hoC
  rw [hC] at h68
  rw [h, List.isEmpty_nil] at h26
  clear hC
  obtain ⟨k, a, M, s, w, e, fs⟩ := t
  obtain ⟨vk, vi, vs, vt, vl, vf⟩ := v
  obtain ⟨r1, r2, r3, r4, r5, r6⟩ := C
  simp only [Typ.pv_mk, Val.pv_mk] at *
  refine Pure.intro F35_ok (by simp [F35]) ?_
  simp (disch := first | exact dI | fail) only [F35o0, F35o1, F35o2, F35o3, F35o4, F35c, F35, push_cast, ↓reduceIte, qa, qb, qc, qd, qe, qf, qg, qh, qi]
  refine ACall.pure h68 rfl ?_
  simp (disch := first | exact dI | fail) only [push_cast, ↓reduceIte, qa, qb, qc, qd, qe, qf, qg, qh, qi]
  refine ACall.pure h26 rfl ?_
  simp (disch := first | exact dI | fail) only [push_cast, ↓reduceIte, qa, qb, qc, qd, qe, qf, qg, qh, qi]
  refine ACall.pure h66 rfl ?_
  simp (disch := first | exact dI | fail) only [push_cast, ↓reduceIte, qa, qb, qc, qd, qe, qf, qg, qh, qi]
end Go.Proofs.YtikmckfppnmlnaaDoor
