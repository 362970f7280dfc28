/- A part of the proof for FitBackCardSaid. -/
import Derived.Test.YtikmckfppnmlnaaDoorBakYCf
set_option maxRecDepth 100000
set_option linter.unusedVariables false
set_option linter.unusedSimpArgs false
namespace Go.Proofs.YtikmckfppnmlnaaDoor
open Go Go.Ab
open Nat renaming reduceEqDiff → qa, reduceAdd → qb, reduceMul → qc, reduceLeDiff → qd, reduceLT → qe, reduceBEq → qf, reduceSub → qg
open Int renaming reduceToNat → qh, reduceNeg → qi
attribute [local irreducible] vc
theorem com68_bad (t : Typ) (v : Val) (hb : ¬ v.kind = t.kind ∨ formedV v = false) (h1 : v.lst.length ≤ 300) (h2 : v.fields.length ≤ 300) (h3 : v.text.length ≤ 100000) : Pure Tryd.prog tabG 68 [t.pv, v.pv] v.pv := by
  have h84 := formed84 v (by omega) (by omega) (by omega)
  by_cases hk : v.kind = t.kind
  · have hf : formedV v = false := hb.resolve_left (fun h => h hk)
    rw [hf] at h84
    obtain ⟨k, m, M, s, w, el, fs⟩ := t
    obtain ⟨vk, vi, vs, vt, vl, vf⟩ := v
    simp only [Val.kind, Typ.kind] at hk
    subst hk
    simp only [Typ.pv_mk, Val.pv_mk] at *
    refine Pure.intro F68_ok (by simp [F68]) ?_
    simp (disch := first | exact dI | fail) only [F68o0, F68o1, F68o2, F68o3, F68o4, F68o5, F68o6, F68o7, F68o8, F68o9, F68o10, F68o11, F68o12, F68p12, F68o13, F68b14, F68o15, F68c, F68, push_cast, ↓reduceIte, qa, qb, qc, qd, qe, qf, qg, qh, qi]
    refine ACall.pure h84 rfl ?_
    simp (disch := first | exact dI | fail) only [push_cast, ↓reduceIte, qa, qb, qc, qd, qe, qf, qg, qh, qi]
  · obtain ⟨k, m, M, s, w, el, fs⟩ := t
    obtain ⟨vk, vi, vs, vt, vl, vf⟩ := v
    simp only [Val.kind, Typ.kind] at hk
    simp only [Typ.pv_mk, Val.pv_mk] at *
    refine Pure.intro F68_ok (by simp [F68]) ?_
    simp (disch := first | exact dI | fail) only [F68o0, F68o1, F68o2, F68o3, F68o4, F68o5, F68o6, F68o7, F68o8, F68o9, F68o10, F68o11, F68o12, F68p12, F68o13, F68b14, F68o15, F68c, F68, bne_iff_ne, hk, push_cast, ↓reduceIte, qa, qb, qc, qd, qe, qf, qg, qh, qi]
theorem com68_other (t : Typ) (v : Val) (hkt : v.kind = t.kind) (hk : ¬ v.kind = 9) (hf : formedV v = true) (h1 : v.lst.length ≤ 300) (h2 : v.fields.length ≤ 300) (h3 : v.text.length ≤ 100000) (r : Val) (hr : Pure Tryd.prog tabG 99 [t.pv, v.pv, .clo 68 [] []] r.pv) : Pure Tryd.prog tabG 68 [t.pv, v.pv] r.pv := by
  have h84 := formed84 v (by omega) (by omega) (by omega)
  rw [hf] at h84
  obtain ⟨k, m, M, s, w, el, fs⟩ := t
  obtain ⟨vk, vi, vs, vt, vl, vf⟩ := v
  obtain ⟨r1, r2, r3, r4, r5, r6⟩ := r
  simp only [Val.kind, Typ.kind] at hk hkt
  subst hkt
  simp only [Typ.pv_mk, Val.pv_mk] at *
  refine Pure.intro F68_ok (by simp [F68]) ?_
  simp (disch := first | exact dI | fail) only [F68o0, F68o1, F68o2, F68o3, F68o4, F68o5, F68o6, F68o7, F68o8, F68o9, F68o10, F68o11, F68o12, F68p12, F68o13, F68b14, F68o15, F68c, F68, push_cast, ↓reduceIte, qa, qb, qc, qd, qe, qf, qg, qh, qi]
  refine ACall.pure h84 rfl ?_
  simp (disch := first | exact dI | fail) only [hk, push_cast, ↓reduceIte, qa, qb, qc, qd, qe, qf, qg, qh, qi]
  refine ACall.pure hr rfl ?_
  simp (disch := first | exact dI | fail) only [hk, push_cast, ↓reduceIte, qa, qb, qc, qd, qe, qf, qg, qh, qi]
theorem redE_ne {R : Typ → Val → Val} {e : List Typ} (h : ¬ e.length = 1) (x : Val) : redE R e x = x := by
  unfold redE; split
  · exact absurd rfl h
  · rfl
theorem comG : ∀ (n : Nat) (t : Typ) (v : Val), dep n v → tyOk n t → Pure Tryd.prog tabG 68 [t.pv, v.pv] (comN n t v).pv
  | 0, t, v, hd, _ => hd.elim
  | n + 1, t, v, hd, ht => by
    have ih := comG n
    have hd0 := hd
    have ht0 := ht
    simp only [dep] at hd0
    simp only [tyOk] at ht0
    rw [comN_succ]
    by_cases hb : ¬ v.kind = t.kind ∨ formedV v = false
    · rw [com1_bad hb]
      exact com68_bad t v hb hd0.1 hd0.2.1 (by omega)
    · have hkt : v.kind = t.kind := Classical.not_not.1 fun h => hb (.inl h)
      have hf : formedV v = true := by
        cases h : formedV v with
        | true => rfl
        | false => exact absurd (.inr h) hb
      by_cases h9 : v.kind = 9
      · rw [com1_rec hb h9]
        refine com68_rec (comN n) t v hkt h9 hf hd0.1 hd0.2.1 (by omega) ht0.1 fun x hx f hfd => ?_
        have hfm := List.mem_of_find?_eq_some hfd
        exact ih f.typ x.value (hd0.2.2.2.2 x hx).2 (ht0.2.2.2 f hfm).2
      · refine com68_other t v hkt h9 hf hd0.1 hd0.2.1 (by omega) _ ?_
        by_cases h8 : v.kind = 8
        · rw [com1_list hb h8]
          by_cases he : t.elem.length = 1
          · obtain ⟨e, he2⟩ := List.length_eq_one_iff.1 he
            have h1 := inner99_list 68 (comN n) t v e (by omega) he2 hd0.1 fun x hx => ih e x (hd0.2.2.2.1 x hx) (ht0.2.2.1 e (by rw [he2]; simp))
            rw [he2]
            exact h1
          · have h1 := inner99_else 68 t v (fun _ => he) (by omega) (by omega)
            have e2 : Val.mk v.kind v.num v.scale v.text (v.lst.map (redE (comN n) t.elem)) v.fields = v := by
              have e3 : v.lst.map (redE (comN n) t.elem) = v.lst := by
                rw [List.map_congr_left (fun x _ => redE_ne he x), List.map_id']
              rw [e3]
              obtain ⟨vk, vi, vs, vt, vl, vf⟩ := v
              rfl
            rw [e2]; exact h1
        · by_cases h10 : v.kind = 10
          · rw [com1_var hb h10]
            have hl1 := formed10 h10 hf
            refine inner99_var 68 (comN n) t v (by omega) hl1 ht0.1 fun x hx f hfd => ?_
            have hfm := List.mem_of_find?_eq_some hfd
            exact ih f.typ x (hd0.2.2.2.1 x hx) (ht0.2.2.2 f hfm).2
          · rw [com1_else h8 h10 h9]
            exact inner99_else 68 t v (by omega) (by omega) (by omega)
theorem dep_mk {n : Nat} {k i s : Int} {x : List UInt8} {l : List Val} {f : List Fld} : dep (n + 1) (.mk k i s x l f) = (l.length ≤ 300 ∧ f.length ≤ 300 ∧ x.length ≤ 100 ∧ (∀ x ∈ l, dep n x) ∧ ∀ g ∈ f, g.name.length ≤ 100 ∧ dep n g.value) := rfl
end Go.Proofs.YtikmckfppnmlnaaDoor
