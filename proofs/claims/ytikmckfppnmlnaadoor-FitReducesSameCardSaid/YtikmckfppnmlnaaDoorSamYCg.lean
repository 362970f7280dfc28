/- A part of the proof for FitReducesSameCardSaid. -/
import Derived.Test.YtikmckfppnmlnaaDoorSamYCf
set_option maxRecDepth 100000
set_option linter.unusedVariables false
set_option linter.unusedSimpArgs false
namespace Go.Proofs.YtikmckfppnmlnaaDoor
open Go Go.Ab
open Nat renaming reduceEqDiff → qa, reduceAdd → qb, reduceMul → qc, reduceLeDiff → qd, reduceLT → qe, reduceBEq → qf, reduceSub → qg
open Int renaming reduceToNat → qh, reduceNeg → qi
attribute [local irreducible] vc
theorem com68_bad (t : Typ) (v : Val) (hb : ¬ v.kind = t.kind ∨ formedV v = false) (h1 : v.lst.length ≤ 300) (h2 : v.fields.length ≤ 300) (h3 : v.text.length ≤ 100000) : Pure Tryd.prog tabG 68 [t.pv, v.pv] v.pv := by
  have h84 := formed84 v (by omega) (by omega) (by omega)
  by_cases hk : v.kind = t.kind
  · have hf : formedV v = false := hb.resolve_left (fun h => h hk)
    rw [hf] at h84
    obtain ⟨k, m, M, s, w, el, fs⟩ := t
    obtain ⟨vk, vi, vs, vt, vl, vf⟩ := v
    simp only [Val.kind, Typ.kind] at hk
    subst hk
    simp only [Typ.pv_mk, Val.pv_mk] at *
    refine Pure.intro F68_ok (by simp [F68]) ?_
    simp (disch := first | exact dI | fail) only [F68o0, F68o1, F68o2, F68o3, F68o4, F68o5, F68o6, F68o7, F68o8, F68o9, F68o10, F68o11, F68o12, F68p12, F68o13, F68b14, F68o15, F68c, F68, push_cast, ↓reduceIte, qa, qb, qc, qd, qe, qf, qg, qh, qi]
    refine ACall.pure h84 rfl ?_
    simp (disch := first | exact dI | fail) only [push_cast, ↓reduceIte, qa, qb, qc, qd, qe, qf, qg, qh, qi]
  · obtain ⟨k, m, M, s, w, el, fs⟩ := t
    obtain ⟨vk, vi, vs, vt, vl, vf⟩ := v
    simp only [Val.kind, Typ.kind] at hk
    simp only [Typ.pv_mk, Val.pv_mk] at *
    refine Pure.intro F68_ok (by simp [F68]) ?_
    simp (disch := first | exact dI | fail) only [F68o0, F68o1, F68o2, F68o3, F68o4, F68o5, F68o6, F68o7, F68o8, F68o9, F68o10, F68o11, F68o12, F68p12, F68o13, F68b14, F68o15, F68c, F68, bne_iff_ne, hk, push_cast, ↓reduceIte, qa, qb, qc, qd, qe, qf, qg, qh, qi]
theorem com68_other (t : Typ) (v : Val) (hkt : v.kind = t.kind) (hk : ¬ v.kind = 9) (hf : formedV v = true) (h1 : v.lst.length ≤ 300) (h2 : v.fields.length ≤ 300) (h3 : v.text.length ≤ 100000) (r : Val) (hr : Pure Tryd.prog tabG 99 [t.pv, v.pv, .clo 68 [] []] r.pv) : Pure Tryd.prog tabG 68 [t.pv, v.pv] r.pv := by
  have h84 := formed84 v (by omega) (by omega) (by omega)
  rw [hf] at h84
  obtain ⟨k, m, M, s, w, el, fs⟩ := t
  obtain ⟨vk, vi, vs, vt, vl, vf⟩ := v
  obtain ⟨r1, r2, r3, r4, r5, r6⟩ := r
  simp only [Val.kind, Typ.kind] at hk hkt
  subst hkt
  simp only [Typ.pv_mk, Val.pv_mk] at *
  refine Pure.intro F68_ok (by simp [F68]) ?_
  simp (disch := first | exact dI | fail) only [F68o0, F68o1, F68o2, F68o3, F68o4, F68o5, F68o6, F68o7, F68o8, F68o9, F68o10, F68o11, F68o12, F68p12, F68o13, F68b14, F68o15, F68c, F68, push_cast, ↓reduceIte, qa, qb, qc, qd, qe, qf, qg, qh, qi]
  refine ACall.pure h84 rfl ?_
  simp (disch := first | exact dI | fail) only [hk, push_cast, ↓reduceIte, qa, qb, qc, qd, qe, qf, qg, qh, qi]
  refine ACall.pure hr rfl ?_
  simp (disch := first | exact dI | fail) only [hk, push_cast, ↓reduceIte, qa, qb, qc, qd, qe, qf, qg, qh, qi]
theorem redE_ne {R : Typ → Val → Val} {e : List Typ} (h : ¬ e.length = 1) (x : Val) : redE R e x = x := by
  unfold redE; split
  · exact absurd rfl h
  · rfl
theorem comG : ∀ (n : Nat) (t : Typ) (v : Val), dep n v → tyOk n t → Pure Tryd.prog tabG 68 [t.pv, v.pv] (comN n t v).pv
  | 0, t, v, hd, _ => hd.elim
  | n + 1, t, v, hd, ht => by
    have ih := comG n
    have hd0 := hd
    have ht0 := ht
    simp only [dep] at hd0
    simp only [tyOk] at ht0
    rw [comN_succ]
    by_cases hb : ¬ v.kind = t.kind ∨ formedV v = false
    · rw [com1_bad hb]
      exact com68_bad t v hb hd0.1 hd0.2.1 (by omega)
    · have hkt : v.kind = t.kind := Classical.not_not.1 fun h => hb (.inl h)
      have hf : formedV v = true := by
        cases h : formedV v with
        | true => rfl
        | false => exact absurd (.inr h) hb
      by_cases h9 : v.kind = 9
      · rw [com1_rec hb h9]
        refine com68_rec (comN n) t v hkt h9 hf hd0.1 hd0.2.1 (by omega) ht0.1 fun x hx f hfd => ?_
        have hfm := List.mem_of_find?_eq_some hfd
        exact ih f.typ x.value (hd0.2.2.2.2 x hx).2 (ht0.2.2.2 f hfm).2
      · refine com68_other t v hkt h9 hf hd0.1 hd0.2.1 (by omega) _ ?_
        by_cases h8 : v.kind = 8
        · rw [com1_list hb h8]
          by_cases he : t.elem.length = 1
          · obtain ⟨e, he2⟩ := List.length_eq_one_iff.1 he
            have h1 := inner99_list 68 (comN n) t v e (by omega) he2 hd0.1 fun x hx => ih e x (hd0.2.2.2.1 x hx) (ht0.2.2.1 e (by rw [he2]; simp))
            rw [he2]
            exact h1
          · have h1 := inner99_else 68 t v (fun _ => he) (by omega) (by omega)
            have e2 : Val.mk v.kind v.num v.scale v.text (v.lst.map (redE (comN n) t.elem)) v.fields = v := by
              have e3 : v.lst.map (redE (comN n) t.elem) = v.lst := by
                rw [List.map_congr_left (fun x _ => redE_ne he x), List.map_id']
              rw [e3]
              obtain ⟨vk, vi, vs, vt, vl, vf⟩ := v
              rfl
            rw [e2]; exact h1
        · by_cases h10 : v.kind = 10
          · rw [com1_var hb h10]
            have hl1 := formed10 h10 hf
            refine inner99_var 68 (comN n) t v (by omega) hl1 ht0.1 fun x hx f hfd => ?_
            have hfm := List.mem_of_find?_eq_some hfd
            exact ih f.typ x (hd0.2.2.2.1 x hx) (ht0.2.2.2 f hfm).2
          · rw [com1_else h8 h10 h9]
            exact inner99_else 68 t v (by omega) (by omega) (by omega)
def fl6 : Nat → Val → Prop
  | 0, _ => True
  | n + 1, v => v.fields.length ≤ 6 ∧ (∀ x ∈ v.lst, fl6 n x) ∧ ∀ f ∈ v.fields, fl6 n f.value
def tf6 : Nat → Typ → Prop
  | 0, _ => True
  | n + 1, t => t.fields.length ≤ 6 ∧ (∀ e ∈ t.elem, tf6 n e) ∧ ∀ f ∈ t.fields, tf6 n f.typ
theorem dep_up : ∀ (n m : Nat) (v : Val), dep n v → dep (n + m) v
  | 0, m, v, h => h.elim
  | n + 1, m, v, h => by
    have ih := dep_up n m
    rw [show n + 1 + m = (n + m) + 1 by omega]
    simp only [dep] at h ⊢
    exact ⟨h.1, h.2.1, h.2.2.1, fun x hx => ih x (h.2.2.2.1 x hx), fun f hf => ⟨(h.2.2.2.2 f hf).1, ih _ (h.2.2.2.2 f hf).2⟩⟩
theorem dep_mk {n : Nat} {k i s : Int} {x : List UInt8} {l : List Val} {f : List Fld} : dep (n + 1) (.mk k i s x l f) = (l.length ≤ 300 ∧ f.length ≤ 300 ∧ x.length ≤ 100 ∧ (∀ x ∈ l, dep n x) ∧ ∀ g ∈ f, g.name.length ≤ 100 ∧ dep n g.value) := rfl
theorem Val.ok_all {v : Val} (h : v.ok) : I64 v.kind ∧ I64 v.num ∧ I64 v.scale ∧ v.text.length ≤ 140737488351232 ∧ v.lst.length * 88 ≤ 140737488351232 ∧ (∀ x ∈ v.lst, x.ok) ∧ v.fields.length * 104 ≤ 140737488351232 ∧ (∀ x ∈ v.fields, x.ok) := by
  obtain ⟨vk, vi, vs, vt, vl, vf⟩ := v
  rw [Val.ok_mk] at h
  exact h
theorem comN_dep : ∀ (n : Nat) (t : Typ) (v : Val), dep n v → fl6 n v → tyOk n t → tf6 n t → tyD n t → dep (n + 3) (comN n t v)
  | 0, t, v, hd, _, _, _, _ => hd.elim
  | n + 1, t, v, hd, h6, ht, t6, hD => by
    have ih := comN_dep n
    have hup := dep_up (n + 1) 3 v hd
    have hd0 := hd
    simp only [dep] at hd0
    simp only [fl6] at h6
    simp only [tyOk] at ht
    simp only [tf6] at t6
    simp only [tyD] at hD
    rw [comN_succ]
    by_cases hb : ¬ v.kind = t.kind ∨ formedV v = false
    · rw [com1_bad hb]; exact hup
    · by_cases h8 : v.kind = 8
      · rw [com1_list hb h8, show n + 1 + 3 = (n + 3) + 1 by omega, dep_mk]
        rw [show n + 1 + 3 = (n + 3) + 1 by omega] at hup
        simp only [dep] at hup
        refine ⟨by simpa using hd0.1, hup.2.1, hup.2.2.1, fun x hx => ?_, hup.2.2.2.2⟩
        obtain ⟨y, hy, rfl⟩ := List.mem_map.1 hx
        unfold redE
        split
        · rename_i e he
          exact ih e y (hd0.2.2.2.1 y hy) (h6.2.1 y hy) (ht.2.2.1 e (by rw [he]; simp)) (t6.2.1 e (by rw [he]; simp)) (hD.2 e (by rw [he]; simp))
        · exact hup.2.2.2.1 y hy
      · by_cases h10 : v.kind = 10
        · rw [com1_var hb h10, show n + 1 + 3 = (n + 3) + 1 by omega, dep_mk]
          rw [show n + 1 + 3 = (n + 3) + 1 by omega] at hup
          simp only [dep] at hup
          have hf : formedV v = true := by
            cases h : formedV v with
            | true => rfl
            | false => exact absurd (.inr h) hb
          obtain ⟨y, hy⟩ := List.length_eq_one_iff.1 (formed10 h10 hf)
          unfold redC
          split
          · rename_i c hc
            have hfm := List.mem_of_find?_eq_some hc
            refine ⟨by simp, hup.2.1, hup.2.2.1, fun x hx => ?_, hup.2.2.2.2⟩
            rw [hy] at hx
            simp only [List.headD_cons, List.mem_singleton] at hx
            subst hx
            exact ih c.typ y (hd0.2.2.2.1 y (by rw [hy]; simp)) (h6.2.1 y (by rw [hy]; simp)) (ht.2.2.2 c hfm).2 (t6.2.2 c hfm) (hD.1 c hfm).2
          · exact hup
        · by_cases h9 : v.kind = 9
          · rw [com1_rec hb h9, show n + 1 + 3 = (n + 3) + 1 by omega, dep_mk]
            rw [show n + 1 + 3 = (n + 3) + 1 by omega] at hup
            simp only [dep] at hup
            have hln := insA_len t.fields (v.fields.map (redF (comN n) t.fields))
            rw [List.length_map] at hln
            refine ⟨hup.1, by omega, hup.2.2.1, hup.2.2.2.1, fun x hx => ?_⟩
            rcases insA_mem _ _ hx with hx | ⟨f, hf, d, hdf, rfl⟩
            · obtain ⟨y, hy, rfl⟩ := List.mem_map.1 hx
              rw [redF_name]
              refine ⟨(hd0.2.2.2.2 y hy).1, ?_⟩
              cases hfd : t.fields.find? (named y.name) with
              | none =>
                have e : redF (comN n) t.fields y = y := by unfold redF; rw [hfd]
                rw [e]; exact (hup.2.2.2.2 y hy).2
              | some f =>
                rw [redF_some hfd]
                have hfm := List.mem_of_find?_eq_some hfd
                exact ih f.typ y.value (hd0.2.2.2.2 y hy).2 (h6.2.2 y hy) (ht.2.2.2 f hfm).2 (t6.2.2 f hfm) (hD.1 f hfm).2
            · refine ⟨(ht.2.2.2 f hf).1, ?_⟩
              have h3 := ((hD.1 f hf).1 d (by rw [(dfl_mem hdf).2]; simp)).1
              have := dep_up 3 n d h3
              rwa [Nat.add_comm] at this
          · rw [com1_else h8 h10 h9]; exact hup
theorem comN_ok : ∀ (n : Nat) (t : Typ) (v : Val), dep n v → fl6 n v → tf6 n t → tyD n t → tyOk n t → v.ok → (comN n t v).ok
  | 0, t, v, hd, _, _, _, _, _ => hd.elim
  | n + 1, t, v, hd, h6, t6, hD, ht, hv => by
    have ih := comN_ok n
    have hd0 := hd
    have hv0 := hv
    simp only [dep] at hd0
    simp only [fl6] at h6
    simp only [tf6] at t6
    simp only [tyD] at hD
    simp only [tyOk] at ht
    rw [comN_succ]
    by_cases hb : ¬ v.kind = t.kind ∨ formedV v = false
    · rw [com1_bad hb]; exact hv
    · obtain ⟨q1, q2, q3, q4, q5, q6, q7, q8⟩ := Val.ok_all hv
      by_cases h8 : v.kind = 8
      · rw [com1_list hb h8, Val.ok_mk]
        refine ⟨q1, q2, q3, q4, by simpa using q5, fun x hx => ?_, q7, q8⟩
        obtain ⟨y, hy, rfl⟩ := List.mem_map.1 hx
        unfold redE
        split
        · rename_i e he
          exact ih e y (hd0.2.2.2.1 y hy) (h6.2.1 y hy) (t6.2.1 e (by rw [he]; simp)) (hD.2 e (by rw [he]; simp)) (ht.2.2.1 e (by rw [he]; simp)) (q6 y hy)
        · exact q6 y hy
      · by_cases h10 : v.kind = 10
        · have hf : formedV v = true := by
            cases h : formedV v with
            | true => rfl
            | false => exact absurd (.inr h) hb
          obtain ⟨y, hy⟩ := List.length_eq_one_iff.1 (formed10 h10 hf)
          rw [com1_var hb h10, Val.ok_mk]
          unfold redC
          split
          · rename_i c hc
            have hfm := List.mem_of_find?_eq_some hc
            refine ⟨q1, q2, q3, q4, by simp, fun x hx => ?_, q7, q8⟩
            rw [hy] at hx
            simp only [List.headD_cons, List.mem_singleton] at hx
            subst hx
            exact ih c.typ y (hd0.2.2.2.1 y (by rw [hy]; simp)) (h6.2.1 y (by rw [hy]; simp)) (t6.2.2 c hfm) (hD.1 c hfm).2 (ht.2.2.2 c hfm).2 (q6 y (by rw [hy]; simp))
          · exact ⟨q1, q2, q3, q4, q5, q6, q7, q8⟩
        · by_cases h9 : v.kind = 9
          · rw [com1_rec hb h9, Val.ok_mk]
            have hln := insA_len t.fields (v.fields.map (redF (comN n) t.fields))
            rw [List.length_map] at hln
            refine ⟨q1, q2, q3, q4, q5, q6, by omega, fun x hx => ?_⟩
            rcases insA_mem _ _ hx with hx | ⟨f, hf, d, hdf, rfl⟩
            · obtain ⟨y, hy, rfl⟩ := List.mem_map.1 hx
              have hyo := q8 y hy
              unfold redF
              split
              · rename_i f hfd
                have hfm := List.mem_of_find?_eq_some hfd
                have h1 := hd0.2.2.2.2 y hy
                have h2 := h6.2.2 y hy
                obtain ⟨a, b⟩ := y
                rw [Fld.ok_mk] at hyo ⊢
                exact ⟨hyo.1, ih f.typ b h1.2 h2 (t6.2.2 f hfm) (hD.1 f hfm).2 (ht.2.2.2 f hfm).2 hyo.2⟩
              · exact hyo
            · rw [Fld.ok_mk]
              exact ⟨by have := (ht.2.2.2 f hf).1; omega, ((hD.1 f hf).1 d (by rw [(dfl_mem hdf).2]; simp)).2⟩
          · rw [com1_else h8 h10 h9]; exact hv0
end Go.Proofs.YtikmckfppnmlnaaDoor
