/- A part of the proof for FitBackCardSaid. -/
import Derived.Test.YtikmckfppnmlnaaDoorBakYRf
set_option maxRecDepth 100000
set_option linter.unusedVariables false
set_option linter.unusedSimpArgs false
namespace Go.Proofs.YtikmckfppnmlnaaDoor
open Go Go.Ab
open Nat renaming reduceEqDiff → qa, reduceAdd → qb, reduceMul → qc, reduceLeDiff → qd, reduceLT → qe, reduceBEq → qf, reduceSub → qg
open Int renaming reduceToNat → qh, reduceNeg → qi
attribute [local irreducible] vc
set_option maxHeartbeats 4000000 in
theorem red67_rec (n : Nat) (ih : RedG n) (t : Typ) (v : Val) (p : List UInt8) (hd : dep (n + 1) v) (ht : tyOk (n + 1) t) (hD : tyD (n + 1) t) (hv : v.ok) (hm : missN (n + 1) t v p = []) (hk : v.kind = 9) : Pure Tryd.prog tabG 67 [t.pv, v.pv] (redN (n + 1) t v).pv := by
  rw [missN_succ] at hm
  obtain ⟨hg, hf⟩ := fit_kind hm
  rw [miss1_rec hg hf (by omega)] at hm
  have hup := formed9 hk hf
  have hfit := fun x hx => fit_field hup hm (x := x) hx
  have hd0 := hd
  simp only [dep] at hd0
  have h84 := formed84 v (by omega) (by omega) (by omega)
  rw [hf] at h84
  have hkt : v.kind = t.kind := by omega
  rw [redN_succ, red1_rec hk]
  have hvo : ∀ x ∈ v.fields, x.ok := by
    obtain ⟨vk, vi, vs, vt, vl, vf⟩ := v
    rw [Val.ok_mk] at hv
    exact hv.2.2.2.2.2.2.2
  have hvv : ∀ x ∈ v.fields, x.value.ok := fun x hx => by
    have := hvo x hx
    obtain ⟨a, b⟩ := x
    rw [Fld.ok_mk] at this
    exact this.2
  have htf : t.fields.length ≤ 300 := by simp only [tyOk] at ht; omega
  have hdf : ∀ f ∈ t.fields, ∀ d ∈ f.dflt, dep 3 d ∧ d.ok := fun f hfm => by simp only [tyD] at hD; exact (hD.1 f hfm).1
  have h96 := clone96 v.fields (by omega)
  have h95 := delete95 v.fields 97 [.eptr [t.pv] 0 0] (delB 3 t.fields) (fun x hx => clo97 t x 3 htf hdf (hvo x hx)) (by omega)
  have hkl : (keptF (delB 3 t.fields) v.fields).length ≤ v.fields.length := List.length_filter_le _ _
  have hin : Pure Tryd.prog tabG 99 [t.pv, (Val.mk v.kind v.num v.scale v.text v.lst (keptF (delB 3 t.fields) v.fields)).pv, .clo 67 [] []] (Val.mk v.kind v.num v.scale v.text v.lst ((keptF (delB 3 t.fields) v.fields).map (redF (redN n) t.fields))).pv := inner99_rec 67 (redN n) t (.mk v.kind v.num v.scale v.text v.lst (keptF (delB 3 t.fields) v.fields)) (by omega) (by have := hd0.2.1; exact Nat.le_trans hkl this) htf (fun x hx f hfd => by
    simp only [Val.fields, keptF] at hx
    have hxm := (List.mem_filter.1 hx).1
    obtain ⟨f', hf1, hf2, hf3⟩ := hfit x hxm
    rw [hf1] at hfd
    cases hfd
    simp only [tyOk] at ht
    simp only [tyD] at hD
    exact ih f.typ x.value _ (hd0.2.2.2.2 x hxm).2 (ht.2.2.2 f hf2).2 (hD.1 f hf2).2 (hvv x hxm) hf3)
  have hkp : (v.fields.filter fun x => !delB 3 t.fields x) = keptF (delB 3 t.fields) v.fields := rfl
  rw [hkp]
  obtain ⟨K, hK⟩ : ∃ K, keptF (delB 3 t.fields) v.fields = K := ⟨_, rfl⟩
  rw [hK] at h95 hkl hin ⊢
  obtain ⟨Z, hZ⟩ : ∃ Z, K.map (redF (redN n) t.fields) = Z := ⟨_, rfl⟩
  rw [hZ] at hin ⊢
  clear hK hZ hkp
  obtain ⟨k, m, M, s, w, el, fs⟩ := t
  obtain ⟨vk, vi, vs, vt, vl, vf⟩ := v
  simp only [Val.kind, Typ.kind, Val.num, Val.scale, Val.text, Val.lst, Val.fields] at *
  subst hk hkt
  simp only [Typ.pv_mk, Val.pv_mk] at *
  refine Pure.intro F1067_ok (by simp [F1067]) ?_
  simp (disch := first | exact dI | fail) only [F1067o0, F1067o1, F1067o2, F1067o3, F1067o4, F1067o5, F1067c, F1067, push_cast, ↓reduceIte, qa, qb, qc, qd, qe, qf, qg, qh, qi]
  refine ACall.pure h84 rfl ?_
  simp (disch := first | exact dI | fail) only [push_cast, ↓reduceIte, qa, qb, qc, qd, qe, qf, qg, qh, qi]
  refine ACall.lentK h96 [] rfl (by simp (disch := first | exact dI | fail) only [push_cast, ↓reduceIte, qa, qb, qc, qd, qe, qf, qg, qh, qi]) (by simp (disch := first | exact dI | fail) only [push_cast, ↓reduceIte, qa, qb, qc, qd, qe, qf, qg, qh, qi]) ?_
  simp (disch := first | exact dI | fail) only [push_cast, ↓reduceIte, qa, qb, qc, qd, qe, qf, qg, qh, qi]
  refine ACall.lentK h95 [8] rfl (by simp (disch := first | exact dI | fail) only [push_cast, ↓reduceIte, qa, qb, qc, qd, qe, qf, qg, qh, qi]) (by simp (disch := first | exact dI | fail) only [push_cast, ↓reduceIte, qa, qb, qc, qd, qe, qf, qg, qh, qi]) ?_
  simp (disch := first | exact dI | fail) only [frzF, push_cast, ↓reduceIte, qa, qb, qc, qd, qe, qf, qg, qh, qi]
  refine ACall.pure hin rfl ?_
  simp (disch := first | exact dI | fail) only [push_cast, ↓reduceIte, qa, qb, qc, qd, qe, qf, qg, qh, qi]
end Go.Proofs.YtikmckfppnmlnaaDoor
