/- A part of the proof for FitReducesCardSaid. -/
import Derived.Test.YtikmckfppnmlnaaDoorRedYP
set_option maxRecDepth 100000
set_option linter.unusedVariables false
set_option linter.unusedSimpArgs false
namespace Go.Proofs.YtikmckfppnmlnaaDoor
open Go Go.Ab
open Nat renaming reduceEqDiff → qa, reduceAdd → qb, reduceMul → qc, reduceLeDiff → qd, reduceLT → qe, reduceBEq → qf, reduceSub → qg
open Int renaming reduceToNat → qh, reduceNeg → qi
attribute [local irreducible] vc
set_option maxHeartbeats 4000000 in
theorem all24_kind (n : Nat) (ih : AllR n) (hB : bnd n ≤ 216000000) (t : Typ) (v : Val) (p : List UInt8) (hd : dep (n + 1) v) (ht : tyOk (n + 1) t) (hv : v.ok) (hp : p.length + 200 * (n + 1) ≤ 100000) (h : t.kind < 1 ∨ 10 < t.kind ∨ ¬ v.kind = t.kind) : Pure Tryd.prog tabG 24 [t.pv, v.pv, .str p] (.list ((missN (n + 1) t v p).map Mis.pv)) := by
  have hd0 := hd
  simp only [dep] at hd0
  have h57 := formed57 v (by omega) (by omega) (by omega)
  have h60 := fields60 n ih hB t v p hd ht hv hp
  have h59 := elements59 n ih hB t v p hd ht hv hp
  have h58 := has58 t.words v.text (by have := ht; simp only [tyOk] at this; omega)
  have h61 := typeField61 t v.text (by have := ht; simp only [tyOk] at this; omega)
  have hvo := hv
  rw [missN_succ, miss1_kind h]
  obtain ⟨k, m, M, s, w, e, fs⟩ := t
  obtain ⟨vk, vi, vs, vt, vl, vf⟩ := v
  simp only [dep, tyOk, Val.lst, Val.fields, Val.text, Typ.fields, Typ.words, Typ.elem, Typ.kind, Val.kind, Typ.min, Typ.max, Typ.scale, Val.num, Val.scale] at *
  obtain ⟨d1, d2, d3, d4, d5⟩ := hd
  obtain ⟨t1, t2, t3, t4⟩ := ht
  refine Pure.intro F24_ok (by simp [F24]) ?_
  rw [Typ.pv_mk, Val.pv_mk] at *
  by_cases a : k < 1
  · simp (disch := first | exact dI | fail) only [F24o0, F24o1, F24o2, F24o3, F24o4, F24o5, F24o6, F24o7, F24o8, F24o9, F24o10, F24o11, F24o12, F24o13, F24o14, F24o15, F24o16, F24o17, F24o18, F24o19, F24o20, F24o21, F24o22, F24o23, F24o24, F24o25, F24o26, F24o27, F24o28, F24o29, F24o30, F24o31, F24o32, F24o33, F24p33, F24o34, F24c, F24, a, List.map_cons, List.map_nil, Mis.pv_mk, push_cast, ↓reduceIte, qa, qb, qc, qd, qe, qf, qg, qh, qi]
  · by_cases b : 10 < k
    · simp (disch := first | exact dI | fail) only [F24o0, F24o1, F24o2, F24o3, F24o4, F24o5, F24o6, F24o7, F24o8, F24o9, F24o10, F24o11, F24o12, F24o13, F24o14, F24o15, F24o16, F24o17, F24o18, F24o19, F24o20, F24o21, F24o22, F24o23, F24o24, F24o25, F24o26, F24o27, F24o28, F24o29, F24o30, F24o31, F24o32, F24o33, F24p33, F24o34, F24c, F24, a, b, List.map_cons, List.map_nil, Mis.pv_mk, push_cast, ↓reduceIte, qa, qb, qc, qd, qe, qf, qg, qh, qi]
    · have c : ¬ vk = k := by omega
      simp (disch := first | exact dI | fail) only [F24o0, F24o1, F24o2, F24o3, F24o4, F24o5, F24o6, F24o7, F24o8, F24o9, F24o10, F24o11, F24o12, F24o13, F24o14, F24o15, F24o16, F24o17, F24o18, F24o19, F24o20, F24o21, F24o22, F24o23, F24o24, F24o25, F24o26, F24o27, F24o28, F24o29, F24o30, F24o31, F24o32, F24o33, F24p33, F24o34, F24c, F24, a, b, c, List.map_cons, List.map_nil, Mis.pv_mk, push_cast, ↓reduceIte, qa, qb, qc, qd, qe, qf, qg, qh, qi]
set_option maxHeartbeats 4000000 in
theorem all24_bad (n : Nat) (ih : AllR n) (hB : bnd n ≤ 216000000) (t : Typ) (v : Val) (p : List UInt8) (hd : dep (n + 1) v) (ht : tyOk (n + 1) t) (hv : v.ok) (hp : p.length + 200 * (n + 1) ≤ 100000) (h : ¬ (t.kind < 1 ∨ 10 < t.kind ∨ ¬ v.kind = t.kind)) (hf : formedV v = false) : Pure Tryd.prog tabG 24 [t.pv, v.pv, .str p] (.list ((missN (n + 1) t v p).map Mis.pv)) := by
  have hd0 := hd
  simp only [dep] at hd0
  have h57 := formed57 v (by omega) (by omega) (by omega)
  have h60 := fields60 n ih hB t v p hd ht hv hp
  have h59 := elements59 n ih hB t v p hd ht hv hp
  have h58 := has58 t.words v.text (by have := ht; simp only [tyOk] at this; omega)
  have h61 := typeField61 t v.text (by have := ht; simp only [tyOk] at this; omega)
  have hvo := hv
  rw [missN_succ, miss1_bad h hf]
  obtain ⟨k, m, M, s, w, e, fs⟩ := t
  obtain ⟨vk, vi, vs, vt, vl, vf⟩ := v
  simp only [dep, tyOk, Val.lst, Val.fields, Val.text, Typ.fields, Typ.words, Typ.elem, Typ.kind, Val.kind, Typ.min, Typ.max, Typ.scale, Val.num, Val.scale] at *
  obtain ⟨d1, d2, d3, d4, d5⟩ := hd
  obtain ⟨t1, t2, t3, t4⟩ := ht
  refine Pure.intro F24_ok (by simp [F24]) ?_
  rw [Typ.pv_mk, Val.pv_mk] at *
  have a : ¬ k < 1 := by omega
  have b : ¬ 10 < k := by omega
  have c : vk = k := by omega
  subst c
  rw [hf] at h57
  simp (disch := first | exact dI | fail) only [F24o0, F24o1, F24o2, F24o3, F24o4, F24o5, F24o6, F24o7, F24o8, F24o9, F24o10, F24o11, F24o12, F24o13, F24o14, F24o15, F24o16, F24o17, F24o18, F24o19, F24o20, F24o21, F24o22, F24o23, F24o24, F24o25, F24o26, F24o27, F24o28, F24o29, F24o30, F24o31, F24o32, F24o33, F24p33, F24o34, F24c, F24, a, b, push_cast, ↓reduceIte, qa, qb, qc, qd, qe, qf, qg, qh, qi]
  refine ACall.pure h57 rfl ?_
  simp (disch := first | exact dI | fail) only [List.map_cons, List.map_nil, Mis.pv_mk, push_cast, ↓reduceIte, qa, qb, qc, qd, qe, qf, qg, qh, qi]
set_option maxHeartbeats 4000000 in
theorem all24_2 (n : Nat) (ih : AllR n) (hB : bnd n ≤ 216000000) (t : Typ) (v : Val) (p : List UInt8) (hd : dep (n + 1) v) (ht : tyOk (n + 1) t) (hv : v.ok) (hp : p.length + 200 * (n + 1) ≤ 100000) (h : ¬ (t.kind < 1 ∨ 10 < t.kind ∨ ¬ v.kind = t.kind)) (hf : formedV v = true) (hk : t.kind = 2) : Pure Tryd.prog tabG 24 [t.pv, v.pv, .str p] (.list ((missN (n + 1) t v p).map Mis.pv)) := by
  have hd0 := hd
  simp only [dep] at hd0
  have h57 := formed57 v (by omega) (by omega) (by omega)
  have h60 := fields60 n ih hB t v p hd ht hv hp
  have h59 := elements59 n ih hB t v p hd ht hv hp
  have h58 := has58 t.words v.text (by have := ht; simp only [tyOk] at this; omega)
  have h61 := typeField61 t v.text (by have := ht; simp only [tyOk] at this; omega)
  have hvo := hv
  rw [missN_succ, miss1_num h hf (by omega)]
  obtain ⟨k, m, M, s, w, e, fs⟩ := t
  obtain ⟨vk, vi, vs, vt, vl, vf⟩ := v
  simp only [dep, tyOk, Val.lst, Val.fields, Val.text, Typ.fields, Typ.words, Typ.elem, Typ.kind, Val.kind, Typ.min, Typ.max, Typ.scale, Val.num, Val.scale] at *
  obtain ⟨d1, d2, d3, d4, d5⟩ := hd
  obtain ⟨t1, t2, t3, t4⟩ := ht
  refine Pure.intro F24_ok (by simp [F24]) ?_
  rw [Typ.pv_mk, Val.pv_mk] at *
  have c : vk = 2 := by omega
  subst hk c
  rw [hf] at h57
  simp (disch := first | exact dI | fail) only [F24o0, F24o1, F24o2, F24o3, F24o4, F24o5, F24o6, F24o7, F24o8, F24o9, F24o10, F24o11, F24o12, F24o13, F24o14, F24o15, F24o16, F24o17, F24o18, F24o19, F24o20, F24o21, F24o22, F24o23, F24o24, F24o25, F24o26, F24o27, F24o28, F24o29, F24o30, F24o31, F24o32, F24o33, F24p33, F24o34, F24c, F24, push_cast, ↓reduceIte, qa, qb, qc, qd, qe, qf, qg, qh, qi]
  refine ACall.pure h57 rfl ?_
  by_cases o1 : vi < m
  · rw [outM_t (.inl o1)]
    simp (disch := first | exact dI | fail) only [List.map_cons, List.map_nil, Mis.pv_mk, push_cast, ↓reduceIte, qa, qb, qc, qd, qe, qf, qg, qh, qi]
  · by_cases o2 : M < vi
    · rw [outM_t (.inr o2)]
      simp (disch := first | exact dI | fail) only [List.map_cons, List.map_nil, Mis.pv_mk, push_cast, ↓reduceIte, qa, qb, qc, qd, qe, qf, qg, qh, qi]
    · rw [outM_f (fun h => h.elim o1 o2)]
      simp (disch := first | exact dI | fail) only [List.map_nil, push_cast, ↓reduceIte, qa, qb, qc, qd, qe, qf, qg, qh, qi]
set_option maxHeartbeats 4000000 in
theorem all24_6 (n : Nat) (ih : AllR n) (hB : bnd n ≤ 216000000) (t : Typ) (v : Val) (p : List UInt8) (hd : dep (n + 1) v) (ht : tyOk (n + 1) t) (hv : v.ok) (hp : p.length + 200 * (n + 1) ≤ 100000) (h : ¬ (t.kind < 1 ∨ 10 < t.kind ∨ ¬ v.kind = t.kind)) (hf : formedV v = true) (hk : t.kind = 6) : Pure Tryd.prog tabG 24 [t.pv, v.pv, .str p] (.list ((missN (n + 1) t v p).map Mis.pv)) := by
  have hd0 := hd
  simp only [dep] at hd0
  have h57 := formed57 v (by omega) (by omega) (by omega)
  have h60 := fields60 n ih hB t v p hd ht hv hp
  have h59 := elements59 n ih hB t v p hd ht hv hp
  have h58 := has58 t.words v.text (by have := ht; simp only [tyOk] at this; omega)
  have h61 := typeField61 t v.text (by have := ht; simp only [tyOk] at this; omega)
  have hvo := hv
  rw [missN_succ, miss1_num h hf (by omega)]
  obtain ⟨k, m, M, s, w, e, fs⟩ := t
  obtain ⟨vk, vi, vs, vt, vl, vf⟩ := v
  simp only [dep, tyOk, Val.lst, Val.fields, Val.text, Typ.fields, Typ.words, Typ.elem, Typ.kind, Val.kind, Typ.min, Typ.max, Typ.scale, Val.num, Val.scale] at *
  obtain ⟨d1, d2, d3, d4, d5⟩ := hd
  obtain ⟨t1, t2, t3, t4⟩ := ht
  refine Pure.intro F24_ok (by simp [F24]) ?_
  rw [Typ.pv_mk, Val.pv_mk] at *
  have c : vk = 6 := by omega
  subst hk c
  rw [hf] at h57
  simp (disch := first | exact dI | fail) only [F24o0, F24o1, F24o2, F24o3, F24o4, F24o5, F24o6, F24o7, F24o8, F24o9, F24o10, F24o11, F24o12, F24o13, F24o14, F24o15, F24o16, F24o17, F24o18, F24o19, F24o20, F24o21, F24o22, F24o23, F24o24, F24o25, F24o26, F24o27, F24o28, F24o29, F24o30, F24o31, F24o32, F24o33, F24p33, F24o34, F24c, F24, push_cast, ↓reduceIte, qa, qb, qc, qd, qe, qf, qg, qh, qi]
  refine ACall.pure h57 rfl ?_
  by_cases o1 : vi < m
  · rw [outM_t (.inl o1)]
    simp (disch := first | exact dI | fail) only [List.map_cons, List.map_nil, Mis.pv_mk, push_cast, ↓reduceIte, qa, qb, qc, qd, qe, qf, qg, qh, qi]
  · by_cases o2 : M < vi
    · rw [outM_t (.inr o2)]
      simp (disch := first | exact dI | fail) only [List.map_cons, List.map_nil, Mis.pv_mk, push_cast, ↓reduceIte, qa, qb, qc, qd, qe, qf, qg, qh, qi]
    · rw [outM_f (fun h => h.elim o1 o2)]
      simp (disch := first | exact dI | fail) only [List.map_nil, push_cast, ↓reduceIte, qa, qb, qc, qd, qe, qf, qg, qh, qi]
set_option maxHeartbeats 4000000 in
theorem all24_7 (n : Nat) (ih : AllR n) (hB : bnd n ≤ 216000000) (t : Typ) (v : Val) (p : List UInt8) (hd : dep (n + 1) v) (ht : tyOk (n + 1) t) (hv : v.ok) (hp : p.length + 200 * (n + 1) ≤ 100000) (h : ¬ (t.kind < 1 ∨ 10 < t.kind ∨ ¬ v.kind = t.kind)) (hf : formedV v = true) (hk : t.kind = 7) : Pure Tryd.prog tabG 24 [t.pv, v.pv, .str p] (.list ((missN (n + 1) t v p).map Mis.pv)) := by
  have hd0 := hd
  simp only [dep] at hd0
  have h57 := formed57 v (by omega) (by omega) (by omega)
  have h60 := fields60 n ih hB t v p hd ht hv hp
  have h59 := elements59 n ih hB t v p hd ht hv hp
  have h58 := has58 t.words v.text (by have := ht; simp only [tyOk] at this; omega)
  have h61 := typeField61 t v.text (by have := ht; simp only [tyOk] at this; omega)
  have hvo := hv
  rw [missN_succ, miss1_num h hf (by omega)]
  obtain ⟨k, m, M, s, w, e, fs⟩ := t
  obtain ⟨vk, vi, vs, vt, vl, vf⟩ := v
  simp only [dep, tyOk, Val.lst, Val.fields, Val.text, Typ.fields, Typ.words, Typ.elem, Typ.kind, Val.kind, Typ.min, Typ.max, Typ.scale, Val.num, Val.scale] at *
  obtain ⟨d1, d2, d3, d4, d5⟩ := hd
  obtain ⟨t1, t2, t3, t4⟩ := ht
  refine Pure.intro F24_ok (by simp [F24]) ?_
  rw [Typ.pv_mk, Val.pv_mk] at *
  have c : vk = 7 := by omega
  subst hk c
  rw [hf] at h57
  simp (disch := first | exact dI | fail) only [F24o0, F24o1, F24o2, F24o3, F24o4, F24o5, F24o6, F24o7, F24o8, F24o9, F24o10, F24o11, F24o12, F24o13, F24o14, F24o15, F24o16, F24o17, F24o18, F24o19, F24o20, F24o21, F24o22, F24o23, F24o24, F24o25, F24o26, F24o27, F24o28, F24o29, F24o30, F24o31, F24o32, F24o33, F24p33, F24o34, F24c, F24, push_cast, ↓reduceIte, qa, qb, qc, qd, qe, qf, qg, qh, qi]
  refine ACall.pure h57 rfl ?_
  by_cases o1 : vi < m
  · rw [outM_t (.inl o1)]
    simp (disch := first | exact dI | fail) only [List.map_cons, List.map_nil, Mis.pv_mk, push_cast, ↓reduceIte, qa, qb, qc, qd, qe, qf, qg, qh, qi]
  · by_cases o2 : M < vi
    · rw [outM_t (.inr o2)]
      simp (disch := first | exact dI | fail) only [List.map_cons, List.map_nil, Mis.pv_mk, push_cast, ↓reduceIte, qa, qb, qc, qd, qe, qf, qg, qh, qi]
    · rw [outM_f (fun h => h.elim o1 o2)]
      simp (disch := first | exact dI | fail) only [List.map_nil, push_cast, ↓reduceIte, qa, qb, qc, qd, qe, qf, qg, qh, qi]
set_option maxHeartbeats 4000000 in
theorem all24_1 (n : Nat) (ih : AllR n) (hB : bnd n ≤ 216000000) (t : Typ) (v : Val) (p : List UInt8) (hd : dep (n + 1) v) (ht : tyOk (n + 1) t) (hv : v.ok) (hp : p.length + 200 * (n + 1) ≤ 100000) (h : ¬ (t.kind < 1 ∨ 10 < t.kind ∨ ¬ v.kind = t.kind)) (hf : formedV v = true) (hk : t.kind = 1) : Pure Tryd.prog tabG 24 [t.pv, v.pv, .str p] (.list ((missN (n + 1) t v p).map Mis.pv)) := by
  have hd0 := hd
  simp only [dep] at hd0
  have h57 := formed57 v (by omega) (by omega) (by omega)
  have h60 := fields60 n ih hB t v p hd ht hv hp
  have h59 := elements59 n ih hB t v p hd ht hv hp
  have h58 := has58 t.words v.text (by have := ht; simp only [tyOk] at this; omega)
  have h61 := typeField61 t v.text (by have := ht; simp only [tyOk] at this; omega)
  have hvo := hv
  rw [missN_succ, miss1_none h hf hk]
  obtain ⟨k, m, M, s, w, e, fs⟩ := t
  obtain ⟨vk, vi, vs, vt, vl, vf⟩ := v
  simp only [dep, tyOk, Val.lst, Val.fields, Val.text, Typ.fields, Typ.words, Typ.elem, Typ.kind, Val.kind, Typ.min, Typ.max, Typ.scale, Val.num, Val.scale] at *
  obtain ⟨d1, d2, d3, d4, d5⟩ := hd
  obtain ⟨t1, t2, t3, t4⟩ := ht
  refine Pure.intro F24_ok (by simp [F24]) ?_
  rw [Typ.pv_mk, Val.pv_mk] at *
  have c : vk = 1 := by omega
  subst hk c
  rw [hf] at h57
  simp (disch := first | exact dI | fail) only [F24o0, F24o1, F24o2, F24o3, F24o4, F24o5, F24o6, F24o7, F24o8, F24o9, F24o10, F24o11, F24o12, F24o13, F24o14, F24o15, F24o16, F24o17, F24o18, F24o19, F24o20, F24o21, F24o22, F24o23, F24o24, F24o25, F24o26, F24o27, F24o28, F24o29, F24o30, F24o31, F24o32, F24o33, F24p33, F24o34, F24c, F24, push_cast, ↓reduceIte, qa, qb, qc, qd, qe, qf, qg, qh, qi]
  refine ACall.pure h57 rfl ?_
  simp (disch := first | exact dI | fail) only [List.map_nil, push_cast, ↓reduceIte, qa, qb, qc, qd, qe, qf, qg, qh, qi]
set_option maxHeartbeats 4000000 in
theorem all24_3s (n : Nat) (ih : AllR n) (hB : bnd n ≤ 216000000) (t : Typ) (v : Val) (p : List UInt8) (hd : dep (n + 1) v) (ht : tyOk (n + 1) t) (hv : v.ok) (hp : p.length + 200 * (n + 1) ≤ 100000) (h : ¬ (t.kind < 1 ∨ 10 < t.kind ∨ ¬ v.kind = t.kind)) (hf : formedV v = true) (hk : t.kind = 3) (hs : v.scale = t.scale) : Pure Tryd.prog tabG 24 [t.pv, v.pv, .str p] (.list ((missN (n + 1) t v p).map Mis.pv)) := by
  have hd0 := hd
  simp only [dep] at hd0
  have h57 := formed57 v (by omega) (by omega) (by omega)
  have h60 := fields60 n ih hB t v p hd ht hv hp
  have h59 := elements59 n ih hB t v p hd ht hv hp
  have h58 := has58 t.words v.text (by have := ht; simp only [tyOk] at this; omega)
  have h61 := typeField61 t v.text (by have := ht; simp only [tyOk] at this; omega)
  have hvo := hv
  rw [missN_succ, miss1_dec h hf hk hs]
  obtain ⟨k, m, M, s, w, e, fs⟩ := t
  obtain ⟨vk, vi, vs, vt, vl, vf⟩ := v
  simp only [dep, tyOk, Val.lst, Val.fields, Val.text, Typ.fields, Typ.words, Typ.elem, Typ.kind, Val.kind, Typ.min, Typ.max, Typ.scale, Val.num, Val.scale] at *
  obtain ⟨d1, d2, d3, d4, d5⟩ := hd
  obtain ⟨t1, t2, t3, t4⟩ := ht
  refine Pure.intro F24_ok (by simp [F24]) ?_
  rw [Typ.pv_mk, Val.pv_mk] at *
  have c : vk = 3 := by omega
  subst hk c
  rw [hf] at h57
  simp (disch := first | exact dI | fail) only [F24o0, F24o1, F24o2, F24o3, F24o4, F24o5, F24o6, F24o7, F24o8, F24o9, F24o10, F24o11, F24o12, F24o13, F24o14, F24o15, F24o16, F24o17, F24o18, F24o19, F24o20, F24o21, F24o22, F24o23, F24o24, F24o25, F24o26, F24o27, F24o28, F24o29, F24o30, F24o31, F24o32, F24o33, F24p33, F24o34, F24c, F24, push_cast, ↓reduceIte, qa, qb, qc, qd, qe, qf, qg, qh, qi]
  refine ACall.pure h57 rfl ?_
  by_cases o1 : vi < m
  · rw [outM_t (.inl o1)]
    simp (disch := first | exact dI | fail) only [hs, List.map_cons, List.map_nil, Mis.pv_mk, push_cast, ↓reduceIte, qa, qb, qc, qd, qe, qf, qg, qh, qi]
  · by_cases o2 : M < vi
    · rw [outM_t (.inr o2)]
      simp (disch := first | exact dI | fail) only [hs, List.map_cons, List.map_nil, Mis.pv_mk, push_cast, ↓reduceIte, qa, qb, qc, qd, qe, qf, qg, qh, qi]
    · rw [outM_f (fun h => h.elim o1 o2)]
      simp (disch := first | exact dI | fail) only [hs, List.map_nil, push_cast, ↓reduceIte, qa, qb, qc, qd, qe, qf, qg, qh, qi]
set_option maxHeartbeats 4000000 in
theorem all24_3 (n : Nat) (ih : AllR n) (hB : bnd n ≤ 216000000) (t : Typ) (v : Val) (p : List UInt8) (hd : dep (n + 1) v) (ht : tyOk (n + 1) t) (hv : v.ok) (hp : p.length + 200 * (n + 1) ≤ 100000) (h : ¬ (t.kind < 1 ∨ 10 < t.kind ∨ ¬ v.kind = t.kind)) (hf : formedV v = true) (hk : t.kind = 3) (hs : ¬ v.scale = t.scale) : Pure Tryd.prog tabG 24 [t.pv, v.pv, .str p] (.list ((missN (n + 1) t v p).map Mis.pv)) := by
  have hd0 := hd
  simp only [dep] at hd0
  have h57 := formed57 v (by omega) (by omega) (by omega)
  have h60 := fields60 n ih hB t v p hd ht hv hp
  have h59 := elements59 n ih hB t v p hd ht hv hp
  have h58 := has58 t.words v.text (by have := ht; simp only [tyOk] at this; omega)
  have h61 := typeField61 t v.text (by have := ht; simp only [tyOk] at this; omega)
  have hvo := hv
  rw [missN_succ, miss1_scale h hf hk hs]
  obtain ⟨k, m, M, s, w, e, fs⟩ := t
  obtain ⟨vk, vi, vs, vt, vl, vf⟩ := v
  simp only [dep, tyOk, Val.lst, Val.fields, Val.text, Typ.fields, Typ.words, Typ.elem, Typ.kind, Val.kind, Typ.min, Typ.max, Typ.scale, Val.num, Val.scale] at *
  obtain ⟨d1, d2, d3, d4, d5⟩ := hd
  obtain ⟨t1, t2, t3, t4⟩ := ht
  refine Pure.intro F24_ok (by simp [F24]) ?_
  rw [Typ.pv_mk, Val.pv_mk] at *
  have c : vk = 3 := by omega
  subst hk c
  rw [hf] at h57
  simp (disch := first | exact dI | fail) only [F24o0, F24o1, F24o2, F24o3, F24o4, F24o5, F24o6, F24o7, F24o8, F24o9, F24o10, F24o11, F24o12, F24o13, F24o14, F24o15, F24o16, F24o17, F24o18, F24o19, F24o20, F24o21, F24o22, F24o23, F24o24, F24o25, F24o26, F24o27, F24o28, F24o29, F24o30, F24o31, F24o32, F24o33, F24p33, F24o34, F24c, F24, push_cast, ↓reduceIte, qa, qb, qc, qd, qe, qf, qg, qh, qi]
  refine ACall.pure h57 rfl ?_
  simp (disch := first | exact dI | fail) only [hs, List.map_cons, List.map_nil, Mis.pv_mk, push_cast, ↓reduceIte, qa, qb, qc, qd, qe, qf, qg, qh, qi]
set_option maxHeartbeats 4000000 in
theorem all24_5 (n : Nat) (ih : AllR n) (hB : bnd n ≤ 216000000) (t : Typ) (v : Val) (p : List UInt8) (hd : dep (n + 1) v) (ht : tyOk (n + 1) t) (hv : v.ok) (hp : p.length + 200 * (n + 1) ≤ 100000) (h : ¬ (t.kind < 1 ∨ 10 < t.kind ∨ ¬ v.kind = t.kind)) (hf : formedV v = true) (hk : t.kind = 5) : Pure Tryd.prog tabG 24 [t.pv, v.pv, .str p] (.list ((missN (n + 1) t v p).map Mis.pv)) := by
  have hd0 := hd
  simp only [dep] at hd0
  have h57 := formed57 v (by omega) (by omega) (by omega)
  have h60 := fields60 n ih hB t v p hd ht hv hp
  have h59 := elements59 n ih hB t v p hd ht hv hp
  have h58 := has58 t.words v.text (by have := ht; simp only [tyOk] at this; omega)
  have h61 := typeField61 t v.text (by have := ht; simp only [tyOk] at this; omega)
  have hvo := hv
  rw [missN_succ, miss1_text h hf (.inr hk) (by omega)]
  obtain ⟨k, m, M, s, w, e, fs⟩ := t
  obtain ⟨vk, vi, vs, vt, vl, vf⟩ := v
  simp only [dep, tyOk, Val.lst, Val.fields, Val.text, Typ.fields, Typ.words, Typ.elem, Typ.kind, Val.kind, Typ.min, Typ.max, Typ.scale, Val.num, Val.scale] at *
  obtain ⟨d1, d2, d3, d4, d5⟩ := hd
  obtain ⟨t1, t2, t3, t4⟩ := ht
  refine Pure.intro F24_ok (by simp [F24]) ?_
  rw [Typ.pv_mk, Val.pv_mk] at *
  have c : vk = 5 := by omega
  subst hk c
  rw [hf] at h57
  simp (disch := first | exact dI | fail) only [F24o0, F24o1, F24o2, F24o3, F24o4, F24o5, F24o6, F24o7, F24o8, F24o9, F24o10, F24o11, F24o12, F24o13, F24o14, F24o15, F24o16, F24o17, F24o18, F24o19, F24o20, F24o21, F24o22, F24o23, F24o24, F24o25, F24o26, F24o27, F24o28, F24o29, F24o30, F24o31, F24o32, F24o33, F24p33, F24o34, F24c, F24, push_cast, ↓reduceIte, qa, qb, qc, qd, qe, qf, qg, qh, qi]
  refine ACall.pure h57 rfl ?_
  by_cases o1 : (vt.length : Int) < m
  · rw [outM_t (.inl o1)]
    simp (disch := first | exact dI | fail) only [List.map_cons, List.map_nil, Mis.pv_mk, push_cast, ↓reduceIte, qa, qb, qc, qd, qe, qf, qg, qh, qi]
  · by_cases o2 : M < (vt.length : Int)
    · rw [outM_t (.inr o2)]
      simp (disch := first | exact dI | fail) only [List.map_cons, List.map_nil, Mis.pv_mk, push_cast, ↓reduceIte, qa, qb, qc, qd, qe, qf, qg, qh, qi]
    · rw [outM_f (fun h => h.elim o1 o2)]
      simp (disch := first | exact dI | fail) only [List.map_nil, push_cast, ↓reduceIte, qa, qb, qc, qd, qe, qf, qg, qh, qi]
set_option maxHeartbeats 4000000 in
theorem all24_4 (n : Nat) (ih : AllR n) (hB : bnd n ≤ 216000000) (t : Typ) (v : Val) (p : List UInt8) (hd : dep (n + 1) v) (ht : tyOk (n + 1) t) (hv : v.ok) (hp : p.length + 200 * (n + 1) ≤ 100000) (h : ¬ (t.kind < 1 ∨ 10 < t.kind ∨ ¬ v.kind = t.kind)) (hf : formedV v = true) (hk : t.kind = 4) (hw : t.words.length = 0) : Pure Tryd.prog tabG 24 [t.pv, v.pv, .str p] (.list ((missN (n + 1) t v p).map Mis.pv)) := by
  have hd0 := hd
  simp only [dep] at hd0
  have h57 := formed57 v (by omega) (by omega) (by omega)
  have h60 := fields60 n ih hB t v p hd ht hv hp
  have h59 := elements59 n ih hB t v p hd ht hv hp
  have h58 := has58 t.words v.text (by have := ht; simp only [tyOk] at this; omega)
  have h61 := typeField61 t v.text (by have := ht; simp only [tyOk] at this; omega)
  have hvo := hv
  rw [missN_succ, miss1_text h hf (.inl hk) (fun _ => hw)]
  obtain ⟨k, m, M, s, w, e, fs⟩ := t
  obtain ⟨vk, vi, vs, vt, vl, vf⟩ := v
  simp only [dep, tyOk, Val.lst, Val.fields, Val.text, Typ.fields, Typ.words, Typ.elem, Typ.kind, Val.kind, Typ.min, Typ.max, Typ.scale, Val.num, Val.scale] at *
  obtain ⟨d1, d2, d3, d4, d5⟩ := hd
  obtain ⟨t1, t2, t3, t4⟩ := ht
  refine Pure.intro F24_ok (by simp [F24]) ?_
  rw [Typ.pv_mk, Val.pv_mk] at *
  have c : vk = 4 := by omega
  subst hk c
  rw [hf] at h57
  have hz : ¬ (0 : Int) < w.length := by omega
  simp (disch := first | exact dI | fail) only [F24o0, F24o1, F24o2, F24o3, F24o4, F24o5, F24o6, F24o7, F24o8, F24o9, F24o10, F24o11, F24o12, F24o13, F24o14, F24o15, F24o16, F24o17, F24o18, F24o19, F24o20, F24o21, F24o22, F24o23, F24o24, F24o25, F24o26, F24o27, F24o28, F24o29, F24o30, F24o31, F24o32, F24o33, F24p33, F24o34, F24c, F24, push_cast, ↓reduceIte, qa, qb, qc, qd, qe, qf, qg, qh, qi]
  refine ACall.pure h57 rfl ?_
  by_cases o1 : (vt.length : Int) < m
  · rw [outM_t (.inl o1)]
    simp (disch := first | exact dI | fail) only [List.map_cons, List.map_nil, Mis.pv_mk, push_cast, ↓reduceIte, qa, qb, qc, qd, qe, qf, qg, qh, qi]
  · by_cases o2 : M < (vt.length : Int)
    · rw [outM_t (.inr o2)]
      simp (disch := first | exact dI | fail) only [List.map_cons, List.map_nil, Mis.pv_mk, push_cast, ↓reduceIte, qa, qb, qc, qd, qe, qf, qg, qh, qi]
    · rw [outM_f (fun h => h.elim o1 o2)]
      simp (disch := first | exact dI | fail) only [List.map_nil, push_cast, ↓reduceIte, qa, qb, qc, qd, qe, qf, qg, qh, qi]
set_option maxHeartbeats 4000000 in
theorem all24_4w (n : Nat) (ih : AllR n) (hB : bnd n ≤ 216000000) (t : Typ) (v : Val) (p : List UInt8) (hd : dep (n + 1) v) (ht : tyOk (n + 1) t) (hv : v.ok) (hp : p.length + 200 * (n + 1) ≤ 100000) (h : ¬ (t.kind < 1 ∨ 10 < t.kind ∨ ¬ v.kind = t.kind)) (hf : formedV v = true) (hk : t.kind = 4) (hw : 0 < t.words.length) (ha : (t.words.any fun x => decide (x = v.text)) = true) : Pure Tryd.prog tabG 24 [t.pv, v.pv, .str p] (.list ((missN (n + 1) t v p).map Mis.pv)) := by
  have hd0 := hd
  simp only [dep] at hd0
  have h57 := formed57 v (by omega) (by omega) (by omega)
  have h60 := fields60 n ih hB t v p hd ht hv hp
  have h59 := elements59 n ih hB t v p hd ht hv hp
  have h58 := has58 t.words v.text (by have := ht; simp only [tyOk] at this; omega)
  have h61 := typeField61 t v.text (by have := ht; simp only [tyOk] at this; omega)
  have hvo := hv
  rw [missN_succ, miss1_word h hf hk hw ha]
  obtain ⟨k, m, M, s, w, e, fs⟩ := t
  obtain ⟨vk, vi, vs, vt, vl, vf⟩ := v
  simp only [dep, tyOk, Val.lst, Val.fields, Val.text, Typ.fields, Typ.words, Typ.elem, Typ.kind, Val.kind, Typ.min, Typ.max, Typ.scale, Val.num, Val.scale] at *
  obtain ⟨d1, d2, d3, d4, d5⟩ := hd
  obtain ⟨t1, t2, t3, t4⟩ := ht
  refine Pure.intro F24_ok (by simp [F24]) ?_
  rw [Typ.pv_mk, Val.pv_mk] at *
  have c : vk = 4 := by omega
  subst hk c
  rw [hf] at h57
  rw [ha] at h58
  have hz : (0 : Int) < w.length := by omega
  simp (disch := first | exact dI | fail) only [F24o0, F24o1, F24o2, F24o3, F24o4, F24o5, F24o6, F24o7, F24o8, F24o9, F24o10, F24o11, F24o12, F24o13, F24o14, F24o15, F24o16, F24o17, F24o18, F24o19, F24o20, F24o21, F24o22, F24o23, F24o24, F24o25, F24o26, F24o27, F24o28, F24o29, F24o30, F24o31, F24o32, F24o33, F24p33, F24o34, F24c, F24, push_cast, ↓reduceIte, qa, qb, qc, qd, qe, qf, qg, qh, qi]
  refine ACall.pure h57 rfl ?_
  simp (disch := first | exact dI | fail) only [push_cast, ↓reduceIte, qa, qb, qc, qd, qe, qf, qg, qh, qi]
  refine ACall.pure h58 rfl ?_
  simp (disch := first | exact dI | fail) only [List.map_nil, push_cast, ↓reduceIte, qa, qb, qc, qd, qe, qf, qg, qh, qi]
set_option maxHeartbeats 4000000 in
theorem all24_4n (n : Nat) (ih : AllR n) (hB : bnd n ≤ 216000000) (t : Typ) (v : Val) (p : List UInt8) (hd : dep (n + 1) v) (ht : tyOk (n + 1) t) (hv : v.ok) (hp : p.length + 200 * (n + 1) ≤ 100000) (h : ¬ (t.kind < 1 ∨ 10 < t.kind ∨ ¬ v.kind = t.kind)) (hf : formedV v = true) (hk : t.kind = 4) (hw : 0 < t.words.length) (ha : (t.words.any fun x => decide (x = v.text)) = false) : Pure Tryd.prog tabG 24 [t.pv, v.pv, .str p] (.list ((missN (n + 1) t v p).map Mis.pv)) := by
  have hd0 := hd
  simp only [dep] at hd0
  have h57 := formed57 v (by omega) (by omega) (by omega)
  have h60 := fields60 n ih hB t v p hd ht hv hp
  have h59 := elements59 n ih hB t v p hd ht hv hp
  have h58 := has58 t.words v.text (by have := ht; simp only [tyOk] at this; omega)
  have h61 := typeField61 t v.text (by have := ht; simp only [tyOk] at this; omega)
  have hvo := hv
  rw [missN_succ, miss1_noword h hf hk hw ha]
  obtain ⟨k, m, M, s, w, e, fs⟩ := t
  obtain ⟨vk, vi, vs, vt, vl, vf⟩ := v
  simp only [dep, tyOk, Val.lst, Val.fields, Val.text, Typ.fields, Typ.words, Typ.elem, Typ.kind, Val.kind, Typ.min, Typ.max, Typ.scale, Val.num, Val.scale] at *
  obtain ⟨d1, d2, d3, d4, d5⟩ := hd
  obtain ⟨t1, t2, t3, t4⟩ := ht
  refine Pure.intro F24_ok (by simp [F24]) ?_
  rw [Typ.pv_mk, Val.pv_mk] at *
  have c : vk = 4 := by omega
  subst hk c
  rw [hf] at h57
  rw [ha] at h58
  have hz : (0 : Int) < w.length := by omega
  simp (disch := first | exact dI | fail) only [F24o0, F24o1, F24o2, F24o3, F24o4, F24o5, F24o6, F24o7, F24o8, F24o9, F24o10, F24o11, F24o12, F24o13, F24o14, F24o15, F24o16, F24o17, F24o18, F24o19, F24o20, F24o21, F24o22, F24o23, F24o24, F24o25, F24o26, F24o27, F24o28, F24o29, F24o30, F24o31, F24o32, F24o33, F24p33, F24o34, F24c, F24, push_cast, ↓reduceIte, qa, qb, qc, qd, qe, qf, qg, qh, qi]
  refine ACall.pure h57 rfl ?_
  simp (disch := first | exact dI | fail) only [push_cast, ↓reduceIte, qa, qb, qc, qd, qe, qf, qg, qh, qi]
  refine ACall.pure h58 rfl ?_
  simp (disch := first | exact dI | fail) only [List.map_cons, List.map_nil, Mis.pv_mk, push_cast, ↓reduceIte, qa, qb, qc, qd, qe, qf, qg, qh, qi]
set_option maxHeartbeats 4000000 in
theorem all24_8 (n : Nat) (ih : AllR n) (hB : bnd n ≤ 216000000) (t : Typ) (v : Val) (p : List UInt8) (hd : dep (n + 1) v) (ht : tyOk (n + 1) t) (hv : v.ok) (hp : p.length + 200 * (n + 1) ≤ 100000) (h : ¬ (t.kind < 1 ∨ 10 < t.kind ∨ ¬ v.kind = t.kind)) (hf : formedV v = true) (hk : t.kind = 8) : Pure Tryd.prog tabG 24 [t.pv, v.pv, .str p] (.list ((missN (n + 1) t v p).map Mis.pv)) := by
  have hd0 := hd
  simp only [dep] at hd0
  have h57 := formed57 v (by omega) (by omega) (by omega)
  have h60 := fields60 n ih hB t v p hd ht hv hp
  have h59 := elements59 n ih hB t v p hd ht hv hp
  have h58 := has58 t.words v.text (by have := ht; simp only [tyOk] at this; omega)
  have h61 := typeField61 t v.text (by have := ht; simp only [tyOk] at this; omega)
  have hvo := hv
  rw [missN_succ, miss1_list h hf hk]
  obtain ⟨k, m, M, s, w, e, fs⟩ := t
  obtain ⟨vk, vi, vs, vt, vl, vf⟩ := v
  simp only [dep, tyOk, Val.lst, Val.fields, Val.text, Typ.fields, Typ.words, Typ.elem, Typ.kind, Val.kind, Typ.min, Typ.max, Typ.scale, Val.num, Val.scale] at *
  obtain ⟨d1, d2, d3, d4, d5⟩ := hd
  obtain ⟨t1, t2, t3, t4⟩ := ht
  refine Pure.intro F24_ok (by simp [F24]) ?_
  rw [Typ.pv_mk, Val.pv_mk] at *
  have c : vk = 8 := by omega
  subst hk c
  rw [hf] at h57
  simp (disch := first | exact dI | fail) only [F24o0, F24o1, F24o2, F24o3, F24o4, F24o5, F24o6, F24o7, F24o8, F24o9, F24o10, F24o11, F24o12, F24o13, F24o14, F24o15, F24o16, F24o17, F24o18, F24o19, F24o20, F24o21, F24o22, F24o23, F24o24, F24o25, F24o26, F24o27, F24o28, F24o29, F24o30, F24o31, F24o32, F24o33, F24p33, F24o34, F24c, F24, push_cast, ↓reduceIte, qa, qb, qc, qd, qe, qf, qg, qh, qi]
  refine ACall.pure h57 rfl ?_
  simp (disch := first | exact dI | fail) only [push_cast, ↓reduceIte, qa, qb, qc, qd, qe, qf, qg, qh, qi]
  refine ACall.pure h59 rfl ?_
  simp (disch := first | exact dI | fail) only [push_cast, ↓reduceIte, qa, qb, qc, qd, qe, qf, qg, qh, qi]
set_option maxHeartbeats 4000000 in
theorem all24_9 (n : Nat) (ih : AllR n) (hB : bnd n ≤ 216000000) (t : Typ) (v : Val) (p : List UInt8) (hd : dep (n + 1) v) (ht : tyOk (n + 1) t) (hv : v.ok) (hp : p.length + 200 * (n + 1) ≤ 100000) (h : ¬ (t.kind < 1 ∨ 10 < t.kind ∨ ¬ v.kind = t.kind)) (hf : formedV v = true) (hk : t.kind = 9) : Pure Tryd.prog tabG 24 [t.pv, v.pv, .str p] (.list ((missN (n + 1) t v p).map Mis.pv)) := by
  have hd0 := hd
  simp only [dep] at hd0
  have h57 := formed57 v (by omega) (by omega) (by omega)
  have h60 := fields60 n ih hB t v p hd ht hv hp
  have h59 := elements59 n ih hB t v p hd ht hv hp
  have h58 := has58 t.words v.text (by have := ht; simp only [tyOk] at this; omega)
  have h61 := typeField61 t v.text (by have := ht; simp only [tyOk] at this; omega)
  have hvo := hv
  rw [missN_succ, miss1_rec h hf hk]
  obtain ⟨k, m, M, s, w, e, fs⟩ := t
  obtain ⟨vk, vi, vs, vt, vl, vf⟩ := v
  simp only [dep, tyOk, Val.lst, Val.fields, Val.text, Typ.fields, Typ.words, Typ.elem, Typ.kind, Val.kind, Typ.min, Typ.max, Typ.scale, Val.num, Val.scale] at *
  obtain ⟨d1, d2, d3, d4, d5⟩ := hd
  obtain ⟨t1, t2, t3, t4⟩ := ht
  refine Pure.intro F24_ok (by simp [F24]) ?_
  rw [Typ.pv_mk, Val.pv_mk] at *
  have c : vk = 9 := by omega
  subst hk c
  rw [hf] at h57
  simp (disch := first | exact dI | fail) only [F24o0, F24o1, F24o2, F24o3, F24o4, F24o5, F24o6, F24o7, F24o8, F24o9, F24o10, F24o11, F24o12, F24o13, F24o14, F24o15, F24o16, F24o17, F24o18, F24o19, F24o20, F24o21, F24o22, F24o23, F24o24, F24o25, F24o26, F24o27, F24o28, F24o29, F24o30, F24o31, F24o32, F24o33, F24p33, F24o34, F24c, F24, push_cast, ↓reduceIte, qa, qb, qc, qd, qe, qf, qg, qh, qi]
  refine ACall.pure h57 rfl ?_
  simp (disch := first | exact dI | fail) only [push_cast, ↓reduceIte, qa, qb, qc, qd, qe, qf, qg, qh, qi]
  refine ACall.pure h60 rfl ?_
  simp (disch := first | exact dI | fail) only [push_cast, ↓reduceIte, qa, qb, qc, qd, qe, qf, qg, qh, qi]
set_option maxHeartbeats 4000000 in
theorem all24_10n (n : Nat) (ih : AllR n) (hB : bnd n ≤ 216000000) (t : Typ) (v : Val) (p : List UInt8) (hd : dep (n + 1) v) (ht : tyOk (n + 1) t) (hv : v.ok) (hp : p.length + 200 * (n + 1) ≤ 100000) (h : ¬ (t.kind < 1 ∨ 10 < t.kind ∨ ¬ v.kind = t.kind)) (hf : formedV v = true) (hk : t.kind = 10) (hfd : t.fields.find? (named v.text) = none) : Pure Tryd.prog tabG 24 [t.pv, v.pv, .str p] (.list ((missN (n + 1) t v p).map Mis.pv)) := by
  have hd0 := hd
  simp only [dep] at hd0
  have h57 := formed57 v (by omega) (by omega) (by omega)
  have h60 := fields60 n ih hB t v p hd ht hv hp
  have h59 := elements59 n ih hB t v p hd ht hv hp
  have h58 := has58 t.words v.text (by have := ht; simp only [tyOk] at this; omega)
  have h61 := typeField61 t v.text (by have := ht; simp only [tyOk] at this; omega)
  have hvo := hv
  rw [missN_succ, miss1_var h hf hk, varM_none hfd]
  obtain ⟨k, m, M, s, w, e, fs⟩ := t
  obtain ⟨vk, vi, vs, vt, vl, vf⟩ := v
  simp only [dep, tyOk, Val.lst, Val.fields, Val.text, Typ.fields, Typ.words, Typ.elem, Typ.kind, Val.kind, Typ.min, Typ.max, Typ.scale, Val.num, Val.scale] at *
  obtain ⟨d1, d2, d3, d4, d5⟩ := hd
  obtain ⟨t1, t2, t3, t4⟩ := ht
  refine Pure.intro F24_ok (by simp [F24]) ?_
  rw [Typ.pv_mk, Val.pv_mk] at *
  have c : vk = 10 := by omega
  subst hk c
  rw [hf] at h57
  rw [hfd] at h61
  simp only [tfR, Option.getD_none, Option.isSome_none, zeroTF, TFd.pv_mk, Typ.pv_mk, List.map_nil] at h61
  simp (disch := first | exact dI | fail) only [F24o0, F24o1, F24o2, F24o3, F24o4, F24o5, F24o6, F24o7, F24o8, F24o9, F24o10, F24o11, F24o12, F24o13, F24o14, F24o15, F24o16, F24o17, F24o18, F24o19, F24o20, F24o21, F24o22, F24o23, F24o24, F24o25, F24o26, F24o27, F24o28, F24o29, F24o30, F24o31, F24o32, F24o33, F24p33, F24o34, F24c, F24, push_cast, ↓reduceIte, qa, qb, qc, qd, qe, qf, qg, qh, qi]
  refine ACall.pure h57 rfl ?_
  simp (disch := first | exact dI | fail) only [push_cast, ↓reduceIte, qa, qb, qc, qd, qe, qf, qg, qh, qi]
  refine ACall.pure h61 rfl ?_
  simp (disch := first | exact dI | fail) only [List.map_cons, List.map_nil, Mis.pv_mk, push_cast, ↓reduceIte, qa, qb, qc, qd, qe, qf, qg, qh, qi]
set_option maxHeartbeats 4000000 in
theorem all24_10 (n : Nat) (ih : AllR n) (hB : bnd n ≤ 216000000) (t : Typ) (v : Val) (p : List UInt8) (hd : dep (n + 1) v) (ht : tyOk (n + 1) t) (hv : v.ok) (hp : p.length + 200 * (n + 1) ≤ 100000) (h : ¬ (t.kind < 1 ∨ 10 < t.kind ∨ ¬ v.kind = t.kind)) (hf : formedV v = true) (hk : t.kind = 10) (hl : v.lst.length = 1) (z : TFd) (hfd : t.fields.find? (named v.text) = some z) : Pure Tryd.prog tabG 24 [t.pv, v.pv, .str p] (.list ((missN (n + 1) t v p).map Mis.pv)) := by
  have hd0 := hd
  simp only [dep] at hd0
  have h57 := formed57 v (by omega) (by omega) (by omega)
  have h60 := fields60 n ih hB t v p hd ht hv hp
  have h59 := elements59 n ih hB t v p hd ht hv hp
  have h58 := has58 t.words v.text (by have := ht; simp only [tyOk] at this; omega)
  have h61 := typeField61 t v.text (by have := ht; simp only [tyOk] at this; omega)
  have hvo := hv
  rw [missN_succ, miss1_var h hf hk, varM_some hfd]
  obtain ⟨k, m, M, s, w, e, fs⟩ := t
  obtain ⟨vk, vi, vs, vt, vl, vf⟩ := v
  simp only [dep, tyOk, Val.lst, Val.fields, Val.text, Typ.fields, Typ.words, Typ.elem, Typ.kind, Val.kind, Typ.min, Typ.max, Typ.scale, Val.num, Val.scale] at *
  obtain ⟨d1, d2, d3, d4, d5⟩ := hd
  obtain ⟨t1, t2, t3, t4⟩ := ht
  refine Pure.intro F24_ok (by simp [F24]) ?_
  rw [Typ.pv_mk, Val.pv_mk] at *
  have c : vk = 10 := by omega
  subst hk c
  rw [hf] at h57
  rw [hfd] at h61
  obtain ⟨x, rfl⟩ := List.length_eq_one_iff.1 hl
  have hxd := d4 x (List.mem_singleton.2 rfl)
  rw [Val.ok_mk] at hvo
  have hxo := hvo.2.2.2.2.2.1 x (List.mem_singleton.2 rfl)
  have hzt := (t4 z (List.mem_of_find?_eq_some hfd)).2
  obtain ⟨z1, z2, z3, z4, z5⟩ := z
  simp only [TFd.typ, List.headD_cons] at hzt ⊢
  have hih := ih z4 x (p ++ (63 :: vt)) hxd hzt hxo (by simp only [List.length_append, List.length_cons]; omega)
  generalize missN n z4 x (p ++ (63 :: vt)) = T at *
  obtain ⟨w1, w2, w3, w4, w5, w6, w7⟩ := z4
  obtain ⟨x1, x2, x3, x4, x5, x6⟩ := x
  simp only [tfR, Option.getD_some, Option.isSome_some, TFd.pv_mk, Typ.pv_mk] at h61
  simp only [Typ.pv_mk, Val.pv_mk] at hih
  simp (disch := first | exact dI | fail) only [F24o0, F24o1, F24o2, F24o3, F24o4, F24o5, F24o6, F24o7, F24o8, F24o9, F24o10, F24o11, F24o12, F24o13, F24o14, F24o15, F24o16, F24o17, F24o18, F24o19, F24o20, F24o21, F24o22, F24o23, F24o24, F24o25, F24o26, F24o27, F24o28, F24o29, F24o30, F24o31, F24o32, F24o33, F24p33, F24o34, F24c, F24, push_cast, ↓reduceIte, qa, qb, qc, qd, qe, qf, qg, qh, qi]
  refine ACall.pure h57 rfl ?_
  simp (disch := first | exact dI | fail) only [push_cast, ↓reduceIte, qa, qb, qc, qd, qe, qf, qg, qh, qi]
  refine ACall.pure h61 rfl ?_
  simp (disch := first | exact dI | fail) only [List.map_cons, List.map_nil, rElem_zero, List.getElem?_cons_zero, Val.pv_mk, push_cast, ↓reduceIte, qa, qb, qc, qd, qe, qf, qg, qh, qi]
  refine ACall.pure hih rfl ?_
  simp (disch := first | exact dI | fail) only [push_cast, ↓reduceIte, qa, qb, qc, qd, qe, qf, qg, qh, qi]
theorem all24_step (n : Nat) (ih : AllR n) (hB : bnd n ≤ 216000000) : AllR (n + 1) := by
  intro t v p hd ht hv hp
  by_cases h : t.kind < 1 ∨ 10 < t.kind ∨ ¬ v.kind = t.kind
  · exact all24_kind n ih hB t v p hd ht hv hp h
  · by_cases hf : formedV v = false
    · exact all24_bad n ih hB t v p hd ht hv hp h hf
    · have hf : formedV v = true := by simpa using hf
      have hk : t.kind = 1 ∨ t.kind = 2 ∨ t.kind = 3 ∨ t.kind = 4 ∨ t.kind = 5 ∨ t.kind = 6 ∨ t.kind = 7 ∨ t.kind = 8 ∨ t.kind = 9 ∨ t.kind = 10 := by omega
      rcases hk with hk | hk | hk | hk | hk | hk | hk | hk | hk | hk
      · exact all24_1 n ih hB t v p hd ht hv hp h hf hk
      · exact all24_2 n ih hB t v p hd ht hv hp h hf hk
      · by_cases hs : v.scale = t.scale
        · exact all24_3s n ih hB t v p hd ht hv hp h hf hk hs
        · exact all24_3 n ih hB t v p hd ht hv hp h hf hk hs
      · by_cases hw : t.words.length = 0
        · exact all24_4 n ih hB t v p hd ht hv hp h hf hk hw
        · cases ha : (t.words.any fun x => decide (x = v.text)) with
          | true => exact all24_4w n ih hB t v p hd ht hv hp h hf hk (by omega) ha
          | false => exact all24_4n n ih hB t v p hd ht hv hp h hf hk (by omega) ha
      · exact all24_5 n ih hB t v p hd ht hv hp h hf hk
      · exact all24_6 n ih hB t v p hd ht hv hp h hf hk
      · exact all24_7 n ih hB t v p hd ht hv hp h hf hk
      · exact all24_8 n ih hB t v p hd ht hv hp h hf hk
      · exact all24_9 n ih hB t v p hd ht hv hp h hf hk
      · cases hfd : t.fields.find? (named v.text) with
        | none => exact all24_10n n ih hB t v p hd ht hv hp h hf hk hfd
        | some z => exact all24_10 n ih hB t v p hd ht hv hp h hf hk (formed10 (by omega) hf) z hfd
theorem allR : ∀ n, n ≤ 4 → AllR n
  | 0, _ => fun t v p hd => hd.elim
  | n + 1, h => all24_step n (allR n (by omega)) (by
      have : n = 0 ∨ n = 1 ∨ n = 2 ∨ n = 3 := by omega
      rcases this with rfl | rfl | rfl | rfl <;> decide)
end Go.Proofs.YtikmckfppnmlnaaDoor
