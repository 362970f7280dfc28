/- A part of the proof for DelimitedValuesCardSaid. -/
import Derived.Test.YtbaaokocnegdoaaGreatDoorValWP
set_option maxRecDepth 100000
set_option linter.unusedVariables false
set_option linter.unusedSimpArgs false
namespace Go.Proofs.YtbaaokocnegdoaaGreatDoor
open Go Go.Ab
attribute [local irreducible] vc
set_option maxHeartbeats 4000000 in
theorem all24_kind (n : Nat) (ih : AllR n) (hB : bnd n ≤ 216000000) (t : Typ) (v : Val) (p : List UInt8) (hd : dep (n + 1) v) (ht : tyOk (n + 1) t) (hv : v.ok) (hp : p.length + 200 * (n + 1) ≤ 100000) (h : t.kind < 1 ∨ 10 < t.kind ∨ ¬ v.kind = t.kind) : Pure Tryz.prog tabG 24 [t.pv, v.pv, .str p] (.list ((missN (n + 1) t v p).map Mis.pv)) := by
 have hd0 := hd
 simp only [dep] at hd0
 have h57 := formed57 v (by omega) (by omega) (by omega)
 have h60 := fields60 n ih hB t v p hd ht hv hp
 have h59 := elements59 n ih hB t v p hd ht hv hp
 have h58 := has58 t.words v.text (by have := ht; simp only [tyOk] at this; omega)
 have h61 := typeField61 t v.text (by have := ht; simp only [tyOk] at this; omega)
 have hvo := hv
 rw [missN_succ, miss1_kind h]
 obtain ⟨k, m, M, s, w, e, fs⟩ := t
 obtain ⟨vk, vi, vs, vt, vl, vf⟩ := v
 simp only [dep, tyOk, Val.lst, Val.fields, Val.text, Typ.fields, Typ.words, Typ.elem, Typ.kind, Val.kind, Typ.min, Typ.max, Typ.scale, Val.num, Val.scale] at *
 obtain ⟨d1, d2, d3, d4, d5⟩ := hd
 obtain ⟨t1, t2, t3, t4⟩ := ht
 refine Pure.intro F24_ok (by simp [F24]) ?_
 rw [Typ.pv_mk, Val.pv_mk] at *
 by_cases a : k < 1
 ·simp (disch:=first|exact dI|fail) only [F24, a, List.map_cons, List.map_nil, Mis.pv_mk, push_cast, seval]
 ·by_cases b : 10 < k
  ·simp (disch:=first|exact dI|fail) only [F24, a, b, List.map_cons, List.map_nil, Mis.pv_mk, push_cast, seval]
  ·have c : ¬ vk = k := by omega
   simp (disch:=first|exact dI|fail) only [F24, a, b, c, List.map_cons, List.map_nil, Mis.pv_mk, push_cast, seval]
set_option maxHeartbeats 4000000 in
theorem all24_bad (n : Nat) (ih : AllR n) (hB : bnd n ≤ 216000000) (t : Typ) (v : Val) (p : List UInt8) (hd : dep (n + 1) v) (ht : tyOk (n + 1) t) (hv : v.ok) (hp : p.length + 200 * (n + 1) ≤ 100000) (h : ¬ (t.kind < 1 ∨ 10 < t.kind ∨ ¬ v.kind = t.kind)) (hf : formedV v = false) : Pure Tryz.prog tabG 24 [t.pv, v.pv, .str p] (.list ((missN (n + 1) t v p).map Mis.pv)) := by
 have hd0 := hd
 simp only [dep] at hd0
 have h57 := formed57 v (by omega) (by omega) (by omega)
 have h60 := fields60 n ih hB t v p hd ht hv hp
 have h59 := elements59 n ih hB t v p hd ht hv hp
 have h58 := has58 t.words v.text (by have := ht; simp only [tyOk] at this; omega)
 have h61 := typeField61 t v.text (by have := ht; simp only [tyOk] at this; omega)
 have hvo := hv
 rw [missN_succ, miss1_bad h hf]
 obtain ⟨k, m, M, s, w, e, fs⟩ := t
 obtain ⟨vk, vi, vs, vt, vl, vf⟩ := v
 simp only [dep, tyOk, Val.lst, Val.fields, Val.text, Typ.fields, Typ.words, Typ.elem, Typ.kind, Val.kind, Typ.min, Typ.max, Typ.scale, Val.num, Val.scale] at *
 obtain ⟨d1, d2, d3, d4, d5⟩ := hd
 obtain ⟨t1, t2, t3, t4⟩ := ht
 refine Pure.intro F24_ok (by simp [F24]) ?_
 rw [Typ.pv_mk, Val.pv_mk] at *
 have a : ¬ k < 1 := by omega
 have b : ¬ 10 < k := by omega
 have c : vk = k := by omega
 subst c
 rw [hf] at h57
 simp (disch:=first|exact dI|fail) only [F24, a, b, push_cast, seval]
 refine ACall.pure h57 rfl ?_
 simp (disch:=first|exact dI|fail) only [List.map_cons, List.map_nil, Mis.pv_mk, push_cast, seval]
set_option maxHeartbeats 4000000 in
theorem all24_2 (n : Nat) (ih : AllR n) (hB : bnd n ≤ 216000000) (t : Typ) (v : Val) (p : List UInt8) (hd : dep (n + 1) v) (ht : tyOk (n + 1) t) (hv : v.ok) (hp : p.length + 200 * (n + 1) ≤ 100000) (h : ¬ (t.kind < 1 ∨ 10 < t.kind ∨ ¬ v.kind = t.kind)) (hf : formedV v = true) (hk : t.kind = 2) : Pure Tryz.prog tabG 24 [t.pv, v.pv, .str p] (.list ((missN (n + 1) t v p).map Mis.pv)) := by
 have hd0 := hd
 simp only [dep] at hd0
 have h57 := formed57 v (by omega) (by omega) (by omega)
 have h60 := fields60 n ih hB t v p hd ht hv hp
 have h59 := elements59 n ih hB t v p hd ht hv hp
 have h58 := has58 t.words v.text (by have := ht; simp only [tyOk] at this; omega)
 have h61 := typeField61 t v.text (by have := ht; simp only [tyOk] at this; omega)
 have hvo := hv
 rw [missN_succ, miss1_num h hf (by omega)]
 obtain ⟨k, m, M, s, w, e, fs⟩ := t
 obtain ⟨vk, vi, vs, vt, vl, vf⟩ := v
 simp only [dep, tyOk, Val.lst, Val.fields, Val.text, Typ.fields, Typ.words, Typ.elem, Typ.kind, Val.kind, Typ.min, Typ.max, Typ.scale, Val.num, Val.scale] at *
 obtain ⟨d1, d2, d3, d4, d5⟩ := hd
 obtain ⟨t1, t2, t3, t4⟩ := ht
 refine Pure.intro F24_ok (by simp [F24]) ?_
 rw [Typ.pv_mk, Val.pv_mk] at *
 have c : vk = 2 := by omega
 subst hk c
 rw [hf] at h57
 simp (disch:=first|exact dI|fail) only [F24, push_cast, seval]
 refine ACall.pure h57 rfl ?_
 by_cases o1 : vi < m
 ·rw [outM_t (.inl o1)]
  simp (disch:=first|exact dI|fail) only [List.map_cons, List.map_nil, Mis.pv_mk, push_cast, seval]
 ·by_cases o2 : M < vi
  ·rw [outM_t (.inr o2)]
   simp (disch:=first|exact dI|fail) only [List.map_cons, List.map_nil, Mis.pv_mk, push_cast, seval]
  ·rw [outM_f (fun h => h.elim o1 o2)]
   simp (disch:=first|exact dI|fail) only [List.map_nil, push_cast, seval]
set_option maxHeartbeats 4000000 in
theorem all24_6 (n : Nat) (ih : AllR n) (hB : bnd n ≤ 216000000) (t : Typ) (v : Val) (p : List UInt8) (hd : dep (n + 1) v) (ht : tyOk (n + 1) t) (hv : v.ok) (hp : p.length + 200 * (n + 1) ≤ 100000) (h : ¬ (t.kind < 1 ∨ 10 < t.kind ∨ ¬ v.kind = t.kind)) (hf : formedV v = true) (hk : t.kind = 6) : Pure Tryz.prog tabG 24 [t.pv, v.pv, .str p] (.list ((missN (n + 1) t v p).map Mis.pv)) := by
 have hd0 := hd
 simp only [dep] at hd0
 have h57 := formed57 v (by omega) (by omega) (by omega)
 have h60 := fields60 n ih hB t v p hd ht hv hp
 have h59 := elements59 n ih hB t v p hd ht hv hp
 have h58 := has58 t.words v.text (by have := ht; simp only [tyOk] at this; omega)
 have h61 := typeField61 t v.text (by have := ht; simp only [tyOk] at this; omega)
 have hvo := hv
 rw [missN_succ, miss1_num h hf (by omega)]
 obtain ⟨k, m, M, s, w, e, fs⟩ := t
 obtain ⟨vk, vi, vs, vt, vl, vf⟩ := v
 simp only [dep, tyOk, Val.lst, Val.fields, Val.text, Typ.fields, Typ.words, Typ.elem, Typ.kind, Val.kind, Typ.min, Typ.max, Typ.scale, Val.num, Val.scale] at *
 obtain ⟨d1, d2, d3, d4, d5⟩ := hd
 obtain ⟨t1, t2, t3, t4⟩ := ht
 refine Pure.intro F24_ok (by simp [F24]) ?_
 rw [Typ.pv_mk, Val.pv_mk] at *
 have c : vk = 6 := by omega
 subst hk c
 rw [hf] at h57
 simp (disch:=first|exact dI|fail) only [F24, push_cast, seval]
 refine ACall.pure h57 rfl ?_
 by_cases o1 : vi < m
 ·rw [outM_t (.inl o1)]
  simp (disch:=first|exact dI|fail) only [List.map_cons, List.map_nil, Mis.pv_mk, push_cast, seval]
 ·by_cases o2 : M < vi
  ·rw [outM_t (.inr o2)]
   simp (disch:=first|exact dI|fail) only [List.map_cons, List.map_nil, Mis.pv_mk, push_cast, seval]
  ·rw [outM_f (fun h => h.elim o1 o2)]
   simp (disch:=first|exact dI|fail) only [List.map_nil, push_cast, seval]
set_option maxHeartbeats 4000000 in
theorem all24_7 (n : Nat) (ih : AllR n) (hB : bnd n ≤ 216000000) (t : Typ) (v : Val) (p : List UInt8) (hd : dep (n + 1) v) (ht : tyOk (n + 1) t) (hv : v.ok) (hp : p.length + 200 * (n + 1) ≤ 100000) (h : ¬ (t.kind < 1 ∨ 10 < t.kind ∨ ¬ v.kind = t.kind)) (hf : formedV v = true) (hk : t.kind = 7) : Pure Tryz.prog tabG 24 [t.pv, v.pv, .str p] (.list ((missN (n + 1) t v p).map Mis.pv)) := by
 have hd0 := hd
 simp only [dep] at hd0
 have h57 := formed57 v (by omega) (by omega) (by omega)
 have h60 := fields60 n ih hB t v p hd ht hv hp
 have h59 := elements59 n ih hB t v p hd ht hv hp
 have h58 := has58 t.words v.text (by have := ht; simp only [tyOk] at this; omega)
 have h61 := typeField61 t v.text (by have := ht; simp only [tyOk] at this; omega)
 have hvo := hv
 rw [missN_succ, miss1_num h hf (by omega)]
 obtain ⟨k, m, M, s, w, e, fs⟩ := t
 obtain ⟨vk, vi, vs, vt, vl, vf⟩ := v
 simp only [dep, tyOk, Val.lst, Val.fields, Val.text, Typ.fields, Typ.words, Typ.elem, Typ.kind, Val.kind, Typ.min, Typ.max, Typ.scale, Val.num, Val.scale] at *
 obtain ⟨d1, d2, d3, d4, d5⟩ := hd
 obtain ⟨t1, t2, t3, t4⟩ := ht
 refine Pure.intro F24_ok (by simp [F24]) ?_
 rw [Typ.pv_mk, Val.pv_mk] at *
 have c : vk = 7 := by omega
 subst hk c
 rw [hf] at h57
 simp (disch:=first|exact dI|fail) only [F24, push_cast, seval]
 refine ACall.pure h57 rfl ?_
 by_cases o1 : vi < m
 ·rw [outM_t (.inl o1)]
  simp (disch:=first|exact dI|fail) only [List.map_cons, List.map_nil, Mis.pv_mk, push_cast, seval]
 ·by_cases o2 : M < vi
  ·rw [outM_t (.inr o2)]
   simp (disch:=first|exact dI|fail) only [List.map_cons, List.map_nil, Mis.pv_mk, push_cast, seval]
  ·rw [outM_f (fun h => h.elim o1 o2)]
   simp (disch:=first|exact dI|fail) only [List.map_nil, push_cast, seval]
set_option maxHeartbeats 4000000 in
theorem all24_1 (n : Nat) (ih : AllR n) (hB : bnd n ≤ 216000000) (t : Typ) (v : Val) (p : List UInt8) (hd : dep (n + 1) v) (ht : tyOk (n + 1) t) (hv : v.ok) (hp : p.length + 200 * (n + 1) ≤ 100000) (h : ¬ (t.kind < 1 ∨ 10 < t.kind ∨ ¬ v.kind = t.kind)) (hf : formedV v = true) (hk : t.kind = 1) : Pure Tryz.prog tabG 24 [t.pv, v.pv, .str p] (.list ((missN (n + 1) t v p).map Mis.pv)) := by
 have hd0 := hd
 simp only [dep] at hd0
 have h57 := formed57 v (by omega) (by omega) (by omega)
 have h60 := fields60 n ih hB t v p hd ht hv hp
 have h59 := elements59 n ih hB t v p hd ht hv hp
 have h58 := has58 t.words v.text (by have := ht; simp only [tyOk] at this; omega)
 have h61 := typeField61 t v.text (by have := ht; simp only [tyOk] at this; omega)
 have hvo := hv
 rw [missN_succ, miss1_none h hf hk]
 obtain ⟨k, m, M, s, w, e, fs⟩ := t
 obtain ⟨vk, vi, vs, vt, vl, vf⟩ := v
 simp only [dep, tyOk, Val.lst, Val.fields, Val.text, Typ.fields, Typ.words, Typ.elem, Typ.kind, Val.kind, Typ.min, Typ.max, Typ.scale, Val.num, Val.scale] at *
 obtain ⟨d1, d2, d3, d4, d5⟩ := hd
 obtain ⟨t1, t2, t3, t4⟩ := ht
 refine Pure.intro F24_ok (by simp [F24]) ?_
 rw [Typ.pv_mk, Val.pv_mk] at *
 have c : vk = 1 := by omega
 subst hk c
 rw [hf] at h57
 simp (disch:=first|exact dI|fail) only [F24, push_cast, seval]
 refine ACall.pure h57 rfl ?_
 simp (disch:=first|exact dI|fail) only [List.map_nil, push_cast, seval]
set_option maxHeartbeats 4000000 in
theorem all24_3s (n : Nat) (ih : AllR n) (hB : bnd n ≤ 216000000) (t : Typ) (v : Val) (p : List UInt8) (hd : dep (n + 1) v) (ht : tyOk (n + 1) t) (hv : v.ok) (hp : p.length + 200 * (n + 1) ≤ 100000) (h : ¬ (t.kind < 1 ∨ 10 < t.kind ∨ ¬ v.kind = t.kind)) (hf : formedV v = true) (hk : t.kind = 3) (hs : v.scale = t.scale) : Pure Tryz.prog tabG 24 [t.pv, v.pv, .str p] (.list ((missN (n + 1) t v p).map Mis.pv)) := by
 have hd0 := hd
 simp only [dep] at hd0
 have h57 := formed57 v (by omega) (by omega) (by omega)
 have h60 := fields60 n ih hB t v p hd ht hv hp
 have h59 := elements59 n ih hB t v p hd ht hv hp
 have h58 := has58 t.words v.text (by have := ht; simp only [tyOk] at this; omega)
 have h61 := typeField61 t v.text (by have := ht; simp only [tyOk] at this; omega)
 have hvo := hv
 rw [missN_succ, miss1_dec h hf hk hs]
 obtain ⟨k, m, M, s, w, e, fs⟩ := t
 obtain ⟨vk, vi, vs, vt, vl, vf⟩ := v
 simp only [dep, tyOk, Val.lst, Val.fields, Val.text, Typ.fields, Typ.words, Typ.elem, Typ.kind, Val.kind, Typ.min, Typ.max, Typ.scale, Val.num, Val.scale] at *
 obtain ⟨d1, d2, d3, d4, d5⟩ := hd
 obtain ⟨t1, t2, t3, t4⟩ := ht
 refine Pure.intro F24_ok (by simp [F24]) ?_
 rw [Typ.pv_mk, Val.pv_mk] at *
 have c : vk = 3 := by omega
 subst hk c
 rw [hf] at h57
 simp (disch:=first|exact dI|fail) only [F24, push_cast, seval]
 refine ACall.pure h57 rfl ?_
 by_cases o1 : vi < m
 ·rw [outM_t (.inl o1)]
  simp (disch:=first|exact dI|fail) only [hs, List.map_cons, List.map_nil, Mis.pv_mk, push_cast, seval]
 ·by_cases o2 : M < vi
  ·rw [outM_t (.inr o2)]
   simp (disch:=first|exact dI|fail) only [hs, List.map_cons, List.map_nil, Mis.pv_mk, push_cast, seval]
  ·rw [outM_f (fun h => h.elim o1 o2)]
   simp (disch:=first|exact dI|fail) only [hs, List.map_nil, push_cast, seval]
set_option maxHeartbeats 4000000 in
theorem all24_3 (n : Nat) (ih : AllR n) (hB : bnd n ≤ 216000000) (t : Typ) (v : Val) (p : List UInt8) (hd : dep (n + 1) v) (ht : tyOk (n + 1) t) (hv : v.ok) (hp : p.length + 200 * (n + 1) ≤ 100000) (h : ¬ (t.kind < 1 ∨ 10 < t.kind ∨ ¬ v.kind = t.kind)) (hf : formedV v = true) (hk : t.kind = 3) (hs : ¬ v.scale = t.scale) : Pure Tryz.prog tabG 24 [t.pv, v.pv, .str p] (.list ((missN (n + 1) t v p).map Mis.pv)) := by
 have hd0 := hd
 simp only [dep] at hd0
 have h57 := formed57 v (by omega) (by omega) (by omega)
 have h60 := fields60 n ih hB t v p hd ht hv hp
 have h59 := elements59 n ih hB t v p hd ht hv hp
 have h58 := has58 t.words v.text (by have := ht; simp only [tyOk] at this; omega)
 have h61 := typeField61 t v.text (by have := ht; simp only [tyOk] at this; omega)
 have hvo := hv
 rw [missN_succ, miss1_scale h hf hk hs]
 obtain ⟨k, m, M, s, w, e, fs⟩ := t
 obtain ⟨vk, vi, vs, vt, vl, vf⟩ := v
 simp only [dep, tyOk, Val.lst, Val.fields, Val.text, Typ.fields, Typ.words, Typ.elem, Typ.kind, Val.kind, Typ.min, Typ.max, Typ.scale, Val.num, Val.scale] at *
 obtain ⟨d1, d2, d3, d4, d5⟩ := hd
 obtain ⟨t1, t2, t3, t4⟩ := ht
 refine Pure.intro F24_ok (by simp [F24]) ?_
 rw [Typ.pv_mk, Val.pv_mk] at *
 have c : vk = 3 := by omega
 subst hk c
 rw [hf] at h57
 simp (disch:=first|exact dI|fail) only [F24, push_cast, seval]
 refine ACall.pure h57 rfl ?_
 simp (disch:=first|exact dI|fail) only [hs, List.map_cons, List.map_nil, Mis.pv_mk, push_cast, seval]
set_option maxHeartbeats 4000000 in
theorem all24_5 (n : Nat) (ih : AllR n) (hB : bnd n ≤ 216000000) (t : Typ) (v : Val) (p : List UInt8) (hd : dep (n + 1) v) (ht : tyOk (n + 1) t) (hv : v.ok) (hp : p.length + 200 * (n + 1) ≤ 100000) (h : ¬ (t.kind < 1 ∨ 10 < t.kind ∨ ¬ v.kind = t.kind)) (hf : formedV v = true) (hk : t.kind = 5) : Pure Tryz.prog tabG 24 [t.pv, v.pv, .str p] (.list ((missN (n + 1) t v p).map Mis.pv)) := by
 have hd0 := hd
 simp only [dep] at hd0
 have h57 := formed57 v (by omega) (by omega) (by omega)
 have h60 := fields60 n ih hB t v p hd ht hv hp
 have h59 := elements59 n ih hB t v p hd ht hv hp
 have h58 := has58 t.words v.text (by have := ht; simp only [tyOk] at this; omega)
 have h61 := typeField61 t v.text (by have := ht; simp only [tyOk] at this; omega)
 have hvo := hv
 rw [missN_succ, miss1_text h hf (.inr hk) (by omega)]
 obtain ⟨k, m, M, s, w, e, fs⟩ := t
 obtain ⟨vk, vi, vs, vt, vl, vf⟩ := v
 simp only [dep, tyOk, Val.lst, Val.fields, Val.text, Typ.fields, Typ.words, Typ.elem, Typ.kind, Val.kind, Typ.min, Typ.max, Typ.scale, Val.num, Val.scale] at *
 obtain ⟨d1, d2, d3, d4, d5⟩ := hd
 obtain ⟨t1, t2, t3, t4⟩ := ht
 refine Pure.intro F24_ok (by simp [F24]) ?_
 rw [Typ.pv_mk, Val.pv_mk] at *
 have c : vk = 5 := by omega
 subst hk c
 rw [hf] at h57
 simp (disch:=first|exact dI|fail) only [F24, push_cast, seval]
 refine ACall.pure h57 rfl ?_
 by_cases o1 : (vt.length : Int) < m
 ·rw [outM_t (.inl o1)]
  simp (disch:=first|exact dI|fail) only [List.map_cons, List.map_nil, Mis.pv_mk, push_cast, seval]
 ·by_cases o2 : M < (vt.length : Int)
  ·rw [outM_t (.inr o2)]
   simp (disch:=first|exact dI|fail) only [List.map_cons, List.map_nil, Mis.pv_mk, push_cast, seval]
  ·rw [outM_f (fun h => h.elim o1 o2)]
   simp (disch:=first|exact dI|fail) only [List.map_nil, push_cast, seval]
set_option maxHeartbeats 4000000 in
theorem all24_4 (n : Nat) (ih : AllR n) (hB : bnd n ≤ 216000000) (t : Typ) (v : Val) (p : List UInt8) (hd : dep (n + 1) v) (ht : tyOk (n + 1) t) (hv : v.ok) (hp : p.length + 200 * (n + 1) ≤ 100000) (h : ¬ (t.kind < 1 ∨ 10 < t.kind ∨ ¬ v.kind = t.kind)) (hf : formedV v = true) (hk : t.kind = 4) (hw : t.words.length = 0) : Pure Tryz.prog tabG 24 [t.pv, v.pv, .str p] (.list ((missN (n + 1) t v p).map Mis.pv)) := by
 have hd0 := hd
 simp only [dep] at hd0
 have h57 := formed57 v (by omega) (by omega) (by omega)
 have h60 := fields60 n ih hB t v p hd ht hv hp
 have h59 := elements59 n ih hB t v p hd ht hv hp
 have h58 := has58 t.words v.text (by have := ht; simp only [tyOk] at this; omega)
 have h61 := typeField61 t v.text (by have := ht; simp only [tyOk] at this; omega)
 have hvo := hv
 rw [missN_succ, miss1_text h hf (.inl hk) (fun _ => hw)]
 obtain ⟨k, m, M, s, w, e, fs⟩ := t
 obtain ⟨vk, vi, vs, vt, vl, vf⟩ := v
 simp only [dep, tyOk, Val.lst, Val.fields, Val.text, Typ.fields, Typ.words, Typ.elem, Typ.kind, Val.kind, Typ.min, Typ.max, Typ.scale, Val.num, Val.scale] at *
 obtain ⟨d1, d2, d3, d4, d5⟩ := hd
 obtain ⟨t1, t2, t3, t4⟩ := ht
 refine Pure.intro F24_ok (by simp [F24]) ?_
 rw [Typ.pv_mk, Val.pv_mk] at *
 have c : vk = 4 := by omega
 subst hk c
 rw [hf] at h57
 have hz : ¬ (0 : Int) < w.length := by omega
 simp (disch:=first|exact dI|fail) only [F24, push_cast, seval]
 refine ACall.pure h57 rfl ?_
 by_cases o1 : (vt.length : Int) < m
 ·rw [outM_t (.inl o1)]
  simp (disch:=first|exact dI|fail) only [List.map_cons, List.map_nil, Mis.pv_mk, push_cast, seval]
 ·by_cases o2 : M < (vt.length : Int)
  ·rw [outM_t (.inr o2)]
   simp (disch:=first|exact dI|fail) only [List.map_cons, List.map_nil, Mis.pv_mk, push_cast, seval]
  ·rw [outM_f (fun h => h.elim o1 o2)]
   simp (disch:=first|exact dI|fail) only [List.map_nil, push_cast, seval]
set_option maxHeartbeats 4000000 in
theorem all24_4w (n : Nat) (ih : AllR n) (hB : bnd n ≤ 216000000) (t : Typ) (v : Val) (p : List UInt8) (hd : dep (n + 1) v) (ht : tyOk (n + 1) t) (hv : v.ok) (hp : p.length + 200 * (n + 1) ≤ 100000) (h : ¬ (t.kind < 1 ∨ 10 < t.kind ∨ ¬ v.kind = t.kind)) (hf : formedV v = true) (hk : t.kind = 4) (hw : 0 < t.words.length) (ha : (t.words.any fun x => decide (x = v.text)) = true) : Pure Tryz.prog tabG 24 [t.pv, v.pv, .str p] (.list ((missN (n + 1) t v p).map Mis.pv)) := by
 have hd0 := hd
 simp only [dep] at hd0
 have h57 := formed57 v (by omega) (by omega) (by omega)
 have h60 := fields60 n ih hB t v p hd ht hv hp
 have h59 := elements59 n ih hB t v p hd ht hv hp
 have h58 := has58 t.words v.text (by have := ht; simp only [tyOk] at this; omega)
 have h61 := typeField61 t v.text (by have := ht; simp only [tyOk] at this; omega)
 have hvo := hv
 rw [missN_succ, miss1_word h hf hk hw ha]
 obtain ⟨k, m, M, s, w, e, fs⟩ := t
 obtain ⟨vk, vi, vs, vt, vl, vf⟩ := v
 simp only [dep, tyOk, Val.lst, Val.fields, Val.text, Typ.fields, Typ.words, Typ.elem, Typ.kind, Val.kind, Typ.min, Typ.max, Typ.scale, Val.num, Val.scale] at *
 obtain ⟨d1, d2, d3, d4, d5⟩ := hd
 obtain ⟨t1, t2, t3, t4⟩ := ht
 refine Pure.intro F24_ok (by simp [F24]) ?_
 rw [Typ.pv_mk, Val.pv_mk] at *
 have c : vk = 4 := by omega
 subst hk c
 rw [hf] at h57
 rw [ha] at h58
 have hz : (0 : Int) < w.length := by omega
 simp (disch:=first|exact dI|fail) only [F24, push_cast, seval]
 refine ACall.pure h57 rfl ?_
 simp (disch:=first|exact dI|fail) only [push_cast, seval]
 refine ACall.pure h58 rfl ?_
 simp (disch:=first|exact dI|fail) only [List.map_nil, push_cast, seval]
set_option maxHeartbeats 4000000 in
theorem all24_4n (n : Nat) (ih : AllR n) (hB : bnd n ≤ 216000000) (t : Typ) (v : Val) (p : List UInt8) (hd : dep (n + 1) v) (ht : tyOk (n + 1) t) (hv : v.ok) (hp : p.length + 200 * (n + 1) ≤ 100000) (h : ¬ (t.kind < 1 ∨ 10 < t.kind ∨ ¬ v.kind = t.kind)) (hf : formedV v = true) (hk : t.kind = 4) (hw : 0 < t.words.length) (ha : (t.words.any fun x => decide (x = v.text)) = false) : Pure Tryz.prog tabG 24 [t.pv, v.pv, .str p] (.list ((missN (n + 1) t v p).map Mis.pv)) := by
 have hd0 := hd
 simp only [dep] at hd0
 have h57 := formed57 v (by omega) (by omega) (by omega)
 have h60 := fields60 n ih hB t v p hd ht hv hp
 have h59 := elements59 n ih hB t v p hd ht hv hp
 have h58 := has58 t.words v.text (by have := ht; simp only [tyOk] at this; omega)
 have h61 := typeField61 t v.text (by have := ht; simp only [tyOk] at this; omega)
 have hvo := hv
 rw [missN_succ, miss1_noword h hf hk hw ha]
 obtain ⟨k, m, M, s, w, e, fs⟩ := t
 obtain ⟨vk, vi, vs, vt, vl, vf⟩ := v
 simp only [dep, tyOk, Val.lst, Val.fields, Val.text, Typ.fields, Typ.words, Typ.elem, Typ.kind, Val.kind, Typ.min, Typ.max, Typ.scale, Val.num, Val.scale] at *
 obtain ⟨d1, d2, d3, d4, d5⟩ := hd
 obtain ⟨t1, t2, t3, t4⟩ := ht
 refine Pure.intro F24_ok (by simp [F24]) ?_
 rw [Typ.pv_mk, Val.pv_mk] at *
 have c : vk = 4 := by omega
 subst hk c
 rw [hf] at h57
 rw [ha] at h58
 have hz : (0 : Int) < w.length := by omega
 simp (disch:=first|exact dI|fail) only [F24, push_cast, seval]
 refine ACall.pure h57 rfl ?_
 simp (disch:=first|exact dI|fail) only [push_cast, seval]
 refine ACall.pure h58 rfl ?_
 simp (disch:=first|exact dI|fail) only [List.map_cons, List.map_nil, Mis.pv_mk, push_cast, seval]
end Go.Proofs.YtbaaokocnegdoaaGreatDoor
