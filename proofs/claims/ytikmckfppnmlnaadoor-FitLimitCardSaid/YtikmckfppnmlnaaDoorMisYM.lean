/- A part of the proof for FitMisfitsCardSaid. -/
import Derived.Test.YtikmckfppnmlnaaDoorMisYL
set_option maxRecDepth 100000
set_option linter.unusedVariables false
set_option linter.unusedSimpArgs false
namespace Go.Proofs.YtikmckfppnmlnaaDoor
open Go Go.Ab
open Nat (reduceEqDiff reduceAdd reduceMul reduceLeDiff reduceLT reduceSub)
attribute [local irreducible] vc

set_option maxHeartbeats 4000000 in
theorem find56M_kind (n : Nat) (ih : FindM n) (t : Typ) (v : Val) (p : List UInt8) (l : List Mis) (R : Bool × List Mis) (hd : dep (n + 1) v) (ht : tyOk (n + 1) t) (hv : v.ok) (hp : p.length + 200 * (n + 1) ≤ 100000) (hi : invM false l) (hR : R = addM false l (missN (n + 1) t v p)) (h : t.kind < 1 ∨ 10 < t.kind ∨ ¬ v.kind = t.kind) :
    Lent Tryd.prog tabG 2 56 [.ptr 0 0, .pv t.pv, .pv v.pv, .pv (.str p)] (blkM false l) (.pv (.tup [])) (blkM R.1 R.2) := by
  have hd0 := hd
  simp only [dep] at hd0
  have h84 := formed84 v (by omega) (by omega) (by omega)
  have h85 := fun k => out85M false l t p k (by have := hi.1; omega) _ rfl
  have h83 := fun c => add83M false l p c (by have := hi.1; omega)
  have h88 := fun h9 hR => record88M n ih t v p false l R hd ht hv h9 hp hi hR
  have h86 := contains86 t.words v.text (by have := ht; simp only [tyOk] at this; omega)
  have h89 := typeField89 t v.text (by have := ht; simp only [tyOk] at this; omega)
  have hvo := hv
  have h83 := h83 1
  rw [missN_succ, miss1_kind h, addM_one] at hR
  obtain ⟨k, m, M, s, w, e, fs⟩ := t
  obtain ⟨vk, vi, vs, vt, vl, vf⟩ := v
  simp only [dep, tyOk, Val.lst, Val.fields, Val.text, Typ.fields, Typ.words, Typ.elem, Typ.kind, Val.kind, Typ.min, Typ.max, Typ.scale, Val.num, Val.scale] at *
  obtain ⟨d1, d2, d3, d4, d5⟩ := hd
  obtain ⟨t1, t2, t3, t4⟩ := ht
  refine Lent.intro F56_ok (by simp [F56]) ?_
  rw [Typ.pv_mk, Val.pv_mk] at *
  simp only [blkM] at *
  rw [← hR] at h83
  by_cases a : k < 1
  · simp (maxSteps := 1000000) (disch := first | exact dI | fail) only [F56o0, F56o1, F56o2, F56o3, F56o4, F56o5, F56o6, F56o7, F56o8, F56o9, F56o10, F56o11, F56o12, F56o13, F56o14, F56o15, F56o16, F56o17, F56o18, F56o19, F56o20, F56o21, F56o22, F56o23, F56o24, F56o25, F56o26, F56o27, F56o28, F56p28, F56o29, F56o30, F56b31, F56o32, F56o33, F56o34, F56o35, F56o36, F56o37, F56p37, F56o38, F56c, F56, a, push_cast, ↓reduceIte, reduceEqDiff, reduceAdd, reduceMul, reduceLeDiff, reduceLT, Nat.reduceBEq, reduceSub, Int.reduceToNat, Int.reduceNeg]
    refine ACall.lentK h83 [0, 1, 2] rfl (by simp (maxSteps := 1000000) (disch := first | exact dI | fail) only [push_cast, ↓reduceIte, reduceEqDiff, reduceAdd, reduceMul, reduceLeDiff, reduceLT, Nat.reduceBEq, reduceSub, Int.reduceToNat, Int.reduceNeg]) (by simp (maxSteps := 1000000) (disch := first | exact dI | fail) only [push_cast, ↓reduceIte, reduceEqDiff, reduceAdd, reduceMul, reduceLeDiff, reduceLT, Nat.reduceBEq, reduceSub, Int.reduceToNat, Int.reduceNeg]) ?_
    simp (maxSteps := 1000000) (disch := first | exact dI | fail) only [push_cast, ↓reduceIte, reduceEqDiff, reduceAdd, reduceMul, reduceLeDiff, reduceLT, Nat.reduceBEq, reduceSub, Int.reduceToNat, Int.reduceNeg]
    exact lent_z [] (by simp (maxSteps := 1000000) (disch := first | exact dI | fail) only [push_cast, ↓reduceIte, reduceEqDiff, reduceAdd, reduceMul, reduceLeDiff, reduceLT, Nat.reduceBEq, reduceSub, Int.reduceToNat, Int.reduceNeg])
  · by_cases b : 10 < k
    · simp (maxSteps := 1000000) (disch := first | exact dI | fail) only [F56o0, F56o1, F56o2, F56o3, F56o4, F56o5, F56o6, F56o7, F56o8, F56o9, F56o10, F56o11, F56o12, F56o13, F56o14, F56o15, F56o16, F56o17, F56o18, F56o19, F56o20, F56o21, F56o22, F56o23, F56o24, F56o25, F56o26, F56o27, F56o28, F56p28, F56o29, F56o30, F56b31, F56o32, F56o33, F56o34, F56o35, F56o36, F56o37, F56p37, F56o38, F56c, F56, a, b, push_cast, ↓reduceIte, reduceEqDiff, reduceAdd, reduceMul, reduceLeDiff, reduceLT, Nat.reduceBEq, reduceSub, Int.reduceToNat, Int.reduceNeg]
      refine ACall.lentK h83 [0, 1, 2] rfl (by simp (maxSteps := 1000000) (disch := first | exact dI | fail) only [push_cast, ↓reduceIte, reduceEqDiff, reduceAdd, reduceMul, reduceLeDiff, reduceLT, Nat.reduceBEq, reduceSub, Int.reduceToNat, Int.reduceNeg]) (by simp (maxSteps := 1000000) (disch := first | exact dI | fail) only [push_cast, ↓reduceIte, reduceEqDiff, reduceAdd, reduceMul, reduceLeDiff, reduceLT, Nat.reduceBEq, reduceSub, Int.reduceToNat, Int.reduceNeg]) ?_
      simp (maxSteps := 1000000) (disch := first | exact dI | fail) only [push_cast, ↓reduceIte, reduceEqDiff, reduceAdd, reduceMul, reduceLeDiff, reduceLT, Nat.reduceBEq, reduceSub, Int.reduceToNat, Int.reduceNeg]
      exact lent_z [] (by simp (maxSteps := 1000000) (disch := first | exact dI | fail) only [push_cast, ↓reduceIte, reduceEqDiff, reduceAdd, reduceMul, reduceLeDiff, reduceLT, Nat.reduceBEq, reduceSub, Int.reduceToNat, Int.reduceNeg])
    · have c : ¬ vk = k := by omega
      simp (maxSteps := 1000000) (disch := first | exact dI | fail) only [F56o0, F56o1, F56o2, F56o3, F56o4, F56o5, F56o6, F56o7, F56o8, F56o9, F56o10, F56o11, F56o12, F56o13, F56o14, F56o15, F56o16, F56o17, F56o18, F56o19, F56o20, F56o21, F56o22, F56o23, F56o24, F56o25, F56o26, F56o27, F56o28, F56p28, F56o29, F56o30, F56b31, F56o32, F56o33, F56o34, F56o35, F56o36, F56o37, F56p37, F56o38, F56c, F56, a, b, c, push_cast, ↓reduceIte, reduceEqDiff, reduceAdd, reduceMul, reduceLeDiff, reduceLT, Nat.reduceBEq, reduceSub, Int.reduceToNat, Int.reduceNeg]
      refine ACall.lentK h83 [0, 1, 2] rfl (by simp (maxSteps := 1000000) (disch := first | exact dI | fail) only [push_cast, ↓reduceIte, reduceEqDiff, reduceAdd, reduceMul, reduceLeDiff, reduceLT, Nat.reduceBEq, reduceSub, Int.reduceToNat, Int.reduceNeg]) (by simp (maxSteps := 1000000) (disch := first | exact dI | fail) only [push_cast, ↓reduceIte, reduceEqDiff, reduceAdd, reduceMul, reduceLeDiff, reduceLT, Nat.reduceBEq, reduceSub, Int.reduceToNat, Int.reduceNeg]) ?_
      simp (maxSteps := 1000000) (disch := first | exact dI | fail) only [push_cast, ↓reduceIte, reduceEqDiff, reduceAdd, reduceMul, reduceLeDiff, reduceLT, Nat.reduceBEq, reduceSub, Int.reduceToNat, Int.reduceNeg]
      exact lent_z [] (by simp (maxSteps := 1000000) (disch := first | exact dI | fail) only [push_cast, ↓reduceIte, reduceEqDiff, reduceAdd, reduceMul, reduceLeDiff, reduceLT, Nat.reduceBEq, reduceSub, Int.reduceToNat, Int.reduceNeg])

set_option maxHeartbeats 4000000 in
theorem find56M_bad (n : Nat) (ih : FindM n) (t : Typ) (v : Val) (p : List UInt8) (l : List Mis) (R : Bool × List Mis) (hd : dep (n + 1) v) (ht : tyOk (n + 1) t) (hv : v.ok) (hp : p.length + 200 * (n + 1) ≤ 100000) (hi : invM false l) (hR : R = addM false l (missN (n + 1) t v p)) (h : ¬ (t.kind < 1 ∨ 10 < t.kind ∨ ¬ v.kind = t.kind)) (hf : formedV v = false) :
    Lent Tryd.prog tabG 2 56 [.ptr 0 0, .pv t.pv, .pv v.pv, .pv (.str p)] (blkM false l) (.pv (.tup [])) (blkM R.1 R.2) := by
  have hd0 := hd
  simp only [dep] at hd0
  have h84 := formed84 v (by omega) (by omega) (by omega)
  have h85 := fun k => out85M false l t p k (by have := hi.1; omega) _ rfl
  have h83 := fun c => add83M false l p c (by have := hi.1; omega)
  have h88 := fun h9 hR => record88M n ih t v p false l R hd ht hv h9 hp hi hR
  have h86 := contains86 t.words v.text (by have := ht; simp only [tyOk] at this; omega)
  have h89 := typeField89 t v.text (by have := ht; simp only [tyOk] at this; omega)
  have hvo := hv
  have h83 := h83 8
  rw [missN_succ, miss1_bad h hf, addM_one] at hR
  obtain ⟨k, m, M, s, w, e, fs⟩ := t
  obtain ⟨vk, vi, vs, vt, vl, vf⟩ := v
  simp only [dep, tyOk, Val.lst, Val.fields, Val.text, Typ.fields, Typ.words, Typ.elem, Typ.kind, Val.kind, Typ.min, Typ.max, Typ.scale, Val.num, Val.scale] at *
  obtain ⟨d1, d2, d3, d4, d5⟩ := hd
  obtain ⟨t1, t2, t3, t4⟩ := ht
  refine Lent.intro F56_ok (by simp [F56]) ?_
  rw [Typ.pv_mk, Val.pv_mk] at *
  simp only [blkM] at *
  have a : ¬ k < 1 := by omega
  have b : ¬ 10 < k := by omega
  have c : vk = k := by omega
  subst c
  rw [← hR] at h83
  rw [hf] at h84
  simp (maxSteps := 1000000) (disch := first | exact dI | fail) only [F56o0, F56o1, F56o2, F56o3, F56o4, F56o5, F56o6, F56o7, F56o8, F56o9, F56o10, F56o11, F56o12, F56o13, F56o14, F56o15, F56o16, F56o17, F56o18, F56o19, F56o20, F56o21, F56o22, F56o23, F56o24, F56o25, F56o26, F56o27, F56o28, F56p28, F56o29, F56o30, F56b31, F56o32, F56o33, F56o34, F56o35, F56o36, F56o37, F56p37, F56o38, F56c, F56, a, b, push_cast, ↓reduceIte, reduceEqDiff, reduceAdd, reduceMul, reduceLeDiff, reduceLT, Nat.reduceBEq, reduceSub, Int.reduceToNat, Int.reduceNeg]
  refine ACall.pure h84 rfl ?_
  simp (maxSteps := 1000000) (disch := first | exact dI | fail) only [push_cast, ↓reduceIte, reduceEqDiff, reduceAdd, reduceMul, reduceLeDiff, reduceLT, Nat.reduceBEq, reduceSub, Int.reduceToNat, Int.reduceNeg]
  refine ACall.lentK h83 [0, 1, 2] rfl (by simp (maxSteps := 1000000) (disch := first | exact dI | fail) only [push_cast, ↓reduceIte, reduceEqDiff, reduceAdd, reduceMul, reduceLeDiff, reduceLT, Nat.reduceBEq, reduceSub, Int.reduceToNat, Int.reduceNeg]) (by simp (maxSteps := 1000000) (disch := first | exact dI | fail) only [push_cast, ↓reduceIte, reduceEqDiff, reduceAdd, reduceMul, reduceLeDiff, reduceLT, Nat.reduceBEq, reduceSub, Int.reduceToNat, Int.reduceNeg]) ?_
  simp (maxSteps := 1000000) (disch := first | exact dI | fail) only [push_cast, ↓reduceIte, reduceEqDiff, reduceAdd, reduceMul, reduceLeDiff, reduceLT, Nat.reduceBEq, reduceSub, Int.reduceToNat, Int.reduceNeg]
  exact lent_z [] (by simp (maxSteps := 1000000) (disch := first | exact dI | fail) only [push_cast, ↓reduceIte, reduceEqDiff, reduceAdd, reduceMul, reduceLeDiff, reduceLT, Nat.reduceBEq, reduceSub, Int.reduceToNat, Int.reduceNeg])

set_option maxHeartbeats 4000000 in
theorem find56M_2 (n : Nat) (ih : FindM n) (t : Typ) (v : Val) (p : List UInt8) (l : List Mis) (R : Bool × List Mis) (hd : dep (n + 1) v) (ht : tyOk (n + 1) t) (hv : v.ok) (hp : p.length + 200 * (n + 1) ≤ 100000) (hi : invM false l) (hR : R = addM false l (missN (n + 1) t v p)) (h : ¬ (t.kind < 1 ∨ 10 < t.kind ∨ ¬ v.kind = t.kind)) (hf : formedV v = true) (hk : t.kind = 2) :
    Lent Tryd.prog tabG 2 56 [.ptr 0 0, .pv t.pv, .pv v.pv, .pv (.str p)] (blkM false l) (.pv (.tup [])) (blkM R.1 R.2) := by
  have hd0 := hd
  simp only [dep] at hd0
  have h84 := formed84 v (by omega) (by omega) (by omega)
  have h85 := fun k => out85M false l t p k (by have := hi.1; omega) _ rfl
  have h83 := fun c => add83M false l p c (by have := hi.1; omega)
  have h88 := fun h9 hR => record88M n ih t v p false l R hd ht hv h9 hp hi hR
  have h86 := contains86 t.words v.text (by have := ht; simp only [tyOk] at this; omega)
  have h89 := typeField89 t v.text (by have := ht; simp only [tyOk] at this; omega)
  have hvo := hv
  have h85 := h85 v.num
  rw [missN_succ, miss1_num h hf (by omega)] at hR
  obtain ⟨k, m, M, s, w, e, fs⟩ := t
  obtain ⟨vk, vi, vs, vt, vl, vf⟩ := v
  simp only [dep, tyOk, Val.lst, Val.fields, Val.text, Typ.fields, Typ.words, Typ.elem, Typ.kind, Val.kind, Typ.min, Typ.max, Typ.scale, Val.num, Val.scale] at *
  obtain ⟨d1, d2, d3, d4, d5⟩ := hd
  obtain ⟨t1, t2, t3, t4⟩ := ht
  refine Lent.intro F56_ok (by simp [F56]) ?_
  rw [Typ.pv_mk, Val.pv_mk] at *
  simp only [blkM] at *
  have c : vk = 2 := by omega
  subst hk c
  rw [← hR] at h85
  rw [hf] at h84
  simp (maxSteps := 1000000) (disch := first | exact dI | fail) only [F56o0, F56o1, F56o2, F56o3, F56o4, F56o5, F56o6, F56o7, F56o8, F56o9, F56o10, F56o11, F56o12, F56o13, F56o14, F56o15, F56o16, F56o17, F56o18, F56o19, F56o20, F56o21, F56o22, F56o23, F56o24, F56o25, F56o26, F56o27, F56o28, F56p28, F56o29, F56o30, F56b31, F56o32, F56o33, F56o34, F56o35, F56o36, F56o37, F56p37, F56o38, F56c, F56, push_cast, ↓reduceIte, reduceEqDiff, reduceAdd, reduceMul, reduceLeDiff, reduceLT, Nat.reduceBEq, reduceSub, Int.reduceToNat, Int.reduceNeg]
  refine ACall.pure h84 rfl ?_
  simp (maxSteps := 1000000) (disch := first | exact dI | fail) only [push_cast, ↓reduceIte, reduceEqDiff, reduceAdd, reduceMul, reduceLeDiff, reduceLT, Nat.reduceBEq, reduceSub, Int.reduceToNat, Int.reduceNeg]
  refine ACall.lentK h85 [0, 1, 2] rfl (by simp (maxSteps := 1000000) (disch := first | exact dI | fail) only [push_cast, ↓reduceIte, reduceEqDiff, reduceAdd, reduceMul, reduceLeDiff, reduceLT, Nat.reduceBEq, reduceSub, Int.reduceToNat, Int.reduceNeg]) (by simp (maxSteps := 1000000) (disch := first | exact dI | fail) only [push_cast, ↓reduceIte, reduceEqDiff, reduceAdd, reduceMul, reduceLeDiff, reduceLT, Nat.reduceBEq, reduceSub, Int.reduceToNat, Int.reduceNeg]) ?_
  simp (maxSteps := 1000000) (disch := first | exact dI | fail) only [push_cast, ↓reduceIte, reduceEqDiff, reduceAdd, reduceMul, reduceLeDiff, reduceLT, Nat.reduceBEq, reduceSub, Int.reduceToNat, Int.reduceNeg]
  exact lent_z [] (by simp (maxSteps := 1000000) (disch := first | exact dI | fail) only [push_cast, ↓reduceIte, reduceEqDiff, reduceAdd, reduceMul, reduceLeDiff, reduceLT, Nat.reduceBEq, reduceSub, Int.reduceToNat, Int.reduceNeg])

set_option maxHeartbeats 4000000 in
theorem find56M_6 (n : Nat) (ih : FindM n) (t : Typ) (v : Val) (p : List UInt8) (l : List Mis) (R : Bool × List Mis) (hd : dep (n + 1) v) (ht : tyOk (n + 1) t) (hv : v.ok) (hp : p.length + 200 * (n + 1) ≤ 100000) (hi : invM false l) (hR : R = addM false l (missN (n + 1) t v p)) (h : ¬ (t.kind < 1 ∨ 10 < t.kind ∨ ¬ v.kind = t.kind)) (hf : formedV v = true) (hk : t.kind = 6) :
    Lent Tryd.prog tabG 2 56 [.ptr 0 0, .pv t.pv, .pv v.pv, .pv (.str p)] (blkM false l) (.pv (.tup [])) (blkM R.1 R.2) := by
  have hd0 := hd
  simp only [dep] at hd0
  have h84 := formed84 v (by omega) (by omega) (by omega)
  have h85 := fun k => out85M false l t p k (by have := hi.1; omega) _ rfl
  have h83 := fun c => add83M false l p c (by have := hi.1; omega)
  have h88 := fun h9 hR => record88M n ih t v p false l R hd ht hv h9 hp hi hR
  have h86 := contains86 t.words v.text (by have := ht; simp only [tyOk] at this; omega)
  have h89 := typeField89 t v.text (by have := ht; simp only [tyOk] at this; omega)
  have hvo := hv
  have h85 := h85 v.num
  rw [missN_succ, miss1_num h hf (by omega)] at hR
  obtain ⟨k, m, M, s, w, e, fs⟩ := t
  obtain ⟨vk, vi, vs, vt, vl, vf⟩ := v
  simp only [dep, tyOk, Val.lst, Val.fields, Val.text, Typ.fields, Typ.words, Typ.elem, Typ.kind, Val.kind, Typ.min, Typ.max, Typ.scale, Val.num, Val.scale] at *
  obtain ⟨d1, d2, d3, d4, d5⟩ := hd
  obtain ⟨t1, t2, t3, t4⟩ := ht
  refine Lent.intro F56_ok (by simp [F56]) ?_
  rw [Typ.pv_mk, Val.pv_mk] at *
  simp only [blkM] at *
  have c : vk = 6 := by omega
  subst hk c
  rw [← hR] at h85
  rw [hf] at h84
  simp (maxSteps := 1000000) (disch := first | exact dI | fail) only [F56o0, F56o1, F56o2, F56o3, F56o4, F56o5, F56o6, F56o7, F56o8, F56o9, F56o10, F56o11, F56o12, F56o13, F56o14, F56o15, F56o16, F56o17, F56o18, F56o19, F56o20, F56o21, F56o22, F56o23, F56o24, F56o25, F56o26, F56o27, F56o28, F56p28, F56o29, F56o30, F56b31, F56o32, F56o33, F56o34, F56o35, F56o36, F56o37, F56p37, F56o38, F56c, F56, push_cast, ↓reduceIte, reduceEqDiff, reduceAdd, reduceMul, reduceLeDiff, reduceLT, Nat.reduceBEq, reduceSub, Int.reduceToNat, Int.reduceNeg]
  refine ACall.pure h84 rfl ?_
  simp (maxSteps := 1000000) (disch := first | exact dI | fail) only [push_cast, ↓reduceIte, reduceEqDiff, reduceAdd, reduceMul, reduceLeDiff, reduceLT, Nat.reduceBEq, reduceSub, Int.reduceToNat, Int.reduceNeg]
  refine ACall.lentK h85 [0, 1, 2] rfl (by simp (maxSteps := 1000000) (disch := first | exact dI | fail) only [push_cast, ↓reduceIte, reduceEqDiff, reduceAdd, reduceMul, reduceLeDiff, reduceLT, Nat.reduceBEq, reduceSub, Int.reduceToNat, Int.reduceNeg]) (by simp (maxSteps := 1000000) (disch := first | exact dI | fail) only [push_cast, ↓reduceIte, reduceEqDiff, reduceAdd, reduceMul, reduceLeDiff, reduceLT, Nat.reduceBEq, reduceSub, Int.reduceToNat, Int.reduceNeg]) ?_
  simp (maxSteps := 1000000) (disch := first | exact dI | fail) only [push_cast, ↓reduceIte, reduceEqDiff, reduceAdd, reduceMul, reduceLeDiff, reduceLT, Nat.reduceBEq, reduceSub, Int.reduceToNat, Int.reduceNeg]
  exact lent_z [] (by simp (maxSteps := 1000000) (disch := first | exact dI | fail) only [push_cast, ↓reduceIte, reduceEqDiff, reduceAdd, reduceMul, reduceLeDiff, reduceLT, Nat.reduceBEq, reduceSub, Int.reduceToNat, Int.reduceNeg])

set_option maxHeartbeats 4000000 in
theorem find56M_7 (n : Nat) (ih : FindM n) (t : Typ) (v : Val) (p : List UInt8) (l : List Mis) (R : Bool × List Mis) (hd : dep (n + 1) v) (ht : tyOk (n + 1) t) (hv : v.ok) (hp : p.length + 200 * (n + 1) ≤ 100000) (hi : invM false l) (hR : R = addM false l (missN (n + 1) t v p)) (h : ¬ (t.kind < 1 ∨ 10 < t.kind ∨ ¬ v.kind = t.kind)) (hf : formedV v = true) (hk : t.kind = 7) :
    Lent Tryd.prog tabG 2 56 [.ptr 0 0, .pv t.pv, .pv v.pv, .pv (.str p)] (blkM false l) (.pv (.tup [])) (blkM R.1 R.2) := by
  have hd0 := hd
  simp only [dep] at hd0
  have h84 := formed84 v (by omega) (by omega) (by omega)
  have h85 := fun k => out85M false l t p k (by have := hi.1; omega) _ rfl
  have h83 := fun c => add83M false l p c (by have := hi.1; omega)
  have h88 := fun h9 hR => record88M n ih t v p false l R hd ht hv h9 hp hi hR
  have h86 := contains86 t.words v.text (by have := ht; simp only [tyOk] at this; omega)
  have h89 := typeField89 t v.text (by have := ht; simp only [tyOk] at this; omega)
  have hvo := hv
  have h85 := h85 v.num
  rw [missN_succ, miss1_num h hf (by omega)] at hR
  obtain ⟨k, m, M, s, w, e, fs⟩ := t
  obtain ⟨vk, vi, vs, vt, vl, vf⟩ := v
  simp only [dep, tyOk, Val.lst, Val.fields, Val.text, Typ.fields, Typ.words, Typ.elem, Typ.kind, Val.kind, Typ.min, Typ.max, Typ.scale, Val.num, Val.scale] at *
  obtain ⟨d1, d2, d3, d4, d5⟩ := hd
  obtain ⟨t1, t2, t3, t4⟩ := ht
  refine Lent.intro F56_ok (by simp [F56]) ?_
  rw [Typ.pv_mk, Val.pv_mk] at *
  simp only [blkM] at *
  have c : vk = 7 := by omega
  subst hk c
  rw [← hR] at h85
  rw [hf] at h84
  simp (maxSteps := 1000000) (disch := first | exact dI | fail) only [F56o0, F56o1, F56o2, F56o3, F56o4, F56o5, F56o6, F56o7, F56o8, F56o9, F56o10, F56o11, F56o12, F56o13, F56o14, F56o15, F56o16, F56o17, F56o18, F56o19, F56o20, F56o21, F56o22, F56o23, F56o24, F56o25, F56o26, F56o27, F56o28, F56p28, F56o29, F56o30, F56b31, F56o32, F56o33, F56o34, F56o35, F56o36, F56o37, F56p37, F56o38, F56c, F56, push_cast, ↓reduceIte, reduceEqDiff, reduceAdd, reduceMul, reduceLeDiff, reduceLT, Nat.reduceBEq, reduceSub, Int.reduceToNat, Int.reduceNeg]
  refine ACall.pure h84 rfl ?_
  simp (maxSteps := 1000000) (disch := first | exact dI | fail) only [push_cast, ↓reduceIte, reduceEqDiff, reduceAdd, reduceMul, reduceLeDiff, reduceLT, Nat.reduceBEq, reduceSub, Int.reduceToNat, Int.reduceNeg]
  refine ACall.lentK h85 [0, 1, 2] rfl (by simp (maxSteps := 1000000) (disch := first | exact dI | fail) only [push_cast, ↓reduceIte, reduceEqDiff, reduceAdd, reduceMul, reduceLeDiff, reduceLT, Nat.reduceBEq, reduceSub, Int.reduceToNat, Int.reduceNeg]) (by simp (maxSteps := 1000000) (disch := first | exact dI | fail) only [push_cast, ↓reduceIte, reduceEqDiff, reduceAdd, reduceMul, reduceLeDiff, reduceLT, Nat.reduceBEq, reduceSub, Int.reduceToNat, Int.reduceNeg]) ?_
  simp (maxSteps := 1000000) (disch := first | exact dI | fail) only [push_cast, ↓reduceIte, reduceEqDiff, reduceAdd, reduceMul, reduceLeDiff, reduceLT, Nat.reduceBEq, reduceSub, Int.reduceToNat, Int.reduceNeg]
  exact lent_z [] (by simp (maxSteps := 1000000) (disch := first | exact dI | fail) only [push_cast, ↓reduceIte, reduceEqDiff, reduceAdd, reduceMul, reduceLeDiff, reduceLT, Nat.reduceBEq, reduceSub, Int.reduceToNat, Int.reduceNeg])

set_option maxHeartbeats 4000000 in
theorem find56M_1 (n : Nat) (ih : FindM n) (t : Typ) (v : Val) (p : List UInt8) (l : List Mis) (R : Bool × List Mis) (hd : dep (n + 1) v) (ht : tyOk (n + 1) t) (hv : v.ok) (hp : p.length + 200 * (n + 1) ≤ 100000) (hi : invM false l) (hR : R = addM false l (missN (n + 1) t v p)) (h : ¬ (t.kind < 1 ∨ 10 < t.kind ∨ ¬ v.kind = t.kind)) (hf : formedV v = true) (hk : t.kind = 1) :
    Lent Tryd.prog tabG 2 56 [.ptr 0 0, .pv t.pv, .pv v.pv, .pv (.str p)] (blkM false l) (.pv (.tup [])) (blkM R.1 R.2) := by
  have hd0 := hd
  simp only [dep] at hd0
  have h84 := formed84 v (by omega) (by omega) (by omega)
  have h85 := fun k => out85M false l t p k (by have := hi.1; omega) _ rfl
  have h83 := fun c => add83M false l p c (by have := hi.1; omega)
  have h88 := fun h9 hR => record88M n ih t v p false l R hd ht hv h9 hp hi hR
  have h86 := contains86 t.words v.text (by have := ht; simp only [tyOk] at this; omega)
  have h89 := typeField89 t v.text (by have := ht; simp only [tyOk] at this; omega)
  have hvo := hv
  rw [missN_succ, miss1_none h hf hk, addM_nil] at hR
  obtain ⟨k, m, M, s, w, e, fs⟩ := t
  obtain ⟨vk, vi, vs, vt, vl, vf⟩ := v
  simp only [dep, tyOk, Val.lst, Val.fields, Val.text, Typ.fields, Typ.words, Typ.elem, Typ.kind, Val.kind, Typ.min, Typ.max, Typ.scale, Val.num, Val.scale] at *
  obtain ⟨d1, d2, d3, d4, d5⟩ := hd
  obtain ⟨t1, t2, t3, t4⟩ := ht
  refine Lent.intro F56_ok (by simp [F56]) ?_
  rw [Typ.pv_mk, Val.pv_mk] at *
  simp only [blkM] at *
  have c : vk = 1 := by omega
  subst hk c hR
  rw [hf] at h84
  simp (maxSteps := 1000000) (disch := first | exact dI | fail) only [F56o0, F56o1, F56o2, F56o3, F56o4, F56o5, F56o6, F56o7, F56o8, F56o9, F56o10, F56o11, F56o12, F56o13, F56o14, F56o15, F56o16, F56o17, F56o18, F56o19, F56o20, F56o21, F56o22, F56o23, F56o24, F56o25, F56o26, F56o27, F56o28, F56p28, F56o29, F56o30, F56b31, F56o32, F56o33, F56o34, F56o35, F56o36, F56o37, F56p37, F56o38, F56c, F56, push_cast, ↓reduceIte, reduceEqDiff, reduceAdd, reduceMul, reduceLeDiff, reduceLT, Nat.reduceBEq, reduceSub, Int.reduceToNat, Int.reduceNeg]
  refine ACall.pure h84 rfl ?_
  simp (maxSteps := 1000000) (disch := first | exact dI | fail) only [push_cast, ↓reduceIte, reduceEqDiff, reduceAdd, reduceMul, reduceLeDiff, reduceLT, Nat.reduceBEq, reduceSub, Int.reduceToNat, Int.reduceNeg]
  exact lent_z [] (by simp (maxSteps := 1000000) (disch := first | exact dI | fail) only [push_cast, ↓reduceIte, reduceEqDiff, reduceAdd, reduceMul, reduceLeDiff, reduceLT, Nat.reduceBEq, reduceSub, Int.reduceToNat, Int.reduceNeg])

set_option maxHeartbeats 4000000 in
theorem find56M_3s (n : Nat) (ih : FindM n) (t : Typ) (v : Val) (p : List UInt8) (l : List Mis) (R : Bool × List Mis) (hd : dep (n + 1) v) (ht : tyOk (n + 1) t) (hv : v.ok) (hp : p.length + 200 * (n + 1) ≤ 100000) (hi : invM false l) (hR : R = addM false l (missN (n + 1) t v p)) (h : ¬ (t.kind < 1 ∨ 10 < t.kind ∨ ¬ v.kind = t.kind)) (hf : formedV v = true) (hk : t.kind = 3) (hs : v.scale = t.scale) :
    Lent Tryd.prog tabG 2 56 [.ptr 0 0, .pv t.pv, .pv v.pv, .pv (.str p)] (blkM false l) (.pv (.tup [])) (blkM R.1 R.2) := by
  have hd0 := hd
  simp only [dep] at hd0
  have h84 := formed84 v (by omega) (by omega) (by omega)
  have h85 := fun k => out85M false l t p k (by have := hi.1; omega) _ rfl
  have h83 := fun c => add83M false l p c (by have := hi.1; omega)
  have h88 := fun h9 hR => record88M n ih t v p false l R hd ht hv h9 hp hi hR
  have h86 := contains86 t.words v.text (by have := ht; simp only [tyOk] at this; omega)
  have h89 := typeField89 t v.text (by have := ht; simp only [tyOk] at this; omega)
  have hvo := hv
  have h85 := h85 v.num
  rw [missN_succ, miss1_dec h hf hk hs] at hR
  obtain ⟨k, m, M, s, w, e, fs⟩ := t
  obtain ⟨vk, vi, vs, vt, vl, vf⟩ := v
  simp only [dep, tyOk, Val.lst, Val.fields, Val.text, Typ.fields, Typ.words, Typ.elem, Typ.kind, Val.kind, Typ.min, Typ.max, Typ.scale, Val.num, Val.scale] at *
  obtain ⟨d1, d2, d3, d4, d5⟩ := hd
  obtain ⟨t1, t2, t3, t4⟩ := ht
  refine Lent.intro F56_ok (by simp [F56]) ?_
  rw [Typ.pv_mk, Val.pv_mk] at *
  simp only [blkM] at *
  have c : vk = 3 := by omega
  subst hk c
  rw [← hR] at h85
  rw [hf] at h84
  simp (maxSteps := 1000000) (disch := first | exact dI | fail) only [F56o0, F56o1, F56o2, F56o3, F56o4, F56o5, F56o6, F56o7, F56o8, F56o9, F56o10, F56o11, F56o12, F56o13, F56o14, F56o15, F56o16, F56o17, F56o18, F56o19, F56o20, F56o21, F56o22, F56o23, F56o24, F56o25, F56o26, F56o27, F56o28, F56p28, F56o29, F56o30, F56b31, F56o32, F56o33, F56o34, F56o35, F56o36, F56o37, F56p37, F56o38, F56c, F56, push_cast, ↓reduceIte, reduceEqDiff, reduceAdd, reduceMul, reduceLeDiff, reduceLT, Nat.reduceBEq, reduceSub, Int.reduceToNat, Int.reduceNeg]
  refine ACall.pure h84 rfl ?_
  simp (maxSteps := 1000000) (disch := first | exact dI | fail) only [hs, push_cast, ↓reduceIte, reduceEqDiff, reduceAdd, reduceMul, reduceLeDiff, reduceLT, Nat.reduceBEq, reduceSub, Int.reduceToNat, Int.reduceNeg]
  refine ACall.lentK h85 [0, 1, 2] rfl (by simp (maxSteps := 1000000) (disch := first | exact dI | fail) only [push_cast, ↓reduceIte, reduceEqDiff, reduceAdd, reduceMul, reduceLeDiff, reduceLT, Nat.reduceBEq, reduceSub, Int.reduceToNat, Int.reduceNeg]) (by simp (maxSteps := 1000000) (disch := first | exact dI | fail) only [push_cast, ↓reduceIte, reduceEqDiff, reduceAdd, reduceMul, reduceLeDiff, reduceLT, Nat.reduceBEq, reduceSub, Int.reduceToNat, Int.reduceNeg]) ?_
  simp (maxSteps := 1000000) (disch := first | exact dI | fail) only [push_cast, ↓reduceIte, reduceEqDiff, reduceAdd, reduceMul, reduceLeDiff, reduceLT, Nat.reduceBEq, reduceSub, Int.reduceToNat, Int.reduceNeg]
  exact lent_z [] (by simp (maxSteps := 1000000) (disch := first | exact dI | fail) only [push_cast, ↓reduceIte, reduceEqDiff, reduceAdd, reduceMul, reduceLeDiff, reduceLT, Nat.reduceBEq, reduceSub, Int.reduceToNat, Int.reduceNeg])

set_option maxHeartbeats 4000000 in
theorem find56M_3 (n : Nat) (ih : FindM n) (t : Typ) (v : Val) (p : List UInt8) (l : List Mis) (R : Bool × List Mis) (hd : dep (n + 1) v) (ht : tyOk (n + 1) t) (hv : v.ok) (hp : p.length + 200 * (n + 1) ≤ 100000) (hi : invM false l) (hR : R = addM false l (missN (n + 1) t v p)) (h : ¬ (t.kind < 1 ∨ 10 < t.kind ∨ ¬ v.kind = t.kind)) (hf : formedV v = true) (hk : t.kind = 3) (hs : ¬ v.scale = t.scale) :
    Lent Tryd.prog tabG 2 56 [.ptr 0 0, .pv t.pv, .pv v.pv, .pv (.str p)] (blkM false l) (.pv (.tup [])) (blkM R.1 R.2) := by
  have hd0 := hd
  simp only [dep] at hd0
  have h84 := formed84 v (by omega) (by omega) (by omega)
  have h85 := fun k => out85M false l t p k (by have := hi.1; omega) _ rfl
  have h83 := fun c => add83M false l p c (by have := hi.1; omega)
  have h88 := fun h9 hR => record88M n ih t v p false l R hd ht hv h9 hp hi hR
  have h86 := contains86 t.words v.text (by have := ht; simp only [tyOk] at this; omega)
  have h89 := typeField89 t v.text (by have := ht; simp only [tyOk] at this; omega)
  have hvo := hv
  have h83 := h83 3
  rw [missN_succ, miss1_scale h hf hk hs, addM_one] at hR
  obtain ⟨k, m, M, s, w, e, fs⟩ := t
  obtain ⟨vk, vi, vs, vt, vl, vf⟩ := v
  simp only [dep, tyOk, Val.lst, Val.fields, Val.text, Typ.fields, Typ.words, Typ.elem, Typ.kind, Val.kind, Typ.min, Typ.max, Typ.scale, Val.num, Val.scale] at *
  obtain ⟨d1, d2, d3, d4, d5⟩ := hd
  obtain ⟨t1, t2, t3, t4⟩ := ht
  refine Lent.intro F56_ok (by simp [F56]) ?_
  rw [Typ.pv_mk, Val.pv_mk] at *
  simp only [blkM] at *
  have c : vk = 3 := by omega
  subst hk c
  rw [← hR] at h83
  rw [hf] at h84
  simp (maxSteps := 1000000) (disch := first | exact dI | fail) only [F56o0, F56o1, F56o2, F56o3, F56o4, F56o5, F56o6, F56o7, F56o8, F56o9, F56o10, F56o11, F56o12, F56o13, F56o14, F56o15, F56o16, F56o17, F56o18, F56o19, F56o20, F56o21, F56o22, F56o23, F56o24, F56o25, F56o26, F56o27, F56o28, F56p28, F56o29, F56o30, F56b31, F56o32, F56o33, F56o34, F56o35, F56o36, F56o37, F56p37, F56o38, F56c, F56, push_cast, ↓reduceIte, reduceEqDiff, reduceAdd, reduceMul, reduceLeDiff, reduceLT, Nat.reduceBEq, reduceSub, Int.reduceToNat, Int.reduceNeg]
  refine ACall.pure h84 rfl ?_
  simp (maxSteps := 1000000) (disch := first | exact dI | fail) only [hs, push_cast, ↓reduceIte, reduceEqDiff, reduceAdd, reduceMul, reduceLeDiff, reduceLT, Nat.reduceBEq, reduceSub, Int.reduceToNat, Int.reduceNeg]
  refine ACall.lentK h83 [0, 1, 2] rfl (by simp (maxSteps := 1000000) (disch := first | exact dI | fail) only [push_cast, ↓reduceIte, reduceEqDiff, reduceAdd, reduceMul, reduceLeDiff, reduceLT, Nat.reduceBEq, reduceSub, Int.reduceToNat, Int.reduceNeg]) (by simp (maxSteps := 1000000) (disch := first | exact dI | fail) only [push_cast, ↓reduceIte, reduceEqDiff, reduceAdd, reduceMul, reduceLeDiff, reduceLT, Nat.reduceBEq, reduceSub, Int.reduceToNat, Int.reduceNeg]) ?_
  simp (maxSteps := 1000000) (disch := first | exact dI | fail) only [push_cast, ↓reduceIte, reduceEqDiff, reduceAdd, reduceMul, reduceLeDiff, reduceLT, Nat.reduceBEq, reduceSub, Int.reduceToNat, Int.reduceNeg]
  exact lent_z [] (by simp (maxSteps := 1000000) (disch := first | exact dI | fail) only [push_cast, ↓reduceIte, reduceEqDiff, reduceAdd, reduceMul, reduceLeDiff, reduceLT, Nat.reduceBEq, reduceSub, Int.reduceToNat, Int.reduceNeg])

set_option maxHeartbeats 4000000 in
theorem find56M_5 (n : Nat) (ih : FindM n) (t : Typ) (v : Val) (p : List UInt8) (l : List Mis) (R : Bool × List Mis) (hd : dep (n + 1) v) (ht : tyOk (n + 1) t) (hv : v.ok) (hp : p.length + 200 * (n + 1) ≤ 100000) (hi : invM false l) (hR : R = addM false l (missN (n + 1) t v p)) (h : ¬ (t.kind < 1 ∨ 10 < t.kind ∨ ¬ v.kind = t.kind)) (hf : formedV v = true) (hk : t.kind = 5) :
    Lent Tryd.prog tabG 2 56 [.ptr 0 0, .pv t.pv, .pv v.pv, .pv (.str p)] (blkM false l) (.pv (.tup [])) (blkM R.1 R.2) := by
  have hd0 := hd
  simp only [dep] at hd0
  have h84 := formed84 v (by omega) (by omega) (by omega)
  have h85 := fun k => out85M false l t p k (by have := hi.1; omega) _ rfl
  have h83 := fun c => add83M false l p c (by have := hi.1; omega)
  have h88 := fun h9 hR => record88M n ih t v p false l R hd ht hv h9 hp hi hR
  have h86 := contains86 t.words v.text (by have := ht; simp only [tyOk] at this; omega)
  have h89 := typeField89 t v.text (by have := ht; simp only [tyOk] at this; omega)
  have hvo := hv
  have h85 := h85 v.text.length
  rw [missN_succ, miss1_text h hf (.inr hk) (by omega)] at hR
  obtain ⟨k, m, M, s, w, e, fs⟩ := t
  obtain ⟨vk, vi, vs, vt, vl, vf⟩ := v
  simp only [dep, tyOk, Val.lst, Val.fields, Val.text, Typ.fields, Typ.words, Typ.elem, Typ.kind, Val.kind, Typ.min, Typ.max, Typ.scale, Val.num, Val.scale] at *
  obtain ⟨d1, d2, d3, d4, d5⟩ := hd
  obtain ⟨t1, t2, t3, t4⟩ := ht
  refine Lent.intro F56_ok (by simp [F56]) ?_
  rw [Typ.pv_mk, Val.pv_mk] at *
  simp only [blkM] at *
  have c : vk = 5 := by omega
  subst hk c
  rw [← hR] at h85
  rw [hf] at h84
  simp (maxSteps := 1000000) (disch := first | exact dI | fail) only [F56o0, F56o1, F56o2, F56o3, F56o4, F56o5, F56o6, F56o7, F56o8, F56o9, F56o10, F56o11, F56o12, F56o13, F56o14, F56o15, F56o16, F56o17, F56o18, F56o19, F56o20, F56o21, F56o22, F56o23, F56o24, F56o25, F56o26, F56o27, F56o28, F56p28, F56o29, F56o30, F56b31, F56o32, F56o33, F56o34, F56o35, F56o36, F56o37, F56p37, F56o38, F56c, F56, push_cast, ↓reduceIte, reduceEqDiff, reduceAdd, reduceMul, reduceLeDiff, reduceLT, Nat.reduceBEq, reduceSub, Int.reduceToNat, Int.reduceNeg]
  refine ACall.pure h84 rfl ?_
  simp (maxSteps := 1000000) (disch := first | exact dI | fail) only [push_cast, ↓reduceIte, reduceEqDiff, reduceAdd, reduceMul, reduceLeDiff, reduceLT, Nat.reduceBEq, reduceSub, Int.reduceToNat, Int.reduceNeg]
  refine ACall.lentK h85 [0, 1, 2] rfl (by simp (maxSteps := 1000000) (disch := first | exact dI | fail) only [push_cast, ↓reduceIte, reduceEqDiff, reduceAdd, reduceMul, reduceLeDiff, reduceLT, Nat.reduceBEq, reduceSub, Int.reduceToNat, Int.reduceNeg]) (by simp (maxSteps := 1000000) (disch := first | exact dI | fail) only [push_cast, ↓reduceIte, reduceEqDiff, reduceAdd, reduceMul, reduceLeDiff, reduceLT, Nat.reduceBEq, reduceSub, Int.reduceToNat, Int.reduceNeg]) ?_
  simp (maxSteps := 1000000) (disch := first | exact dI | fail) only [push_cast, ↓reduceIte, reduceEqDiff, reduceAdd, reduceMul, reduceLeDiff, reduceLT, Nat.reduceBEq, reduceSub, Int.reduceToNat, Int.reduceNeg]
  exact lent_z [] (by simp (maxSteps := 1000000) (disch := first | exact dI | fail) only [push_cast, ↓reduceIte, reduceEqDiff, reduceAdd, reduceMul, reduceLeDiff, reduceLT, Nat.reduceBEq, reduceSub, Int.reduceToNat, Int.reduceNeg])

set_option maxHeartbeats 4000000 in
theorem find56M_4 (n : Nat) (ih : FindM n) (t : Typ) (v : Val) (p : List UInt8) (l : List Mis) (R : Bool × List Mis) (hd : dep (n + 1) v) (ht : tyOk (n + 1) t) (hv : v.ok) (hp : p.length + 200 * (n + 1) ≤ 100000) (hi : invM false l) (hR : R = addM false l (missN (n + 1) t v p)) (h : ¬ (t.kind < 1 ∨ 10 < t.kind ∨ ¬ v.kind = t.kind)) (hf : formedV v = true) (hk : t.kind = 4) (hw : t.words.length = 0) :
    Lent Tryd.prog tabG 2 56 [.ptr 0 0, .pv t.pv, .pv v.pv, .pv (.str p)] (blkM false l) (.pv (.tup [])) (blkM R.1 R.2) := by
  have hd0 := hd
  simp only [dep] at hd0
  have h84 := formed84 v (by omega) (by omega) (by omega)
  have h85 := fun k => out85M false l t p k (by have := hi.1; omega) _ rfl
  have h83 := fun c => add83M false l p c (by have := hi.1; omega)
  have h88 := fun h9 hR => record88M n ih t v p false l R hd ht hv h9 hp hi hR
  have h86 := contains86 t.words v.text (by have := ht; simp only [tyOk] at this; omega)
  have h89 := typeField89 t v.text (by have := ht; simp only [tyOk] at this; omega)
  have hvo := hv
  have h85 := h85 v.text.length
  rw [missN_succ, miss1_text h hf (.inl hk) (fun _ => hw)] at hR
  obtain ⟨k, m, M, s, w, e, fs⟩ := t
  obtain ⟨vk, vi, vs, vt, vl, vf⟩ := v
  simp only [dep, tyOk, Val.lst, Val.fields, Val.text, Typ.fields, Typ.words, Typ.elem, Typ.kind, Val.kind, Typ.min, Typ.max, Typ.scale, Val.num, Val.scale] at *
  obtain ⟨d1, d2, d3, d4, d5⟩ := hd
  obtain ⟨t1, t2, t3, t4⟩ := ht
  refine Lent.intro F56_ok (by simp [F56]) ?_
  rw [Typ.pv_mk, Val.pv_mk] at *
  simp only [blkM] at *
  have c : vk = 4 := by omega
  subst hk c
  rw [← hR] at h85
  rw [hf] at h84
  have hz : ¬ (0 : Int) < w.length := by omega
  simp (maxSteps := 1000000) (disch := first | exact dI | fail) only [F56o0, F56o1, F56o2, F56o3, F56o4, F56o5, F56o6, F56o7, F56o8, F56o9, F56o10, F56o11, F56o12, F56o13, F56o14, F56o15, F56o16, F56o17, F56o18, F56o19, F56o20, F56o21, F56o22, F56o23, F56o24, F56o25, F56o26, F56o27, F56o28, F56p28, F56o29, F56o30, F56b31, F56o32, F56o33, F56o34, F56o35, F56o36, F56o37, F56p37, F56o38, F56c, F56, push_cast, ↓reduceIte, reduceEqDiff, reduceAdd, reduceMul, reduceLeDiff, reduceLT, Nat.reduceBEq, reduceSub, Int.reduceToNat, Int.reduceNeg]
  refine ACall.pure h84 rfl ?_
  simp (maxSteps := 1000000) (disch := first | exact dI | fail) only [push_cast, ↓reduceIte, reduceEqDiff, reduceAdd, reduceMul, reduceLeDiff, reduceLT, Nat.reduceBEq, reduceSub, Int.reduceToNat, Int.reduceNeg]
  refine ACall.lentK h85 [0, 1, 2] rfl (by simp (maxSteps := 1000000) (disch := first | exact dI | fail) only [push_cast, ↓reduceIte, reduceEqDiff, reduceAdd, reduceMul, reduceLeDiff, reduceLT, Nat.reduceBEq, reduceSub, Int.reduceToNat, Int.reduceNeg]) (by simp (maxSteps := 1000000) (disch := first | exact dI | fail) only [push_cast, ↓reduceIte, reduceEqDiff, reduceAdd, reduceMul, reduceLeDiff, reduceLT, Nat.reduceBEq, reduceSub, Int.reduceToNat, Int.reduceNeg]) ?_
  simp (maxSteps := 1000000) (disch := first | exact dI | fail) only [push_cast, ↓reduceIte, reduceEqDiff, reduceAdd, reduceMul, reduceLeDiff, reduceLT, Nat.reduceBEq, reduceSub, Int.reduceToNat, Int.reduceNeg]
  exact lent_z [] (by simp (maxSteps := 1000000) (disch := first | exact dI | fail) only [push_cast, ↓reduceIte, reduceEqDiff, reduceAdd, reduceMul, reduceLeDiff, reduceLT, Nat.reduceBEq, reduceSub, Int.reduceToNat, Int.reduceNeg])

set_option maxHeartbeats 4000000 in
theorem find56M_4w (n : Nat) (ih : FindM n) (t : Typ) (v : Val) (p : List UInt8) (l : List Mis) (R : Bool × List Mis) (hd : dep (n + 1) v) (ht : tyOk (n + 1) t) (hv : v.ok) (hp : p.length + 200 * (n + 1) ≤ 100000) (hi : invM false l) (hR : R = addM false l (missN (n + 1) t v p)) (h : ¬ (t.kind < 1 ∨ 10 < t.kind ∨ ¬ v.kind = t.kind)) (hf : formedV v = true) (hk : t.kind = 4) (hw : 0 < t.words.length) (ha : (t.words.any fun x => decide (x = v.text)) = true) :
    Lent Tryd.prog tabG 2 56 [.ptr 0 0, .pv t.pv, .pv v.pv, .pv (.str p)] (blkM false l) (.pv (.tup [])) (blkM R.1 R.2) := by
  have hd0 := hd
  simp only [dep] at hd0
  have h84 := formed84 v (by omega) (by omega) (by omega)
  have h85 := fun k => out85M false l t p k (by have := hi.1; omega) _ rfl
  have h83 := fun c => add83M false l p c (by have := hi.1; omega)
  have h88 := fun h9 hR => record88M n ih t v p false l R hd ht hv h9 hp hi hR
  have h86 := contains86 t.words v.text (by have := ht; simp only [tyOk] at this; omega)
  have h89 := typeField89 t v.text (by have := ht; simp only [tyOk] at this; omega)
  have hvo := hv
  rw [missN_succ, miss1_word h hf hk hw ha, addM_nil] at hR
  obtain ⟨k, m, M, s, w, e, fs⟩ := t
  obtain ⟨vk, vi, vs, vt, vl, vf⟩ := v
  simp only [dep, tyOk, Val.lst, Val.fields, Val.text, Typ.fields, Typ.words, Typ.elem, Typ.kind, Val.kind, Typ.min, Typ.max, Typ.scale, Val.num, Val.scale] at *
  obtain ⟨d1, d2, d3, d4, d5⟩ := hd
  obtain ⟨t1, t2, t3, t4⟩ := ht
  refine Lent.intro F56_ok (by simp [F56]) ?_
  rw [Typ.pv_mk, Val.pv_mk] at *
  simp only [blkM] at *
  have c : vk = 4 := by omega
  subst hk c hR
  rw [hf] at h84
  rw [ha] at h86
  have hz : (0 : Int) < w.length := by omega
  simp (maxSteps := 1000000) (disch := first | exact dI | fail) only [F56o0, F56o1, F56o2, F56o3, F56o4, F56o5, F56o6, F56o7, F56o8, F56o9, F56o10, F56o11, F56o12, F56o13, F56o14, F56o15, F56o16, F56o17, F56o18, F56o19, F56o20, F56o21, F56o22, F56o23, F56o24, F56o25, F56o26, F56o27, F56o28, F56p28, F56o29, F56o30, F56b31, F56o32, F56o33, F56o34, F56o35, F56o36, F56o37, F56p37, F56o38, F56c, F56, push_cast, ↓reduceIte, reduceEqDiff, reduceAdd, reduceMul, reduceLeDiff, reduceLT, Nat.reduceBEq, reduceSub, Int.reduceToNat, Int.reduceNeg]
  refine ACall.pure h84 rfl ?_
  simp (maxSteps := 1000000) (disch := first | exact dI | fail) only [push_cast, ↓reduceIte, reduceEqDiff, reduceAdd, reduceMul, reduceLeDiff, reduceLT, Nat.reduceBEq, reduceSub, Int.reduceToNat, Int.reduceNeg]
  refine ACall.pure h86 rfl ?_
  simp (maxSteps := 1000000) (disch := first | exact dI | fail) only [push_cast, ↓reduceIte, reduceEqDiff, reduceAdd, reduceMul, reduceLeDiff, reduceLT, Nat.reduceBEq, reduceSub, Int.reduceToNat, Int.reduceNeg]
  exact lent_z [] (by simp (maxSteps := 1000000) (disch := first | exact dI | fail) only [push_cast, ↓reduceIte, reduceEqDiff, reduceAdd, reduceMul, reduceLeDiff, reduceLT, Nat.reduceBEq, reduceSub, Int.reduceToNat, Int.reduceNeg])

set_option maxHeartbeats 4000000 in
theorem find56M_4n (n : Nat) (ih : FindM n) (t : Typ) (v : Val) (p : List UInt8) (l : List Mis) (R : Bool × List Mis) (hd : dep (n + 1) v) (ht : tyOk (n + 1) t) (hv : v.ok) (hp : p.length + 200 * (n + 1) ≤ 100000) (hi : invM false l) (hR : R = addM false l (missN (n + 1) t v p)) (h : ¬ (t.kind < 1 ∨ 10 < t.kind ∨ ¬ v.kind = t.kind)) (hf : formedV v = true) (hk : t.kind = 4) (hw : 0 < t.words.length) (ha : (t.words.any fun x => decide (x = v.text)) = false) :
    Lent Tryd.prog tabG 2 56 [.ptr 0 0, .pv t.pv, .pv v.pv, .pv (.str p)] (blkM false l) (.pv (.tup [])) (blkM R.1 R.2) := by
  have hd0 := hd
  simp only [dep] at hd0
  have h84 := formed84 v (by omega) (by omega) (by omega)
  have h85 := fun k => out85M false l t p k (by have := hi.1; omega) _ rfl
  have h83 := fun c => add83M false l p c (by have := hi.1; omega)
  have h88 := fun h9 hR => record88M n ih t v p false l R hd ht hv h9 hp hi hR
  have h86 := contains86 t.words v.text (by have := ht; simp only [tyOk] at this; omega)
  have h89 := typeField89 t v.text (by have := ht; simp only [tyOk] at this; omega)
  have hvo := hv
  have h83 := h83 4
  rw [missN_succ, miss1_noword h hf hk hw ha, addM_one] at hR
  obtain ⟨k, m, M, s, w, e, fs⟩ := t
  obtain ⟨vk, vi, vs, vt, vl, vf⟩ := v
  simp only [dep, tyOk, Val.lst, Val.fields, Val.text, Typ.fields, Typ.words, Typ.elem, Typ.kind, Val.kind, Typ.min, Typ.max, Typ.scale, Val.num, Val.scale] at *
  obtain ⟨d1, d2, d3, d4, d5⟩ := hd
  obtain ⟨t1, t2, t3, t4⟩ := ht
  refine Lent.intro F56_ok (by simp [F56]) ?_
  rw [Typ.pv_mk, Val.pv_mk] at *
  simp only [blkM] at *
  have c : vk = 4 := by omega
  subst hk c
  rw [← hR] at h83
  rw [hf] at h84
  rw [ha] at h86
  have hz : (0 : Int) < w.length := by omega
  simp (maxSteps := 1000000) (disch := first | exact dI | fail) only [F56o0, F56o1, F56o2, F56o3, F56o4, F56o5, F56o6, F56o7, F56o8, F56o9, F56o10, F56o11, F56o12, F56o13, F56o14, F56o15, F56o16, F56o17, F56o18, F56o19, F56o20, F56o21, F56o22, F56o23, F56o24, F56o25, F56o26, F56o27, F56o28, F56p28, F56o29, F56o30, F56b31, F56o32, F56o33, F56o34, F56o35, F56o36, F56o37, F56p37, F56o38, F56c, F56, push_cast, ↓reduceIte, reduceEqDiff, reduceAdd, reduceMul, reduceLeDiff, reduceLT, Nat.reduceBEq, reduceSub, Int.reduceToNat, Int.reduceNeg]
  refine ACall.pure h84 rfl ?_
  simp (maxSteps := 1000000) (disch := first | exact dI | fail) only [push_cast, ↓reduceIte, reduceEqDiff, reduceAdd, reduceMul, reduceLeDiff, reduceLT, Nat.reduceBEq, reduceSub, Int.reduceToNat, Int.reduceNeg]
  refine ACall.pure h86 rfl ?_
  simp (maxSteps := 1000000) (disch := first | exact dI | fail) only [push_cast, ↓reduceIte, reduceEqDiff, reduceAdd, reduceMul, reduceLeDiff, reduceLT, Nat.reduceBEq, reduceSub, Int.reduceToNat, Int.reduceNeg]
  refine ACall.lentK h83 [0, 1, 2] rfl (by simp (maxSteps := 1000000) (disch := first | exact dI | fail) only [push_cast, ↓reduceIte, reduceEqDiff, reduceAdd, reduceMul, reduceLeDiff, reduceLT, Nat.reduceBEq, reduceSub, Int.reduceToNat, Int.reduceNeg]) (by simp (maxSteps := 1000000) (disch := first | exact dI | fail) only [push_cast, ↓reduceIte, reduceEqDiff, reduceAdd, reduceMul, reduceLeDiff, reduceLT, Nat.reduceBEq, reduceSub, Int.reduceToNat, Int.reduceNeg]) ?_
  simp (maxSteps := 1000000) (disch := first | exact dI | fail) only [push_cast, ↓reduceIte, reduceEqDiff, reduceAdd, reduceMul, reduceLeDiff, reduceLT, Nat.reduceBEq, reduceSub, Int.reduceToNat, Int.reduceNeg]
  exact lent_z [] (by simp (maxSteps := 1000000) (disch := first | exact dI | fail) only [push_cast, ↓reduceIte, reduceEqDiff, reduceAdd, reduceMul, reduceLeDiff, reduceLT, Nat.reduceBEq, reduceSub, Int.reduceToNat, Int.reduceNeg])

set_option maxHeartbeats 4000000 in
theorem find56M_9 (n : Nat) (ih : FindM n) (t : Typ) (v : Val) (p : List UInt8) (l : List Mis) (R : Bool × List Mis) (hd : dep (n + 1) v) (ht : tyOk (n + 1) t) (hv : v.ok) (hp : p.length + 200 * (n + 1) ≤ 100000) (hi : invM false l) (hR : R = addM false l (missN (n + 1) t v p)) (h : ¬ (t.kind < 1 ∨ 10 < t.kind ∨ ¬ v.kind = t.kind)) (hf : formedV v = true) (hk : t.kind = 9) :
    Lent Tryd.prog tabG 2 56 [.ptr 0 0, .pv t.pv, .pv v.pv, .pv (.str p)] (blkM false l) (.pv (.tup [])) (blkM R.1 R.2) := by
  have hd0 := hd
  simp only [dep] at hd0
  have h84 := formed84 v (by omega) (by omega) (by omega)
  have h85 := fun k => out85M false l t p k (by have := hi.1; omega) _ rfl
  have h83 := fun c => add83M false l p c (by have := hi.1; omega)
  have h88 := fun h9 hR => record88M n ih t v p false l R hd ht hv h9 hp hi hR
  have h86 := contains86 t.words v.text (by have := ht; simp only [tyOk] at this; omega)
  have h89 := typeField89 t v.text (by have := ht; simp only [tyOk] at this; omega)
  have hvo := hv
  rw [missN_succ, miss1_rec h hf hk] at hR
  have h88 := h88 (by omega) hR
  obtain ⟨k, m, M, s, w, e, fs⟩ := t
  obtain ⟨vk, vi, vs, vt, vl, vf⟩ := v
  simp only [dep, tyOk, Val.lst, Val.fields, Val.text, Typ.fields, Typ.words, Typ.elem, Typ.kind, Val.kind, Typ.min, Typ.max, Typ.scale, Val.num, Val.scale] at *
  obtain ⟨d1, d2, d3, d4, d5⟩ := hd
  obtain ⟨t1, t2, t3, t4⟩ := ht
  refine Lent.intro F56_ok (by simp [F56]) ?_
  rw [Typ.pv_mk, Val.pv_mk] at *
  simp only [blkM] at *
  have c : vk = 9 := by omega
  subst hk c
  rw [hf] at h84
  simp (maxSteps := 1000000) (disch := first | exact dI | fail) only [F56o0, F56o1, F56o2, F56o3, F56o4, F56o5, F56o6, F56o7, F56o8, F56o9, F56o10, F56o11, F56o12, F56o13, F56o14, F56o15, F56o16, F56o17, F56o18, F56o19, F56o20, F56o21, F56o22, F56o23, F56o24, F56o25, F56o26, F56o27, F56o28, F56p28, F56o29, F56o30, F56b31, F56o32, F56o33, F56o34, F56o35, F56o36, F56o37, F56p37, F56o38, F56c, F56, push_cast, ↓reduceIte, reduceEqDiff, reduceAdd, reduceMul, reduceLeDiff, reduceLT, Nat.reduceBEq, reduceSub, Int.reduceToNat, Int.reduceNeg]
  refine ACall.pure h84 rfl ?_
  simp (maxSteps := 1000000) (disch := first | exact dI | fail) only [push_cast, ↓reduceIte, reduceEqDiff, reduceAdd, reduceMul, reduceLeDiff, reduceLT, Nat.reduceBEq, reduceSub, Int.reduceToNat, Int.reduceNeg]
  refine ACall.lentK h88 [0, 1, 2] rfl (by simp (maxSteps := 1000000) (disch := first | exact dI | fail) only [push_cast, ↓reduceIte, reduceEqDiff, reduceAdd, reduceMul, reduceLeDiff, reduceLT, Nat.reduceBEq, reduceSub, Int.reduceToNat, Int.reduceNeg]) (by simp (maxSteps := 1000000) (disch := first | exact dI | fail) only [push_cast, ↓reduceIte, reduceEqDiff, reduceAdd, reduceMul, reduceLeDiff, reduceLT, Nat.reduceBEq, reduceSub, Int.reduceToNat, Int.reduceNeg]) ?_
  simp (maxSteps := 1000000) (disch := first | exact dI | fail) only [push_cast, ↓reduceIte, reduceEqDiff, reduceAdd, reduceMul, reduceLeDiff, reduceLT, Nat.reduceBEq, reduceSub, Int.reduceToNat, Int.reduceNeg]
  exact lent_z [] (by simp (maxSteps := 1000000) (disch := first | exact dI | fail) only [push_cast, ↓reduceIte, reduceEqDiff, reduceAdd, reduceMul, reduceLeDiff, reduceLT, Nat.reduceBEq, reduceSub, Int.reduceToNat, Int.reduceNeg])

set_option maxHeartbeats 4000000 in
theorem find56M_10n (n : Nat) (ih : FindM n) (t : Typ) (v : Val) (p : List UInt8) (l : List Mis) (R : Bool × List Mis) (hd : dep (n + 1) v) (ht : tyOk (n + 1) t) (hv : v.ok) (hp : p.length + 200 * (n + 1) ≤ 100000) (hi : invM false l) (hR : R = addM false l (missN (n + 1) t v p)) (h : ¬ (t.kind < 1 ∨ 10 < t.kind ∨ ¬ v.kind = t.kind)) (hf : formedV v = true) (hk : t.kind = 10) (hfd : t.fields.find? (named v.text) = none) :
    Lent Tryd.prog tabG 2 56 [.ptr 0 0, .pv t.pv, .pv v.pv, .pv (.str p)] (blkM false l) (.pv (.tup [])) (blkM R.1 R.2) := by
  have hd0 := hd
  simp only [dep] at hd0
  have h84 := formed84 v (by omega) (by omega) (by omega)
  have h85 := fun k => out85M false l t p k (by have := hi.1; omega) _ rfl
  have h83 := fun c => add83M false l p c (by have := hi.1; omega)
  have h88 := fun h9 hR => record88M n ih t v p false l R hd ht hv h9 hp hi hR
  have h86 := contains86 t.words v.text (by have := ht; simp only [tyOk] at this; omega)
  have h89 := typeField89 t v.text (by have := ht; simp only [tyOk] at this; omega)
  have hvo := hv
  have h83 := h83 7
  rw [missN_succ, miss1_var h hf hk, varM_none hfd, addM_one] at hR
  obtain ⟨k, m, M, s, w, e, fs⟩ := t
  obtain ⟨vk, vi, vs, vt, vl, vf⟩ := v
  simp only [dep, tyOk, Val.lst, Val.fields, Val.text, Typ.fields, Typ.words, Typ.elem, Typ.kind, Val.kind, Typ.min, Typ.max, Typ.scale, Val.num, Val.scale] at *
  obtain ⟨d1, d2, d3, d4, d5⟩ := hd
  obtain ⟨t1, t2, t3, t4⟩ := ht
  refine Lent.intro F56_ok (by simp [F56]) ?_
  rw [Typ.pv_mk, Val.pv_mk] at *
  simp only [blkM] at *
  have c : vk = 10 := by omega
  subst hk c
  rw [← hR] at h83
  rw [hf] at h84
  rw [hfd] at h89
  simp only [tfR, Option.getD_none, Option.isSome_none, zeroTF, TFd.pv_mk, Typ.pv_mk, List.map_nil] at h89
  simp (maxSteps := 1000000) (disch := first | exact dI | fail) only [F56o0, F56o1, F56o2, F56o3, F56o4, F56o5, F56o6, F56o7, F56o8, F56o9, F56o10, F56o11, F56o12, F56o13, F56o14, F56o15, F56o16, F56o17, F56o18, F56o19, F56o20, F56o21, F56o22, F56o23, F56o24, F56o25, F56o26, F56o27, F56o28, F56p28, F56o29, F56o30, F56b31, F56o32, F56o33, F56o34, F56o35, F56o36, F56o37, F56p37, F56o38, F56c, F56, push_cast, ↓reduceIte, reduceEqDiff, reduceAdd, reduceMul, reduceLeDiff, reduceLT, Nat.reduceBEq, reduceSub, Int.reduceToNat, Int.reduceNeg]
  refine ACall.pure h84 rfl ?_
  simp (maxSteps := 1000000) (disch := first | exact dI | fail) only [push_cast, ↓reduceIte, reduceEqDiff, reduceAdd, reduceMul, reduceLeDiff, reduceLT, Nat.reduceBEq, reduceSub, Int.reduceToNat, Int.reduceNeg]
  refine ACall.pure h89 rfl ?_
  simp (maxSteps := 1000000) (disch := first | exact dI | fail) only [push_cast, ↓reduceIte, reduceEqDiff, reduceAdd, reduceMul, reduceLeDiff, reduceLT, Nat.reduceBEq, reduceSub, Int.reduceToNat, Int.reduceNeg]
  refine ACall.lentK h83 [0, 1, 2] rfl (by simp (maxSteps := 1000000) (disch := first | exact dI | fail) only [push_cast, ↓reduceIte, reduceEqDiff, reduceAdd, reduceMul, reduceLeDiff, reduceLT, Nat.reduceBEq, reduceSub, Int.reduceToNat, Int.reduceNeg]) (by simp (maxSteps := 1000000) (disch := first | exact dI | fail) only [push_cast, ↓reduceIte, reduceEqDiff, reduceAdd, reduceMul, reduceLeDiff, reduceLT, Nat.reduceBEq, reduceSub, Int.reduceToNat, Int.reduceNeg]) ?_
  simp (maxSteps := 1000000) (disch := first | exact dI | fail) only [push_cast, ↓reduceIte, reduceEqDiff, reduceAdd, reduceMul, reduceLeDiff, reduceLT, Nat.reduceBEq, reduceSub, Int.reduceToNat, Int.reduceNeg]
  exact lent_z [] (by simp (maxSteps := 1000000) (disch := first | exact dI | fail) only [push_cast, ↓reduceIte, reduceEqDiff, reduceAdd, reduceMul, reduceLeDiff, reduceLT, Nat.reduceBEq, reduceSub, Int.reduceToNat, Int.reduceNeg])

set_option maxHeartbeats 4000000 in
theorem find56M_10 (n : Nat) (ih : FindM n) (t : Typ) (v : Val) (p : List UInt8) (l : List Mis) (R : Bool × List Mis) (hd : dep (n + 1) v) (ht : tyOk (n + 1) t) (hv : v.ok) (hp : p.length + 200 * (n + 1) ≤ 100000) (hi : invM false l) (hR : R = addM false l (missN (n + 1) t v p)) (h : ¬ (t.kind < 1 ∨ 10 < t.kind ∨ ¬ v.kind = t.kind)) (hf : formedV v = true) (hk : t.kind = 10) (hl : v.lst.length = 1) (z : TFd) (hfd : t.fields.find? (named v.text) = some z) :
    Lent Tryd.prog tabG 2 56 [.ptr 0 0, .pv t.pv, .pv v.pv, .pv (.str p)] (blkM false l) (.pv (.tup [])) (blkM R.1 R.2) := by
  have hd0 := hd
  simp only [dep] at hd0
  have h84 := formed84 v (by omega) (by omega) (by omega)
  have h85 := fun k => out85M false l t p k (by have := hi.1; omega) _ rfl
  have h83 := fun c => add83M false l p c (by have := hi.1; omega)
  have h88 := fun h9 hR => record88M n ih t v p false l R hd ht hv h9 hp hi hR
  have h86 := contains86 t.words v.text (by have := ht; simp only [tyOk] at this; omega)
  have h89 := typeField89 t v.text (by have := ht; simp only [tyOk] at this; omega)
  have hvo := hv
  rw [missN_succ, miss1_var h hf hk, varM_some hfd] at hR
  obtain ⟨k, m, M, s, w, e, fs⟩ := t
  obtain ⟨vk, vi, vs, vt, vl, vf⟩ := v
  simp only [dep, tyOk, Val.lst, Val.fields, Val.text, Typ.fields, Typ.words, Typ.elem, Typ.kind, Val.kind, Typ.min, Typ.max, Typ.scale, Val.num, Val.scale] at *
  obtain ⟨d1, d2, d3, d4, d5⟩ := hd
  obtain ⟨t1, t2, t3, t4⟩ := ht
  refine Lent.intro F56_ok (by simp [F56]) ?_
  rw [Typ.pv_mk, Val.pv_mk] at *
  simp only [blkM] at *
  have c : vk = 10 := by omega
  subst hk c
  rw [hf] at h84
  rw [hfd] at h89
  obtain ⟨x, rfl⟩ := List.length_eq_one_iff.1 hl
  have hxd := d4 x (List.mem_singleton.2 rfl)
  rw [Val.ok_mk] at hvo
  have hxo := hvo.2.2.2.2.2.1 x (List.mem_singleton.2 rfl)
  have hzt := (t4 z (List.mem_of_find?_eq_some hfd)).2
  obtain ⟨z1, z2, z3, z4, z5⟩ := z
  simp only [TFd.typ, List.headD_cons] at hzt hR
  have hih := ih z4 x (p ++ (63 :: vt)) false l _ hxd hzt hxo (by simp only [List.length_append, List.length_cons]; omega) hi rfl
  rw [← hR] at hih
  obtain ⟨w1, w2, w3, w4, w5, w6, w7⟩ := z4
  obtain ⟨x1, x2, x3, x4, x5, x6⟩ := x
  simp only [tfR, Option.getD_some, Option.isSome_some, TFd.pv_mk, Typ.pv_mk] at h89
  simp only [blkM, Typ.pv_mk, Val.pv_mk] at hih
  simp (maxSteps := 1000000) (disch := first | exact dI | fail) only [F56o0, F56o1, F56o2, F56o3, F56o4, F56o5, F56o6, F56o7, F56o8, F56o9, F56o10, F56o11, F56o12, F56o13, F56o14, F56o15, F56o16, F56o17, F56o18, F56o19, F56o20, F56o21, F56o22, F56o23, F56o24, F56o25, F56o26, F56o27, F56o28, F56p28, F56o29, F56o30, F56b31, F56o32, F56o33, F56o34, F56o35, F56o36, F56o37, F56p37, F56o38, F56c, F56, push_cast, ↓reduceIte, reduceEqDiff, reduceAdd, reduceMul, reduceLeDiff, reduceLT, Nat.reduceBEq, reduceSub, Int.reduceToNat, Int.reduceNeg]
  refine ACall.pure h84 rfl ?_
  simp (maxSteps := 1000000) (disch := first | exact dI | fail) only [push_cast, ↓reduceIte, reduceEqDiff, reduceAdd, reduceMul, reduceLeDiff, reduceLT, Nat.reduceBEq, reduceSub, Int.reduceToNat, Int.reduceNeg]
  refine ACall.pure h89 rfl ?_
  simp (maxSteps := 1000000) (disch := first | exact dI | fail) only [List.map_cons, List.map_nil, rElem_zero, List.getElem?_cons_zero, Val.pv_mk, push_cast, ↓reduceIte, reduceEqDiff, reduceAdd, reduceMul, reduceLeDiff, reduceLT, Nat.reduceBEq, reduceSub, Int.reduceToNat, Int.reduceNeg]
  refine ACall.lentK hih [0, 1, 2] rfl (by simp (maxSteps := 1000000) (disch := first | exact dI | fail) only [push_cast, ↓reduceIte, reduceEqDiff, reduceAdd, reduceMul, reduceLeDiff, reduceLT, Nat.reduceBEq, reduceSub, Int.reduceToNat, Int.reduceNeg]) (by simp (maxSteps := 1000000) (disch := first | exact dI | fail) only [push_cast, ↓reduceIte, reduceEqDiff, reduceAdd, reduceMul, reduceLeDiff, reduceLT, Nat.reduceBEq, reduceSub, Int.reduceToNat, Int.reduceNeg]) ?_
  simp (maxSteps := 1000000) (disch := first | exact dI | fail) only [push_cast, ↓reduceIte, reduceEqDiff, reduceAdd, reduceMul, reduceLeDiff, reduceLT, Nat.reduceBEq, reduceSub, Int.reduceToNat, Int.reduceNeg]
  exact lent_z [] (by simp (maxSteps := 1000000) (disch := first | exact dI | fail) only [push_cast, ↓reduceIte, reduceEqDiff, reduceAdd, reduceMul, reduceLeDiff, reduceLT, Nat.reduceBEq, reduceSub, Int.reduceToNat, Int.reduceNeg])

theorem formed10 {v : Val} (hk : v.kind = 10) (hf : formedV v = true) : v.lst.length = 1 := by
  obtain ⟨vk, vi, vs, vt, vl, vf⟩ := v
  simp only [Val.kind, Val.lst] at *
  subst hk
  simp [formedV] at hf
  omega
theorem find56M_step (n : Nat) (ih : FindM n) : FindM (n + 1) := by
  intro t v p d l R hd ht hv hp hi hR
  cases d with
  | true =>
    rw [addM_true] at hR; subst hR
    obtain ⟨k, m, M, s, w, e, fs⟩ := t
    obtain ⟨vk, vi, vs, vt, vl, vf⟩ := v
    refine Lent.intro F56_ok (by simp [F56]) ?_
    simp (maxSteps := 1000000) (disch := first | exact dI | fail) only [F56o0, F56o1, F56o2, F56o3, F56o4, F56o5, F56o6, F56o7, F56o8, F56o9, F56o10, F56o11, F56o12, F56o13, F56o14, F56o15, F56o16, F56o17, F56o18, F56o19, F56o20, F56o21, F56o22, F56o23, F56o24, F56o25, F56o26, F56o27, F56o28, F56p28, F56o29, F56o30, F56b31, F56o32, F56o33, F56o34, F56o35, F56o36, F56o37, F56p37, F56o38, F56c, F56, blkM, Typ.pv_mk, Val.pv_mk, push_cast, ↓reduceIte, reduceEqDiff, reduceAdd, reduceMul, reduceLeDiff, reduceLT, Nat.reduceBEq, reduceSub, Int.reduceToNat, Int.reduceNeg]
    exact lent_z [] (by simp (maxSteps := 1000000) (disch := first | exact dI | fail) only [push_cast, ↓reduceIte, reduceEqDiff, reduceAdd, reduceMul, reduceLeDiff, reduceLT, Nat.reduceBEq, reduceSub, Int.reduceToNat, Int.reduceNeg])
  | false =>
    by_cases h : t.kind < 1 ∨ 10 < t.kind ∨ ¬ v.kind = t.kind
    · exact find56M_kind n ih t v p l R hd ht hv hp hi hR h
    · by_cases hf : formedV v = false
      · exact find56M_bad n ih t v p l R hd ht hv hp hi hR h hf
      · have hf : formedV v = true := by simpa using hf
        have hk : t.kind = 1 ∨ t.kind = 2 ∨ t.kind = 3 ∨ t.kind = 4 ∨ t.kind = 5 ∨ t.kind = 6 ∨ t.kind = 7 ∨ t.kind = 8 ∨ t.kind = 9 ∨ t.kind = 10 := by omega
        rcases hk with hk | hk | hk | hk | hk | hk | hk | hk | hk | hk
        · exact find56M_1 n ih t v p l R hd ht hv hp hi hR h hf hk
        · exact find56M_2 n ih t v p l R hd ht hv hp hi hR h hf hk
        · by_cases hs : v.scale = t.scale
          · exact find56M_3s n ih t v p l R hd ht hv hp hi hR h hf hk hs
          · exact find56M_3 n ih t v p l R hd ht hv hp hi hR h hf hk hs
        · by_cases hw : t.words.length = 0
          · exact find56M_4 n ih t v p l R hd ht hv hp hi hR h hf hk hw
          · cases ha : (t.words.any fun x => decide (x = v.text)) with
            | true => exact find56M_4w n ih t v p l R hd ht hv hp hi hR h hf hk (by omega) ha
            | false => exact find56M_4n n ih t v p l R hd ht hv hp hi hR h hf hk (by omega) ha
        · exact find56M_5 n ih t v p l R hd ht hv hp hi hR h hf hk
        · exact find56M_6 n ih t v p l R hd ht hv hp hi hR h hf hk
        · exact find56M_7 n ih t v p l R hd ht hv hp hi hR h hf hk
        · exact find56M_list n ih t v p l R hd ht hv hp hi hR hk (by omega) hf
        · exact find56M_9 n ih t v p l R hd ht hv hp hi hR h hf hk
        · cases hfd : t.fields.find? (named v.text) with
          | none => exact find56M_10n n ih t v p l R hd ht hv hp hi hR h hf hk hfd
          | some z => exact find56M_10 n ih t v p l R hd ht hv hp hi hR h hf hk (formed10 (by omega) hf) z hfd
theorem find56M : ∀ n, FindM n
  | 0 => fun t v p d l R hd => hd.elim
  | n + 1 => find56M_step n (find56M n)
end Go.Proofs.YtikmckfppnmlnaaDoor
