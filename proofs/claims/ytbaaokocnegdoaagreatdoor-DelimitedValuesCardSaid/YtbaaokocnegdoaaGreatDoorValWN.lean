/- A part of the proof for DelimitedValuesCardSaid. -/
import Derived.Test.YtbaaokocnegdoaaGreatDoorValWJ
set_option maxRecDepth 100000
set_option linter.unusedVariables false
set_option linter.unusedSimpArgs false
namespace Go.Proofs.YtbaaokocnegdoaaGreatDoor
open Go Go.Ab
attribute [local irreducible] vc
def stepF : Bool → List Mis → Mis → Bool × List Mis
 | true, l, _ => (true, l)
 | false, l, m => (true, l ++ [m])
def addF : Bool → List Mis → List Mis → Bool × List Mis
 | d, l, [] => (d, l)
 | d, l, m :: r => addF (stepF d l m).1 (stepF d l m).2 r
def blkF (d : Bool) (l : List Mis) : List Blk := [.cells 133 true [.clo 79 [] [.ptr 1 0], .pv (.bool d)], .cells 4 true [.pv (.bool (!d))]]
theorem cloF (d : Bool) (m : Mis) : Lent Tryz.prog tabG 1 79 [.pv m.pv, .ptr 0 0] [.cells 4 true [.pv (.bool d)]] (.pv (.bool false)) [.cells 4 true [.pv (.bool false)]] := by
 obtain ⟨p, c⟩ := m
 refine Lent.intro F79_ok (by simp [F79]) ?_
 simp (disch:=first|exact dI|fail) only [F79, Mis.pv_mk, push_cast, seval]
 exact lent_z [] (by simp (disch:=first|exact dI|fail) only [push_cast, seval])
theorem add83F (d : Bool) (l : List Mis) (p : List UInt8) (c : Int) (hl : l.length ≤ 100000) : Lent Tryz.prog tabG 2 129 [.ptr 0 0, .pv (.str p), .pv (.int .i64 c)] (blkF d l) (.pv (.tup [])) (blkF (stepF d l (.mk p c)).1 (stepF d l (.mk p c)).2) := by
 have h63 := cloF true (.mk p c)
 rw [Mis.pv_mk] at h63
 refine Lent.intro F129_ok (by simp [F129]) ?_
 cases d with
 | true =>
   rw [stepF]
   simp (disch:=first|exact dI|fail) only [F129, blkF, push_cast, seval]
   exact lent_z [] (by simp (disch:=first|exact dI|fail) only [push_cast, seval])
 | false =>
   rw [stepF]
   simp (disch:=first|exact dI|fail) only [F129, blkF, push_cast, seval]
   refine ACall.lentK h63 [1] rfl (by simp (disch:=first|exact dI|fail) only [push_cast, seval]) (by simp (disch:=first|exact dI|fail) only [push_cast, seval]) ?_
   simp (disch:=first|exact dI|fail) only [push_cast, seval]
   exact lent_z [] (by simp (disch:=first|exact dI|fail) only [push_cast, seval])
theorem addF_one (d : Bool) (l : List Mis) (m : Mis) : addF d l [m] = stepF d l m := rfl
theorem addF_nil (d : Bool) (l : List Mis) : addF d l [] = (d, l) := rfl
theorem addF_true : ∀ (a : List Mis) (l : List Mis), addF true l a = (true, l)
 | [], l => rfl
 | m :: r, l => by rw [addF, stepF]; exact addF_true r l
theorem out85F (d : Bool) (l : List Mis) (t : Typ) (p : List UInt8) (n : Int) (hl : l.length ≤ 100000) (R : Bool × List Mis) (hR : R = addF d l (outM t.min t.max p n)) :
  Lent Tryz.prog tabG 2 131 [.ptr 0 0, .pv t.pv, .pv (.str p), .pv (.int .i64 n)] (blkF d l) (.pv (.tup [])) (blkF R.1 R.2) := by
 have h83 := add83F d l p 2 hl
 obtain ⟨k, m, M, s, w, e, f⟩ := t
 simp only [Typ.min, Typ.max] at hR
 refine Lent.intro F131_ok (by simp [F131]) ?_
 unfold blkF at h83 ⊢
 by_cases h1 : n < m
 ·rw [outM_t (.inl h1), addF_one] at hR
  rw [← hR] at h83
  simp (disch:=first|exact dI|fail) only [F131, Typ.pv_mk, push_cast, seval]
  refine ACall.lentK h83 [0, 1] rfl (by simp (disch:=first|exact dI|fail) only [push_cast, seval]) (by simp (disch:=first|exact dI|fail) only [push_cast, seval]) ?_
  simp (disch:=first|exact dI|fail) only [push_cast, seval]
  exact lent_z [] (by simp (disch:=first|exact dI|fail) only [push_cast, seval])
 ·by_cases h2 : M < n
  ·rw [outM_t (.inr h2), addF_one] at hR
   rw [← hR] at h83
   simp (disch:=first|exact dI|fail) only [F131, Typ.pv_mk, push_cast, seval]
   refine ACall.lentK h83 [0, 1] rfl (by simp (disch:=first|exact dI|fail) only [push_cast, seval]) (by simp (disch:=first|exact dI|fail) only [push_cast, seval]) ?_
   simp (disch:=first|exact dI|fail) only [push_cast, seval]
   exact lent_z [] (by simp (disch:=first|exact dI|fail) only [push_cast, seval])
  ·rw [outM_f (fun h => h.elim h1 h2), addF_nil] at hR
   subst hR
   simp (disch:=first|exact dI|fail) only [F131, Typ.pv_mk, push_cast, seval]
   exact lent_z [] (by simp (disch:=first|exact dI|fail) only [push_cast, seval])
def invF := invM
def FindF (n : Nat) : Prop := ∀ (t : Typ) (v : Val) (p : List UInt8) (d : Bool) (l : List Mis) (R : Bool × List Mis), dep n v → tyOk n t → v.ok → p.length + 200 * n ≤ 100000 → invF d l → R = addF d l (missN n t v p) →
 Lent Tryz.prog tabG 2 80 [.ptr 0 0, .pv t.pv, .pv v.pv, .pv (.str p)] (blkF d l) (.pv (.tup [])) (blkF R.1 R.2)
theorem find56F_kind (n : Nat) (ih : FindF n) (t : Typ) (v : Val) (p : List UInt8) (l : List Mis) (R : Bool × List Mis) (hd : dep (n + 1) v) (ht : tyOk (n + 1) t) (hv : v.ok) (hp : p.length + 200 * (n + 1) ≤ 100000) (hi : invF false l) (hR : R = addF false l (missN (n + 1) t v p)) (h : t.kind < 1 ∨ 10 < t.kind ∨ ¬ v.kind = t.kind) :
  Lent Tryz.prog tabG 2 80 [.ptr 0 0, .pv t.pv, .pv v.pv, .pv (.str p)] (blkF false l) (.pv (.tup [])) (blkF R.1 R.2) := by
 have hd0 := hd
 simp only [dep] at hd0
 have h83 := fun c => add83F false l p c (by have := hi.1; omega)
 have hvo := hv
 have h83 := h83 1
 rw [missN_succ, miss1_kind h, addF_one] at hR
 obtain ⟨k, m, M, s, w, e, fs⟩ := t
 obtain ⟨vk, vi, vs, vt, vl, vf⟩ := v
 simp only [dep, tyOk, Val.lst, Val.fields, Val.text, Typ.fields, Typ.words, Typ.elem, Typ.kind, Val.kind, Typ.min, Typ.max, Typ.scale, Val.num, Val.scale] at *
 obtain ⟨d1, d2, d3, d4, d5⟩ := hd
 obtain ⟨t1, t2, t3, t4⟩ := ht
 refine Lent.intro F80_ok (by simp [F80]) ?_
 rw [Typ.pv_mk, Val.pv_mk] at *
 simp only [blkF] at *
 rw [← hR] at h83
 by_cases a : k < 1
 ·simp (disch:=first|exact dI|fail) only [F80, a, push_cast, seval]
  refine ACall.lentK h83 [0, 1] rfl (by simp (disch:=first|exact dI|fail) only [push_cast, seval]) (by simp (disch:=first|exact dI|fail) only [push_cast, seval]) ?_
  simp (disch:=first|exact dI|fail) only [push_cast, seval]
  exact lent_z [] (by simp (disch:=first|exact dI|fail) only [push_cast, seval])
 ·by_cases b : 10 < k
  ·simp (disch:=first|exact dI|fail) only [F80, a, b, push_cast, seval]
   refine ACall.lentK h83 [0, 1] rfl (by simp (disch:=first|exact dI|fail) only [push_cast, seval]) (by simp (disch:=first|exact dI|fail) only [push_cast, seval]) ?_
   simp (disch:=first|exact dI|fail) only [push_cast, seval]
   exact lent_z [] (by simp (disch:=first|exact dI|fail) only [push_cast, seval])
  ·have c : ¬ vk = k := by omega
   simp (disch:=first|exact dI|fail) only [F80, a, b, c, push_cast, seval]
   refine ACall.lentK h83 [0, 1] rfl (by simp (disch:=first|exact dI|fail) only [push_cast, seval]) (by simp (disch:=first|exact dI|fail) only [push_cast, seval]) ?_
   simp (disch:=first|exact dI|fail) only [push_cast, seval]
   exact lent_z [] (by simp (disch:=first|exact dI|fail) only [push_cast, seval])
theorem find56F_bad (n : Nat) (ih : FindF n) (t : Typ) (v : Val) (p : List UInt8) (l : List Mis) (R : Bool × List Mis) (hd : dep (n + 1) v) (ht : tyOk (n + 1) t) (hv : v.ok) (hp : p.length + 200 * (n + 1) ≤ 100000) (hi : invF false l) (hR : R = addF false l (missN (n + 1) t v p)) (h : ¬ (t.kind < 1 ∨ 10 < t.kind ∨ ¬ v.kind = t.kind)) (hf : formedV v = false) :
  Lent Tryz.prog tabG 2 80 [.ptr 0 0, .pv t.pv, .pv v.pv, .pv (.str p)] (blkF false l) (.pv (.tup [])) (blkF R.1 R.2) := by
 have hd0 := hd
 simp only [dep] at hd0
 have h84 := formed84 v (by omega) (by omega) (by omega)
 have h83 := fun c => add83F false l p c (by have := hi.1; omega)
 have hvo := hv
 have h83 := h83 8
 rw [missN_succ, miss1_bad h hf, addF_one] at hR
 obtain ⟨k, m, M, s, w, e, fs⟩ := t
 obtain ⟨vk, vi, vs, vt, vl, vf⟩ := v
 simp only [dep, tyOk, Val.lst, Val.fields, Val.text, Typ.fields, Typ.words, Typ.elem, Typ.kind, Val.kind, Typ.min, Typ.max, Typ.scale, Val.num, Val.scale] at *
 obtain ⟨d1, d2, d3, d4, d5⟩ := hd
 obtain ⟨t1, t2, t3, t4⟩ := ht
 refine Lent.intro F80_ok (by simp [F80]) ?_
 rw [Typ.pv_mk, Val.pv_mk] at *
 simp only [blkF] at *
 have a : ¬ k < 1 := by omega
 have b : ¬ 10 < k := by omega
 have c : vk = k := by omega
 subst c
 rw [← hR] at h83
 rw [hf] at h84
 simp (disch:=first|exact dI|fail) only [F80, a, b, push_cast, seval]
 refine ACall.pure h84 rfl ?_
 simp (disch:=first|exact dI|fail) only [push_cast, seval]
 refine ACall.lentK h83 [0, 1] rfl (by simp (disch:=first|exact dI|fail) only [push_cast, seval]) (by simp (disch:=first|exact dI|fail) only [push_cast, seval]) ?_
 simp (disch:=first|exact dI|fail) only [push_cast, seval]
 exact lent_z [] (by simp (disch:=first|exact dI|fail) only [push_cast, seval])
theorem find56F_2 (n : Nat) (ih : FindF n) (t : Typ) (v : Val) (p : List UInt8) (l : List Mis) (R : Bool × List Mis) (hd : dep (n + 1) v) (ht : tyOk (n + 1) t) (hv : v.ok) (hp : p.length + 200 * (n + 1) ≤ 100000) (hi : invF false l) (hR : R = addF false l (missN (n + 1) t v p)) (h : ¬ (t.kind < 1 ∨ 10 < t.kind ∨ ¬ v.kind = t.kind)) (hf : formedV v = true) (hk : t.kind = 2) :
  Lent Tryz.prog tabG 2 80 [.ptr 0 0, .pv t.pv, .pv v.pv, .pv (.str p)] (blkF false l) (.pv (.tup [])) (blkF R.1 R.2) := by
 have hd0 := hd
 simp only [dep] at hd0
 have h84 := formed84 v (by omega) (by omega) (by omega)
 have h85 := fun k => out85F false l t p k (by have := hi.1; omega) _ rfl
 have hvo := hv
 have h85 := h85 v.num
 rw [missN_succ, miss1_num h hf (by omega)] at hR
 obtain ⟨k, m, M, s, w, e, fs⟩ := t
 obtain ⟨vk, vi, vs, vt, vl, vf⟩ := v
 simp only [dep, tyOk, Val.lst, Val.fields, Val.text, Typ.fields, Typ.words, Typ.elem, Typ.kind, Val.kind, Typ.min, Typ.max, Typ.scale, Val.num, Val.scale] at *
 obtain ⟨d1, d2, d3, d4, d5⟩ := hd
 obtain ⟨t1, t2, t3, t4⟩ := ht
 refine Lent.intro F80_ok (by simp [F80]) ?_
 rw [Typ.pv_mk, Val.pv_mk] at *
 simp only [blkF] at *
 have c : vk = 2 := by omega
 subst hk c
 rw [← hR] at h85
 rw [hf] at h84
 simp (disch:=first|exact dI|fail) only [F80, push_cast, seval]
 refine ACall.pure h84 rfl ?_
 simp (disch:=first|exact dI|fail) only [push_cast, seval]
 refine ACall.lentK h85 [0, 1] rfl (by simp (disch:=first|exact dI|fail) only [push_cast, seval]) (by simp (disch:=first|exact dI|fail) only [push_cast, seval]) ?_
 simp (disch:=first|exact dI|fail) only [push_cast, seval]
 exact lent_z [] (by simp (disch:=first|exact dI|fail) only [push_cast, seval])
theorem find56F_6 (n : Nat) (ih : FindF n) (t : Typ) (v : Val) (p : List UInt8) (l : List Mis) (R : Bool × List Mis) (hd : dep (n + 1) v) (ht : tyOk (n + 1) t) (hv : v.ok) (hp : p.length + 200 * (n + 1) ≤ 100000) (hi : invF false l) (hR : R = addF false l (missN (n + 1) t v p)) (h : ¬ (t.kind < 1 ∨ 10 < t.kind ∨ ¬ v.kind = t.kind)) (hf : formedV v = true) (hk : t.kind = 6) :
  Lent Tryz.prog tabG 2 80 [.ptr 0 0, .pv t.pv, .pv v.pv, .pv (.str p)] (blkF false l) (.pv (.tup [])) (blkF R.1 R.2) := by
 have hd0 := hd
 simp only [dep] at hd0
 have h84 := formed84 v (by omega) (by omega) (by omega)
 have h85 := fun k => out85F false l t p k (by have := hi.1; omega) _ rfl
 have hvo := hv
 have h85 := h85 v.num
 rw [missN_succ, miss1_num h hf (by omega)] at hR
 obtain ⟨k, m, M, s, w, e, fs⟩ := t
 obtain ⟨vk, vi, vs, vt, vl, vf⟩ := v
 simp only [dep, tyOk, Val.lst, Val.fields, Val.text, Typ.fields, Typ.words, Typ.elem, Typ.kind, Val.kind, Typ.min, Typ.max, Typ.scale, Val.num, Val.scale] at *
 obtain ⟨d1, d2, d3, d4, d5⟩ := hd
 obtain ⟨t1, t2, t3, t4⟩ := ht
 refine Lent.intro F80_ok (by simp [F80]) ?_
 rw [Typ.pv_mk, Val.pv_mk] at *
 simp only [blkF] at *
 have c : vk = 6 := by omega
 subst hk c
 rw [← hR] at h85
 rw [hf] at h84
 simp (disch:=first|exact dI|fail) only [F80, push_cast, seval]
 refine ACall.pure h84 rfl ?_
 simp (disch:=first|exact dI|fail) only [push_cast, seval]
 refine ACall.lentK h85 [0, 1] rfl (by simp (disch:=first|exact dI|fail) only [push_cast, seval]) (by simp (disch:=first|exact dI|fail) only [push_cast, seval]) ?_
 simp (disch:=first|exact dI|fail) only [push_cast, seval]
 exact lent_z [] (by simp (disch:=first|exact dI|fail) only [push_cast, seval])
theorem find56F_7 (n : Nat) (ih : FindF n) (t : Typ) (v : Val) (p : List UInt8) (l : List Mis) (R : Bool × List Mis) (hd : dep (n + 1) v) (ht : tyOk (n + 1) t) (hv : v.ok) (hp : p.length + 200 * (n + 1) ≤ 100000) (hi : invF false l) (hR : R = addF false l (missN (n + 1) t v p)) (h : ¬ (t.kind < 1 ∨ 10 < t.kind ∨ ¬ v.kind = t.kind)) (hf : formedV v = true) (hk : t.kind = 7) :
  Lent Tryz.prog tabG 2 80 [.ptr 0 0, .pv t.pv, .pv v.pv, .pv (.str p)] (blkF false l) (.pv (.tup [])) (blkF R.1 R.2) := by
 have hd0 := hd
 simp only [dep] at hd0
 have h84 := formed84 v (by omega) (by omega) (by omega)
 have h85 := fun k => out85F false l t p k (by have := hi.1; omega) _ rfl
 have hvo := hv
 have h85 := h85 v.num
 rw [missN_succ, miss1_num h hf (by omega)] at hR
 obtain ⟨k, m, M, s, w, e, fs⟩ := t
 obtain ⟨vk, vi, vs, vt, vl, vf⟩ := v
 simp only [dep, tyOk, Val.lst, Val.fields, Val.text, Typ.fields, Typ.words, Typ.elem, Typ.kind, Val.kind, Typ.min, Typ.max, Typ.scale, Val.num, Val.scale] at *
 obtain ⟨d1, d2, d3, d4, d5⟩ := hd
 obtain ⟨t1, t2, t3, t4⟩ := ht
 refine Lent.intro F80_ok (by simp [F80]) ?_
 rw [Typ.pv_mk, Val.pv_mk] at *
 simp only [blkF] at *
 have c : vk = 7 := by omega
 subst hk c
 rw [← hR] at h85
 rw [hf] at h84
 simp (disch:=first|exact dI|fail) only [F80, push_cast, seval]
 refine ACall.pure h84 rfl ?_
 simp (disch:=first|exact dI|fail) only [push_cast, seval]
 refine ACall.lentK h85 [0, 1] rfl (by simp (disch:=first|exact dI|fail) only [push_cast, seval]) (by simp (disch:=first|exact dI|fail) only [push_cast, seval]) ?_
 simp (disch:=first|exact dI|fail) only [push_cast, seval]
 exact lent_z [] (by simp (disch:=first|exact dI|fail) only [push_cast, seval])
theorem find56F_1 (n : Nat) (ih : FindF n) (t : Typ) (v : Val) (p : List UInt8) (l : List Mis) (R : Bool × List Mis) (hd : dep (n + 1) v) (ht : tyOk (n + 1) t) (hv : v.ok) (hp : p.length + 200 * (n + 1) ≤ 100000) (hi : invF false l) (hR : R = addF false l (missN (n + 1) t v p)) (h : ¬ (t.kind < 1 ∨ 10 < t.kind ∨ ¬ v.kind = t.kind)) (hf : formedV v = true) (hk : t.kind = 1) :
  Lent Tryz.prog tabG 2 80 [.ptr 0 0, .pv t.pv, .pv v.pv, .pv (.str p)] (blkF false l) (.pv (.tup [])) (blkF R.1 R.2) := by
 have hd0 := hd
 simp only [dep] at hd0
 have h84 := formed84 v (by omega) (by omega) (by omega)
 have hvo := hv
 rw [missN_succ, miss1_none h hf hk, addF_nil] at hR
 obtain ⟨k, m, M, s, w, e, fs⟩ := t
 obtain ⟨vk, vi, vs, vt, vl, vf⟩ := v
 simp only [dep, tyOk, Val.lst, Val.fields, Val.text, Typ.fields, Typ.words, Typ.elem, Typ.kind, Val.kind, Typ.min, Typ.max, Typ.scale, Val.num, Val.scale] at *
 obtain ⟨d1, d2, d3, d4, d5⟩ := hd
 obtain ⟨t1, t2, t3, t4⟩ := ht
 refine Lent.intro F80_ok (by simp [F80]) ?_
 rw [Typ.pv_mk, Val.pv_mk] at *
 simp only [blkF] at *
 have c : vk = 1 := by omega
 subst hk c hR
 rw [hf] at h84
 simp (disch:=first|exact dI|fail) only [F80, push_cast, seval]
 refine ACall.pure h84 rfl ?_
 simp (disch:=first|exact dI|fail) only [push_cast, seval]
 exact lent_z [] (by simp (disch:=first|exact dI|fail) only [push_cast, seval])
theorem find56F_3s (n : Nat) (ih : FindF n) (t : Typ) (v : Val) (p : List UInt8) (l : List Mis) (R : Bool × List Mis) (hd : dep (n + 1) v) (ht : tyOk (n + 1) t) (hv : v.ok) (hp : p.length + 200 * (n + 1) ≤ 100000) (hi : invF false l) (hR : R = addF false l (missN (n + 1) t v p)) (h : ¬ (t.kind < 1 ∨ 10 < t.kind ∨ ¬ v.kind = t.kind)) (hf : formedV v = true) (hk : t.kind = 3) (hs : v.scale = t.scale) :
  Lent Tryz.prog tabG 2 80 [.ptr 0 0, .pv t.pv, .pv v.pv, .pv (.str p)] (blkF false l) (.pv (.tup [])) (blkF R.1 R.2) := by
 have hd0 := hd
 simp only [dep] at hd0
 have h84 := formed84 v (by omega) (by omega) (by omega)
 have h85 := fun k => out85F false l t p k (by have := hi.1; omega) _ rfl
 have hvo := hv
 have h85 := h85 v.num
 rw [missN_succ, miss1_dec h hf hk hs] at hR
 obtain ⟨k, m, M, s, w, e, fs⟩ := t
 obtain ⟨vk, vi, vs, vt, vl, vf⟩ := v
 simp only [dep, tyOk, Val.lst, Val.fields, Val.text, Typ.fields, Typ.words, Typ.elem, Typ.kind, Val.kind, Typ.min, Typ.max, Typ.scale, Val.num, Val.scale] at *
 obtain ⟨d1, d2, d3, d4, d5⟩ := hd
 obtain ⟨t1, t2, t3, t4⟩ := ht
 refine Lent.intro F80_ok (by simp [F80]) ?_
 rw [Typ.pv_mk, Val.pv_mk] at *
 simp only [blkF] at *
 have c : vk = 3 := by omega
 subst hk c
 rw [← hR] at h85
 rw [hf] at h84
 simp (disch:=first|exact dI|fail) only [F80, push_cast, seval]
 refine ACall.pure h84 rfl ?_
 simp (disch:=first|exact dI|fail) only [hs, push_cast, seval]
 refine ACall.lentK h85 [0, 1] rfl (by simp (disch:=first|exact dI|fail) only [push_cast, seval]) (by simp (disch:=first|exact dI|fail) only [push_cast, seval]) ?_
 simp (disch:=first|exact dI|fail) only [push_cast, seval]
 exact lent_z [] (by simp (disch:=first|exact dI|fail) only [push_cast, seval])
theorem find56F_3 (n : Nat) (ih : FindF n) (t : Typ) (v : Val) (p : List UInt8) (l : List Mis) (R : Bool × List Mis) (hd : dep (n + 1) v) (ht : tyOk (n + 1) t) (hv : v.ok) (hp : p.length + 200 * (n + 1) ≤ 100000) (hi : invF false l) (hR : R = addF false l (missN (n + 1) t v p)) (h : ¬ (t.kind < 1 ∨ 10 < t.kind ∨ ¬ v.kind = t.kind)) (hf : formedV v = true) (hk : t.kind = 3) (hs : ¬ v.scale = t.scale) :
  Lent Tryz.prog tabG 2 80 [.ptr 0 0, .pv t.pv, .pv v.pv, .pv (.str p)] (blkF false l) (.pv (.tup [])) (blkF R.1 R.2) := by
 have hd0 := hd
 simp only [dep] at hd0
 have h84 := formed84 v (by omega) (by omega) (by omega)
 have h83 := fun c => add83F false l p c (by have := hi.1; omega)
 have hvo := hv
 have h83 := h83 3
 rw [missN_succ, miss1_scale h hf hk hs, addF_one] at hR
 obtain ⟨k, m, M, s, w, e, fs⟩ := t
 obtain ⟨vk, vi, vs, vt, vl, vf⟩ := v
 simp only [dep, tyOk, Val.lst, Val.fields, Val.text, Typ.fields, Typ.words, Typ.elem, Typ.kind, Val.kind, Typ.min, Typ.max, Typ.scale, Val.num, Val.scale] at *
 obtain ⟨d1, d2, d3, d4, d5⟩ := hd
 obtain ⟨t1, t2, t3, t4⟩ := ht
 refine Lent.intro F80_ok (by simp [F80]) ?_
 rw [Typ.pv_mk, Val.pv_mk] at *
 simp only [blkF] at *
 have c : vk = 3 := by omega
 subst hk c
 rw [← hR] at h83
 rw [hf] at h84
 simp (disch:=first|exact dI|fail) only [F80, push_cast, seval]
 refine ACall.pure h84 rfl ?_
 simp (disch:=first|exact dI|fail) only [hs, push_cast, seval]
 refine ACall.lentK h83 [0, 1] rfl (by simp (disch:=first|exact dI|fail) only [push_cast, seval]) (by simp (disch:=first|exact dI|fail) only [push_cast, seval]) ?_
 simp (disch:=first|exact dI|fail) only [push_cast, seval]
 exact lent_z [] (by simp (disch:=first|exact dI|fail) only [push_cast, seval])
theorem find56F_5 (n : Nat) (ih : FindF n) (t : Typ) (v : Val) (p : List UInt8) (l : List Mis) (R : Bool × List Mis) (hd : dep (n + 1) v) (ht : tyOk (n + 1) t) (hv : v.ok) (hp : p.length + 200 * (n + 1) ≤ 100000) (hi : invF false l) (hR : R = addF false l (missN (n + 1) t v p)) (h : ¬ (t.kind < 1 ∨ 10 < t.kind ∨ ¬ v.kind = t.kind)) (hf : formedV v = true) (hk : t.kind = 5) :
  Lent Tryz.prog tabG 2 80 [.ptr 0 0, .pv t.pv, .pv v.pv, .pv (.str p)] (blkF false l) (.pv (.tup [])) (blkF R.1 R.2) := by
 have hd0 := hd
 simp only [dep] at hd0
 have h84 := formed84 v (by omega) (by omega) (by omega)
 have h85 := fun k => out85F false l t p k (by have := hi.1; omega) _ rfl
 have hvo := hv
 have h85 := h85 v.text.length
 rw [missN_succ, miss1_text h hf (.inr hk) (by omega)] at hR
 obtain ⟨k, m, M, s, w, e, fs⟩ := t
 obtain ⟨vk, vi, vs, vt, vl, vf⟩ := v
 simp only [dep, tyOk, Val.lst, Val.fields, Val.text, Typ.fields, Typ.words, Typ.elem, Typ.kind, Val.kind, Typ.min, Typ.max, Typ.scale, Val.num, Val.scale] at *
 obtain ⟨d1, d2, d3, d4, d5⟩ := hd
 obtain ⟨t1, t2, t3, t4⟩ := ht
 refine Lent.intro F80_ok (by simp [F80]) ?_
 rw [Typ.pv_mk, Val.pv_mk] at *
 simp only [blkF] at *
 have c : vk = 5 := by omega
 subst hk c
 rw [← hR] at h85
 rw [hf] at h84
 simp (disch:=first|exact dI|fail) only [F80, push_cast, seval]
 refine ACall.pure h84 rfl ?_
 simp (disch:=first|exact dI|fail) only [push_cast, seval]
 refine ACall.lentK h85 [0, 1] rfl (by simp (disch:=first|exact dI|fail) only [push_cast, seval]) (by simp (disch:=first|exact dI|fail) only [push_cast, seval]) ?_
 simp (disch:=first|exact dI|fail) only [push_cast, seval]
 exact lent_z [] (by simp (disch:=first|exact dI|fail) only [push_cast, seval])
theorem find56F_4 (n : Nat) (ih : FindF n) (t : Typ) (v : Val) (p : List UInt8) (l : List Mis) (R : Bool × List Mis) (hd : dep (n + 1) v) (ht : tyOk (n + 1) t) (hv : v.ok) (hp : p.length + 200 * (n + 1) ≤ 100000) (hi : invF false l) (hR : R = addF false l (missN (n + 1) t v p)) (h : ¬ (t.kind < 1 ∨ 10 < t.kind ∨ ¬ v.kind = t.kind)) (hf : formedV v = true) (hk : t.kind = 4) (hw : t.words.length = 0) :
  Lent Tryz.prog tabG 2 80 [.ptr 0 0, .pv t.pv, .pv v.pv, .pv (.str p)] (blkF false l) (.pv (.tup [])) (blkF R.1 R.2) := by
 have hd0 := hd
 simp only [dep] at hd0
 have h84 := formed84 v (by omega) (by omega) (by omega)
 have h85 := fun k => out85F false l t p k (by have := hi.1; omega) _ rfl
 have hvo := hv
 have h85 := h85 v.text.length
 rw [missN_succ, miss1_text h hf (.inl hk) (fun _ => hw)] at hR
 obtain ⟨k, m, M, s, w, e, fs⟩ := t
 obtain ⟨vk, vi, vs, vt, vl, vf⟩ := v
 simp only [dep, tyOk, Val.lst, Val.fields, Val.text, Typ.fields, Typ.words, Typ.elem, Typ.kind, Val.kind, Typ.min, Typ.max, Typ.scale, Val.num, Val.scale] at *
 obtain ⟨d1, d2, d3, d4, d5⟩ := hd
 obtain ⟨t1, t2, t3, t4⟩ := ht
 refine Lent.intro F80_ok (by simp [F80]) ?_
 rw [Typ.pv_mk, Val.pv_mk] at *
 simp only [blkF] at *
 have c : vk = 4 := by omega
 subst hk c
 rw [← hR] at h85
 rw [hf] at h84
 have hz : ¬ (0 : Int) < w.length := by omega
 simp (disch:=first|exact dI|fail) only [F80, push_cast, seval]
 refine ACall.pure h84 rfl ?_
 simp (disch:=first|exact dI|fail) only [push_cast, seval]
 refine ACall.lentK h85 [0, 1] rfl (by simp (disch:=first|exact dI|fail) only [push_cast, seval]) (by simp (disch:=first|exact dI|fail) only [push_cast, seval]) ?_
 simp (disch:=first|exact dI|fail) only [push_cast, seval]
 exact lent_z [] (by simp (disch:=first|exact dI|fail) only [push_cast, seval])
theorem find56F_4w (n : Nat) (ih : FindF n) (t : Typ) (v : Val) (p : List UInt8) (l : List Mis) (R : Bool × List Mis) (hd : dep (n + 1) v) (ht : tyOk (n + 1) t) (hv : v.ok) (hp : p.length + 200 * (n + 1) ≤ 100000) (hi : invF false l) (hR : R = addF false l (missN (n + 1) t v p)) (h : ¬ (t.kind < 1 ∨ 10 < t.kind ∨ ¬ v.kind = t.kind)) (hf : formedV v = true) (hk : t.kind = 4) (hw : 0 < t.words.length) (ha : (t.words.any fun x => decide (x = v.text)) = true) :
  Lent Tryz.prog tabG 2 80 [.ptr 0 0, .pv t.pv, .pv v.pv, .pv (.str p)] (blkF false l) (.pv (.tup [])) (blkF R.1 R.2) := by
 have hd0 := hd
 simp only [dep] at hd0
 have h84 := formed84 v (by omega) (by omega) (by omega)
 have h86 := contains86 t.words v.text (by have := ht; simp only [tyOk] at this; omega)
 have hvo := hv
 rw [missN_succ, miss1_word h hf hk hw ha, addF_nil] at hR
 obtain ⟨k, m, M, s, w, e, fs⟩ := t
 obtain ⟨vk, vi, vs, vt, vl, vf⟩ := v
 simp only [dep, tyOk, Val.lst, Val.fields, Val.text, Typ.fields, Typ.words, Typ.elem, Typ.kind, Val.kind, Typ.min, Typ.max, Typ.scale, Val.num, Val.scale] at *
 obtain ⟨d1, d2, d3, d4, d5⟩ := hd
 obtain ⟨t1, t2, t3, t4⟩ := ht
 refine Lent.intro F80_ok (by simp [F80]) ?_
 rw [Typ.pv_mk, Val.pv_mk] at *
 simp only [blkF] at *
 have c : vk = 4 := by omega
 subst hk c hR
 rw [hf] at h84
 rw [ha] at h86
 have hz : (0 : Int) < w.length := by omega
 simp (disch:=first|exact dI|fail) only [F80, push_cast, seval]
 refine ACall.pure h84 rfl ?_
 simp (disch:=first|exact dI|fail) only [push_cast, seval]
 refine ACall.pure h86 rfl ?_
 simp (disch:=first|exact dI|fail) only [push_cast, seval]
 exact lent_z [] (by simp (disch:=first|exact dI|fail) only [push_cast, seval])
theorem find56F_4n (n : Nat) (ih : FindF n) (t : Typ) (v : Val) (p : List UInt8) (l : List Mis) (R : Bool × List Mis) (hd : dep (n + 1) v) (ht : tyOk (n + 1) t) (hv : v.ok) (hp : p.length + 200 * (n + 1) ≤ 100000) (hi : invF false l) (hR : R = addF false l (missN (n + 1) t v p)) (h : ¬ (t.kind < 1 ∨ 10 < t.kind ∨ ¬ v.kind = t.kind)) (hf : formedV v = true) (hk : t.kind = 4) (hw : 0 < t.words.length) (ha : (t.words.any fun x => decide (x = v.text)) = false) :
  Lent Tryz.prog tabG 2 80 [.ptr 0 0, .pv t.pv, .pv v.pv, .pv (.str p)] (blkF false l) (.pv (.tup [])) (blkF R.1 R.2) := by
 have hd0 := hd
 simp only [dep] at hd0
 have h84 := formed84 v (by omega) (by omega) (by omega)
 have h83 := fun c => add83F false l p c (by have := hi.1; omega)
 have h86 := contains86 t.words v.text (by have := ht; simp only [tyOk] at this; omega)
 have hvo := hv
 have h83 := h83 4
 rw [missN_succ, miss1_noword h hf hk hw ha, addF_one] at hR
 obtain ⟨k, m, M, s, w, e, fs⟩ := t
 obtain ⟨vk, vi, vs, vt, vl, vf⟩ := v
 simp only [dep, tyOk, Val.lst, Val.fields, Val.text, Typ.fields, Typ.words, Typ.elem, Typ.kind, Val.kind, Typ.min, Typ.max, Typ.scale, Val.num, Val.scale] at *
 obtain ⟨d1, d2, d3, d4, d5⟩ := hd
 obtain ⟨t1, t2, t3, t4⟩ := ht
 refine Lent.intro F80_ok (by simp [F80]) ?_
 rw [Typ.pv_mk, Val.pv_mk] at *
 simp only [blkF] at *
 have c : vk = 4 := by omega
 subst hk c
 rw [← hR] at h83
 rw [hf] at h84
 rw [ha] at h86
 have hz : (0 : Int) < w.length := by omega
 simp (disch:=first|exact dI|fail) only [F80, push_cast, seval]
 refine ACall.pure h84 rfl ?_
 simp (disch:=first|exact dI|fail) only [push_cast, seval]
 refine ACall.pure h86 rfl ?_
 simp (disch:=first|exact dI|fail) only [push_cast, seval]
 refine ACall.lentK h83 [0, 1] rfl (by simp (disch:=first|exact dI|fail) only [push_cast, seval]) (by simp (disch:=first|exact dI|fail) only [push_cast, seval]) ?_
 simp (disch:=first|exact dI|fail) only [push_cast, seval]
 exact lent_z [] (by simp (disch:=first|exact dI|fail) only [push_cast, seval])
theorem addF_eq (a l : List Mis) : (addF false l a).1 = !a.isEmpty := by
 cases a with
 | nil => rfl
 | cons m r => rw [addF, stepF, addF_true]; rfl
end Go.Proofs.YtbaaokocnegdoaaGreatDoor
