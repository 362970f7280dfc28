/- A part of the proof for FitBackCardSaid. -/
import Derived.Test.YtikmckfppnmlnaaDoorBakYRz
set_option maxRecDepth 100000
set_option linter.unusedVariables false
set_option linter.unusedSimpArgs false
namespace Go.Proofs.YtikmckfppnmlnaaDoor
open Go Go.Ab
open Nat renaming reduceEqDiff → qa, reduceAdd → qb, reduceMul → qc, reduceLeDiff → qd, reduceLT → qe, reduceBEq → qf, reduceSub → qg
open Int renaming reduceToNat → qh, reduceNeg → qi
attribute [local irreducible] vc
theorem frzB_tail {sz n r T : Nat} {b : Bool} {L K : List AV} (h : n * sz = L.length) : frzB sz n r (.cells T b (L ++ K)) = frzB sz n r (.cells T b L) := by
  have e1 : (L ++ K).take (n * sz) = L := by rw [h, List.take_left']; rfl
  have e2 : L.take (n * sz) = L := by rw [h, List.take_length]
  unfold frzB; dsimp only
  rw [e1, e2]
  by_cases hs : 0 < sz ∧ L.all AV.one = true
  · rw [if_pos ⟨hs.1, by rw [List.length_append]; omega, hs.2⟩, if_pos ⟨hs.1, by omega, hs.2⟩]
  · rw [if_neg (fun hh => hs ⟨hh.1, hh.2.2⟩), if_neg (fun hh => hs ⟨hh.1, hh.2.2⟩)]
theorem frzF {n r : Nat} {b : Bool} (l : List Fld) (k : List PV) (hn : n = l.length) : frzB 7 n r (.cells 127 b ((rowP l ++ k).map .pv)) = some (.list (l.map Fld.pv), [r]) := by
  rw [List.map_append, frzB_tail (by rw [List.length_map, rowP_len, hn]), ← rowP_flat]
  exact frzB_map (fun x => Fld.row x) (by omega) l hn
def RedG (n : Nat) : Prop := ∀ (t : Typ) (v : Val) (p : List UInt8), dep n v → tyOk n t → tyD n t → v.ok → missN n t v p = [] → Pure Tryd.prog tabG 67 [t.pv, v.pv] (redN n t v).pv
set_option maxHeartbeats 4000000 in
theorem red67_list (n : Nat) (ih : RedG n) (t : Typ) (v : Val) (p : List UInt8) (hd : dep (n + 1) v) (ht : tyOk (n + 1) t) (hD : tyD (n + 1) t) (hv : v.ok) (hm : missN (n + 1) t v p = []) (hk : ¬ v.kind = 9) (r : Val) (hr : Pure Tryd.prog tabG 99 [t.pv, v.pv, .clo 67 [] []] r.pv) : Pure Tryd.prog tabG 67 [t.pv, v.pv] r.pv := by
  rw [missN_succ] at hm
  obtain ⟨hg, hf⟩ := fit_kind hm
  have hd0 := hd
  simp only [dep] at hd0
  have h84 := formed84 v (by omega) (by omega) (by omega)
  rw [hf] at h84
  have hkt : v.kind = t.kind := by omega
  obtain ⟨k, m, M, s, w, el, fs⟩ := t
  obtain ⟨vk, vi, vs, vt, vl, vf⟩ := v
  obtain ⟨r1, r2, r3, r4, r5, r6⟩ := r
  simp only [Val.kind, Typ.kind] at hk hkt
  subst hkt
  simp only [Typ.pv_mk, Val.pv_mk] at *
  refine Pure.intro F1067_ok (by simp [F1067]) ?_
  simp (disch := first | exact dI | fail) only [F1067o0, F1067o1, F1067o2, F1067o3, F1067o4, F1067o5, F1067c, F1067, push_cast, ↓reduceIte, qa, qb, qc, qd, qe, qf, qg, qh, qi]
  refine ACall.pure h84 rfl ?_
  simp (disch := first | exact dI | fail) only [hk, push_cast, ↓reduceIte, qa, qb, qc, qd, qe, qf, qg, qh, qi]
  refine ACall.pure hr rfl ?_
  simp (disch := first | exact dI | fail) only [push_cast, ↓reduceIte, qa, qb, qc, qd, qe, qf, qg, qh, qi]
end Go.Proofs.YtikmckfppnmlnaaDoor
