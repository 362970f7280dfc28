/- A part of the proof for FitWidensCardSaid. -/
import Derived.Test.YtikmckfppnmlnaaDoorMisFWid
import Derived.Test.YtikmckfppnmlnaaDoorMisYR
set_option maxRecDepth 100000
set_option linter.unusedVariables false
set_option linter.unusedSimpArgs false
namespace Go.Proofs.YtikmckfppnmlnaaDoor
open Go Go.Ab
open Nat (reduceEqDiff reduceAdd reduceMul reduceLeDiff reduceLT reduceSub)
attribute [local irreducible] vc

/-- A type with wider bounds. -/
def widT (a b : Int) : Typ → Typ
  | .mk k m M s w e f => .mk k (max m (-1152921504606846976) - a) (min M 1152921504606846976 + b) s w e f
theorem widT_ok (n : Nat) (a b : Int) (t : Typ) (h : tyOk n t) : tyOk n (widT a b t) := by
  obtain ⟨k, m, M, s, w, e, f⟩ := t
  cases n with
  | zero => exact h
  | succ n => exact h
theorem outM_wid {a b m M n : Int} {p : List UInt8} (ha : 0 ≤ a) (hb : 0 ≤ b) (h1 : -1152921504606846976 ≤ n) (h2 : n ≤ 1152921504606846976) (h : outM m M p n = []) : outM (max m (-1152921504606846976) - a) (min M 1152921504606846976 + b) p n = [] := by
  by_cases h3 : n < m ∨ M < n
  · rw [outM_t h3] at h; cases h
  · rw [outM_f]; omega
theorem wid_law (n : Nat) (t : Typ) (v : Val) (p : List UInt8) (a b : Int) (ha : 0 ≤ a) (hb : 0 ≤ b) (hd : dep (n + 1) v) (h1 : -1152921504606846976 ≤ v.num) (h2 : v.num ≤ 1152921504606846976) (h : missN (n + 1) t v p = []) : missN (n + 1) (widT a b t) v p = [] := by
  simp only [dep] at hd
  obtain ⟨d1, d2, d3, _, _⟩ := hd
  have hk' : (widT a b t).kind = t.kind := by obtain ⟨k, m, M, s, w, e, f⟩ := t; rfl
  have hm' : (widT a b t).min = max t.min (-1152921504606846976) - a := by obtain ⟨k, m, M, s, w, e, f⟩ := t; rfl
  have hM' : (widT a b t).max = min t.max 1152921504606846976 + b := by obtain ⟨k, m, M, s, w, e, f⟩ := t; rfl
  have hs' : (widT a b t).scale = t.scale := by obtain ⟨k, m, M, s, w, e, f⟩ := t; rfl
  have hw' : (widT a b t).words = t.words := by obtain ⟨k, m, M, s, w, e, f⟩ := t; rfl
  have he' : (widT a b t).elem = t.elem := by obtain ⟨k, m, M, s, w, e, f⟩ := t; rfl
  have hf' : (widT a b t).fields = t.fields := by obtain ⟨k, m, M, s, w, e, f⟩ := t; rfl
  rw [missN_succ] at h ⊢
  by_cases g : t.kind < 1 ∨ 10 < t.kind ∨ ¬ v.kind = t.kind
  · rw [miss1_kind g] at h; cases h
  · have g' : ¬ ((widT a b t).kind < 1 ∨ 10 < (widT a b t).kind ∨ ¬ v.kind = (widT a b t).kind) := by rw [hk']; exact g
    by_cases hf : formedV v = false
    · rw [miss1_bad g hf] at h; cases h
    · have hf : formedV v = true := by simpa using hf
      have hk : t.kind = 1 ∨ t.kind = 2 ∨ t.kind = 3 ∨ t.kind = 4 ∨ t.kind = 5 ∨ t.kind = 6 ∨ t.kind = 7 ∨ t.kind = 8 ∨ t.kind = 9 ∨ t.kind = 10 := by omega
      have hout := fun k (c1 : -1152921504606846976 ≤ k) (c2 : k ≤ 1152921504606846976) (hh : outM t.min t.max p k = []) => outM_wid (p := p) ha hb c1 c2 hh
      rw [← hm', ← hM'] at hout
      rcases hk with hk | hk | hk | hk | hk | hk | hk | hk | hk | hk
      · rw [miss1_none g' hf (by omega)]
      · rw [miss1_num g hf (by omega)] at h
        rw [miss1_num g' hf (by omega)]; exact hout _ h1 h2 h
      · by_cases hs : v.scale = t.scale
        · rw [miss1_dec g hf hk hs] at h
          rw [miss1_dec g' hf (by omega) (by rw [hs'] ; exact hs)]; exact hout _ h1 h2 h
        · rw [miss1_scale g hf hk hs] at h; cases h
      · by_cases hw : t.words.length = 0
        · rw [miss1_text g hf (.inl hk) (fun _ => hw)] at h
          rw [miss1_text g' hf (.inl (by omega)) (fun _ => by rw [hw']; exact hw)]; exact hout _ (by omega) (by omega) h
        · cases ha : (t.words.any fun x => decide (x = v.text)) with
          | true => rw [miss1_word g' hf (by omega) (by rw [hw']; omega) (by rw [hw']; exact ha)]
          | false => rw [miss1_noword g hf hk (by omega) ha] at h; cases h
      · rw [miss1_text g hf (.inr hk) (by omega)] at h
        rw [miss1_text g' hf (.inr (by omega)) (by omega)]; exact hout _ (by omega) (by omega) h
      · rw [miss1_num g hf (by omega)] at h
        rw [miss1_num g' hf (by omega)]; exact hout _ h1 h2 h
      · rw [miss1_num g hf (by omega)] at h
        rw [miss1_num g' hf (by omega)]; exact hout _ h1 h2 h
      · rw [miss1_list g hf hk, List.append_eq_nil_iff] at h
        rw [miss1_list g' hf (by omega), List.append_eq_nil_iff, he']
        exact ⟨hout _ (by omega) (by omega) h.1, h.2⟩
      · rw [miss1_rec g hf hk] at h
        rw [miss1_rec g' hf (by omega)]
        unfold recM at h ⊢
        rw [hf']; exact h
      · rw [miss1_var g hf hk] at h
        rw [miss1_var g' hf (by omega)]
        unfold varM at h ⊢
        rw [hf']; exact h
theorem rIaddrA_ptr {n sz r o : Nat} {k : IntKind} {i : Int} (h0 : 0 ≤ i) (h1 : i.toNat < n) : rIaddrA n sz (.ptr r o) (.pv (.int k i)) = some (.ptr r (o + i.toNat * sz)) := if_pos ⟨h0, h1⟩
theorem widens_law (t : Typ) (v : Val) (a b : Int) (ht : t.ok) (hv : v.ok) (ha : 0 ≤ a) (hb : 0 ≤ b) (ha2 : a ≤ 65535) (hb2 : b ≤ 65535) : Pure Tryd.prog tabG 5 [t.pv, v.pv, .agg [.int .u16 a, .int .u16 b]] (.bool true) := by
  have h22 := short22 t v ht hv
  have hd := shortV_dep 3 v
  have hy := shortT_ty 3 t
  have ho := shortV_ok 4 v hv
  have hto : I64 (shortT 4 t).min ∧ I64 (shortT 4 t).max := by
    obtain ⟨k, m, M, s, w, e, fs⟩ := t
    rw [Typ.ok_mk] at ht
    exact ⟨ht.2.1, ht.2.2.1⟩
  generalize shortT 4 t = T at *
  generalize shortV 4 v = V at *
  have h26 := fits26 4 T V hd hy ho (by omega)
  have h26w := fits26 4 (widT a b T) V hd (widT_ok 4 a b T hy) ho (by omega)
  have hlaw := wid_law 3 T V [] a b ha hb hd
  obtain ⟨a1, a2, a3, a4, a5, a6, a7⟩ := T
  obtain ⟨b1, b2, b3, b4, b5, b6⟩ := V
  obtain ⟨k, m, M, s, w, e, fs⟩ := t
  obtain ⟨vk, vi, vs, vt, vl, vf⟩ := v
  simp only [widT] at h26w
  simp only [Typ.pv_mk, Val.pv_mk] at *
  simp only [Val.num, Typ.min, Typ.max, I64] at hlaw hto
  obtain ⟨⟨c1, c2⟩, c3, c4⟩ := hto
  refine Pure.intro F5_ok (by simp [F5]) ?_
  simp (maxSteps := 1000000) (disch := first | exact dI | fail) only [F5o0, F5o1, F5o2, F5o3, F5o4, F5p4, F5o5, F5c, F5, push_cast, ↓reduceIte, reduceEqDiff, reduceAdd, reduceMul, reduceLeDiff, reduceLT, Nat.reduceBEq, reduceSub, Int.reduceToNat, Int.reduceNeg]
  refine ACall.pure h22 rfl ?_
  simp (maxSteps := 1000000) (disch := first | exact dI | fail) only [Typ.pv_mk, Val.pv_mk, push_cast, ↓reduceIte, reduceEqDiff, reduceAdd, reduceMul, reduceLeDiff, reduceLT, Nat.reduceBEq, reduceSub, Int.reduceToNat, Int.reduceNeg]
  refine ACall.pure known_ok rfl ?_
  simp (maxSteps := 1000000) (disch := first | exact dI | fail) only [push_cast, ↓reduceIte, reduceEqDiff, reduceAdd, reduceMul, reduceLeDiff, reduceLT, Nat.reduceBEq, reduceSub, Int.reduceToNat, Int.reduceNeg]
  refine ACall.pure h26 rfl ?_
  cases hE : (missN 4 (.mk a1 a2 a3 a4 a5 a6 a7) (.mk b1 b2 b3 b4 b5 b6) []).isEmpty with
  | false =>
    simp (maxSteps := 1000000) (disch := first | exact dI | fail) only [push_cast, ↓reduceIte, reduceEqDiff, reduceAdd, reduceMul, reduceLeDiff, reduceLT, Nat.reduceBEq, reduceSub, Int.reduceToNat, Int.reduceNeg]
    refine ACall.pure known_ok rfl ?_
    simp (maxSteps := 1000000) (disch := first | exact dI | fail) only [push_cast, ↓reduceIte, reduceEqDiff, reduceAdd, reduceMul, reduceLeDiff, reduceLT, Nat.reduceBEq, reduceSub, Int.reduceToNat, Int.reduceNeg]
  | true =>
    have hnil := List.isEmpty_iff.1 hE
    simp (maxSteps := 1000000) (disch := first | exact dI | fail) only [rIaddrA_ptr, push_cast, ↓reduceIte, reduceEqDiff, reduceAdd, reduceMul, reduceLeDiff, reduceLT, Nat.reduceBEq, reduceSub, Int.reduceToNat, Int.reduceNeg]
    by_cases g1 : b2 < -1152921504606846976
    · simp (maxSteps := 1000000) (disch := first | exact dI | fail) only [g1, push_cast, ↓reduceIte, reduceEqDiff, reduceAdd, reduceMul, reduceLeDiff, reduceLT, Nat.reduceBEq, reduceSub, Int.reduceToNat, Int.reduceNeg]
    · by_cases g2 : 1152921504606846976 < b2
      · simp (maxSteps := 1000000) (disch := first | exact dI | fail) only [g1, g2, push_cast, ↓reduceIte, reduceEqDiff, reduceAdd, reduceMul, reduceLeDiff, reduceLT, Nat.reduceBEq, reduceSub, Int.reduceToNat, Int.reduceNeg]
      · have hl := hlaw (by omega) (by omega) hnil
        simp only [widT] at hl
        rw [hl, List.isEmpty_nil] at h26w
        simp (maxSteps := 1000000) (disch := first | exact dI | fail) only [g1, g2, push_cast, ↓reduceIte, reduceEqDiff, reduceAdd, reduceMul, reduceLeDiff, reduceLT, Nat.reduceBEq, reduceSub, Int.reduceToNat, Int.reduceNeg]
        refine ACall.pure h26w rfl ?_
        simp (maxSteps := 1000000) (disch := first | exact dI | fail) only [push_cast, ↓reduceIte, reduceEqDiff, reduceAdd, reduceMul, reduceLeDiff, reduceLT, Nat.reduceBEq, reduceSub, Int.reduceToNat, Int.reduceNeg]
theorem hasArr {t e n : Nat} {p : PV} (h : HasT Tryd.prog t p) (hu : Tryd.prog.underlying t = some (.array n e)) : ∃ cs : List PV, p = .agg cs ∧ cs.length = Tryd.prog.cellsOf t ∧ ∀ i, i < n → HasT Tryd.prog e (cellPV (isAggT Tryd.prog e) ((cs.drop (i * Tryd.prog.cellsOf e)).take (Tryd.prog.cellsOf e))) := by
  cases h with
  | arr _ e' n' cs hb hl hx => rw [hu] at hb; cases hb; exact ⟨cs, rfl, hl, hx⟩
  | agg _ fs' cs hb => rw [hu] at hb; cases hb
  | list _ e' l hb => rw [hu] at hb; cases hb
  | int _ k n hb => rw [hu] at hb; cases hb
  | bool _ b hb => rw [hu] at hb; cases hb
  | str _ s hb => rw [hu] at hb; cases hb
theorem widens_of (p0 p1 p2 : PV) (h0 : HasT Tryd.prog 58 p0) (h1 : HasT Tryd.prog 62 p1) (h2 : HasT Tryd.prog 74 p2) : Pure Tryd.prog tabG 5 [p0, p1, p2] (.bool true) := by
  obtain ⟨t, rfl, ht⟩ := hasT_Typ h0
  obtain ⟨v, rfl, hv⟩ := hasT_Val h1
  obtain ⟨cs, rfl, hcl, hc⟩ := hasArr h2 (e := 73) (n := 2) (by kernel_rfl)
  have hcl : cs.length = 2 := by rw [hcl]; kernel_rfl
  obtain ⟨x, y, rfl⟩ : ∃ x y, cs = [x, y] := by
    match cs, hcl with
    | [x, y], _ => exact ⟨x, y, rfl⟩
  have hA : isAggT Tryd.prog 73 = false := by kernel_rfl
  have hC : Tryd.prog.cellsOf 73 = 1 := by kernel_rfl
  have hx := hc 0 (by omega)
  have hy := hc 1 (by omega)
  rw [hA, hC] at hx hy
  simp only [List.drop, List.take, cellPV] at hx hy
  obtain ⟨a, rfl, ha⟩ := hasT_int hx (k := .u16) (by kernel_rfl)
  obtain ⟨b, rfl, hb⟩ := hasT_int hy (k := .u16) (by kernel_rfl)
  have ha : 0 ≤ a ∧ a ≤ 65535 := by
    simp only [Lit.wf, Bool.and_eq_true, decide_eq_true_eq] at ha
    exact ⟨ha.1, ha.2⟩
  have hb : 0 ≤ b ∧ b ≤ 65535 := by
    simp only [Lit.wf, Bool.and_eq_true, decide_eq_true_eq] at hb
    exact ⟨hb.1, hb.2⟩
  exact widens_law t v a b ht hv ha.1 hb.1 ha.2 hb.2
end Go.Proofs.YtikmckfppnmlnaaDoor
