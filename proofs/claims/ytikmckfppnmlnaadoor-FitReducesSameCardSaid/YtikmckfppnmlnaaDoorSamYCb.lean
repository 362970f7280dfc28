/- A part of the proof for FitReducesSameCardSaid. -/
import Derived.Test.YtikmckfppnmlnaaDoorSamYCa
import Derived.Test.YtikmckfppnmlnaaDoorCore5
set_option maxRecDepth 100000
set_option linter.unusedVariables false
set_option linter.unusedSimpArgs false
namespace Go.Proofs.YtikmckfppnmlnaaDoor
open Go Go.Ab
open Nat renaming reduceEqDiff → qa, reduceAdd → qb, reduceMul → qc, reduceLeDiff → qd, reduceLT → qe, reduceBEq → qf, reduceSub → qg
open Int renaming reduceToNat → qh, reduceNeg → qi
attribute [local irreducible] vc
theorem clo101 (x : Fld) (s : List UInt8) : Pure Tryd.prog tabG 101 [x.pv, .str s] (.int .i64 (Lib.compareBytes x.name s)) := by
  obtain ⟨a, ⟨x1, x2, x3, x4, x5, x6⟩⟩ := x
  have h := compare_ok a s
  refine Pure.intro F101_ok (by simp [F101]) ?_
  simp (disch := first | exact dI | fail) only [F101o0, F101o1, F101c, F101, Fld.pv_mk, Val.pv_mk, Fld.name, push_cast, ↓reduceIte, qa, qb, qc, qd, qe, qf, qg, qh, qi]
  refine ACall.pure h rfl ?_
  simp (disch := first | exact dI | fail) only [push_cast, ↓reduceIte, qa, qb, qc, qd, qe, qf, qg, qh, qi]
theorem shr_half {a : Int} {h : Nat} (hh : a / 2 = (h : Int)) : rBin .shr (.pv (.int .u64 a)) (.pv (.int .u64 1)) = some (.pv (.int .u64 (h : Int))) := by
  have e : a.fdiv 2 = a / 2 := Int.fdiv_eq_ediv_of_nonneg a (by omega)
  simp [rBin, rShift, IntKind.bits, e, hh]
def midI (l : List Fld) (s : List UInt8) (x : Nat × Nat) : Prop :=
  x.1 ≤ x.2 ∧ x.2 ≤ l.length ∧ (∀ k y, k < x.1 → l[k]? = some y → ltN s y = true) ∧ ∀ k y, x.2 ≤ k → l[k]? = some y → ltN s y = false
theorem mid_up {l : List Fld} {s : List UInt8} {i j h : Nat} {y : Fld} (hs : Srt l) (hI : midI l s (i, j)) (hi : i ≤ h) (hj : h < j) (hy : l[h]? = some y) (hlt : ltN s y = true) : midI l s (h + 1, j) := by
  obtain ⟨h1, h2, h3, h4⟩ := hI
  refine ⟨by simp only; omega, h2, fun k z hk hz => ?_, h4⟩
  simp only at hk
  by_cases hkh : k = h
  · subst hkh; rw [hy] at hz; cases hz; exact hlt
  · exact bl_trans _ _ _ (srt_get hs hz hy (by omega)) hlt
theorem mid_dn {l : List Fld} {s : List UInt8} {i j h : Nat} {y : Fld} (hs : Srt l) (hI : midI l s (i, j)) (hi : i ≤ h) (hj : h < j) (hy : l[h]? = some y) (hlt : ltN s y = false) : midI l s (i, h) := by
  obtain ⟨h1, h2, h3, h4⟩ := hI
  refine ⟨by simp only; omega, by simp only at h2 ⊢; omega, h3, fun k z hk hz => ?_⟩
  simp only at hk
  by_cases hkh : k = h
  · subst hkh; rw [hy] at hz; cases hz; exact hlt
  · cases hz2 : ltN s z with
    | false => rfl
    | true =>
      have := bl_trans _ _ _ (srt_get hs hy hz (by omega)) hz2
      unfold ltN at hlt
      rw [hlt] at this; cases this
theorem mid_end {l : List Fld} {s : List UInt8} {i j : Nat} (hI : midI l s (i, j)) (h : ¬ i < j) : posF l s = i := by
  obtain ⟨h1, h2, h3, h4⟩ := hI
  simp only at h1 h2 h3 h4
  have e : i = j := by omega
  subst e
  exact posF_eq s l i h2 h3 h4
theorem has_pos {l : List Fld} {s : List UInt8} (hs : Srt l) {y : Fld} (hy : l[posF l s]? = some y) : hasF l s = decide (Lib.compareBytes y.name s = 0) := by
  rw [Bool.eq_iff_iff, hasF_iff, decide_eq_true_eq, bytes_zero]
  constructor
  · rintro ⟨x, hx, e⟩
    obtain ⟨i, hi⟩ := List.getElem?_of_mem hx
    have hdw := (tw_take (ltN s) l).2
    have hyd : (l.dropWhile (ltN s))[0]? = some y := by
      rw [← hdw, List.getElem?_drop, Nat.add_zero]; exact hy
    cases hd : l.dropWhile (ltN s) with
    | nil => rw [hd] at hyd; cases hyd
    | cons a r =>
      rw [hd] at hyd
      simp only [List.getElem?_cons_zero, Option.some.injEq] at hyd
      subst hyd
      have ha := dw_head _ _ _ _ hd
      rcases Nat.lt_trichotomy i (posF l s) with hip | hip | hip
      · have hxm : x ∈ l.takeWhile (ltN s) := by
          rw [← (tw_take (ltN s) l).1]
          exact List.mem_of_getElem? (i := i) (by rw [List.getElem?_take]; exact (if_pos hip).trans hi)
        have := tw_all _ _ _ hxm
        unfold ltN at this
        rw [e, bl_irrefl] at this; cases this
      · rw [hip, hy] at hi; cases hi; exact e
      · have := srt_get hs hy hi hip
        unfold ltN at ha
        rw [e, ha] at this; cases this
  · intro e; exact ⟨y, List.mem_of_getElem? hy, e⟩
theorem has_end {l : List Fld} {s : List UInt8} (h : ¬ posF l s < l.length) : hasF l s = false := by
  cases hh : hasF l s with
  | false => rfl
  | true =>
    obtain ⟨x, hx, e⟩ := hasF_iff.1 hh
    have h1 := (tw_take (ltN s) l).1
    have hle := posF_le l s
    rw [show (l.takeWhile (ltN s)).length = l.length by unfold posF at h hle; omega, List.take_length] at h1
    rw [h1] at hx
    have := tw_all _ _ _ hx
    unfold ltN at this
    rw [e, bl_irrefl] at this; cases this
set_option maxHeartbeats 4000000 in
theorem search100 (l : List Fld) (s : List UInt8) (hs : Srt l) (hl : l.length ≤ 1000) :
    Lent Tryd.prog tabG 1 100 [.row 0 7 0 l.length, .pv (.str s), .pv (.clo 101 [] [])] [.cells 127 false ((rowP l).map .pv)] (.pv (.tup [.int .i64 (posF l s), .bool (hasF l s)])) [.cells 127 false ((rowP l).map .pv)] := by
  have hrl := rowP_len l
  refine Lent.intro F100_ok (by simp [F100]) ?_
  simp (disch := first | exact dI | fail) only [F100o0, F100o1, F100o2, F100o3, F100o4, F100o5, F100o6, F100o7, F100b8, F100o9, F100c, F100, push_cast, ↓reduceIte, qa, qb, qc, qd, qe, qf, qg, qh, qi]
  refine vc_over ([]) (fun x : Nat × Nat => [(9, .pv (.int .i64 (x.1 : Int))), (10, .pv (.int .i64 (x.2 : Int)))]) (fun x => []) (midI l s) (fun x => x.2 - x.1) ((0, l.length)) ?_; intro e0 σ0 n0 h0; simp (disch := first | exact dI | fail) only [push_cast, ↓reduceIte, qa, qb, qc, qd, qe, qf, qg, qh, qi] at h0; obtain ⟨rfl, rfl, rfl⟩ := h0; refine ⟨?_, ?_, ?_⟩
  · simp (disch := first | exact dI | fail) only [push_cast, ↓reduceIte, qa, qb, qc, qd, qe, qf, qg, qh, qi]
  · exact ⟨Nat.zero_le _, Nat.le_refl _, fun k y hk => absurd hk (Nat.not_lt_zero _), fun k y hk hy => by rw [List.getElem?_eq_none hk] at hy; cases hy⟩
  · rintro ⟨i, j⟩ hI
    have hI0 := hI
    obtain ⟨h1, h2, h3, h4⟩ := hI0
    simp only at h1 h2
    by_cases hlt : i < j
    · have hltI : (i : Int) < j := by omega
      obtain ⟨h, hh⟩ : ∃ h, h = (i + j) / 2 := ⟨_, rfl⟩
      have hsh := shr_half (a := (i : Int) + (j : Int)) (h := h) (by omega)
      obtain ⟨x, hx⟩ : ∃ x, l[h]? = some x := ⟨_, List.getElem?_eq_getElem (by omega)⟩
      have hcall := clo101 x s
      have hcmp := cmp_lt x.name s
      have hld := rowP_load hx
      have hhl : h < l.length := by omega
      simp (disch := first | exact dI | fail) only [hsh, hx, hld, Fld.cells_len, Fld.isAgg, push_cast, ↓reduceIte, qa, qb, qc, qd, qe, qf, qg, qh, qi]
      refine ACall.pure hcall rfl ?_
      cases hb : bytesLt x.name s with
      | true =>
        rw [hb, decide_eq_true_eq] at hcmp
        simp (disch := first | exact dI | fail) only [push_cast, ↓reduceIte, qa, qb, qc, qd, qe, qf, qg, qh, qi]
        exact ⟨(h + 1, j), hd_z (by simp (disch := first | exact dI | fail) only [push_cast, ↓reduceIte, qa, qb, qc, qd, qe, qf, qg, qh, qi]), mid_up hs hI (by omega) (by omega) hx hb, by simp only; omega⟩
      | false =>
        rw [hb, decide_eq_false_iff_not] at hcmp
        simp (disch := first | exact dI | fail) only [push_cast, ↓reduceIte, qa, qb, qc, qd, qe, qf, qg, qh, qi]
        exact ⟨(i, h), hd_z (by simp (disch := first | exact dI | fail) only [push_cast, ↓reduceIte, qa, qb, qc, qd, qe, qf, qg, qh, qi]), mid_dn hs hI (by omega) (by omega) hx hb, by simp only; omega⟩
    · have hltI : ¬ (i : Int) < j := by omega
      have hp := mid_end hI hlt
      by_cases hil : i < l.length
      · have hilI : (i : Int) < l.length := by omega
        obtain ⟨x, hx⟩ : ∃ x, l[i]? = some x := ⟨_, List.getElem?_eq_getElem hil⟩
        have hcall := clo101 x s
        have hld := rowP_load hx
        have hhp := has_pos hs (y := x) (by rw [hp]; exact hx)
        simp (disch := first | exact dI | fail) only [hx, hld, Fld.cells_len, Fld.isAgg, push_cast, ↓reduceIte, qa, qb, qc, qd, qe, qf, qg, qh, qi]
        refine ACall.pure hcall rfl ?_
        rw [hhp, hp]
        by_cases hz : Lib.compareBytes x.name s = 0
        · simp (disch := first | exact dI | fail) only [hz, push_cast, ↓reduceIte, qa, qb, qc, qd, qe, qf, qg, qh, qi]
          exact lent_z [] (by simp (disch := first | exact dI | fail) only [push_cast, ↓reduceIte, qa, qb, qc, qd, qe, qf, qg, qh, qi])
        · simp (disch := first | exact dI | fail) only [hz, push_cast, ↓reduceIte, qa, qb, qc, qd, qe, qf, qg, qh, qi]
          exact lent_z [] (by simp (disch := first | exact dI | fail) only [push_cast, ↓reduceIte, qa, qb, qc, qd, qe, qf, qg, qh, qi])
      · have hilI : ¬ (i : Int) < l.length := by omega
        have hhp := has_end (l := l) (s := s) (by rw [hp]; exact hil)
        rw [hhp, hp]
        simp (disch := first | exact dI | fail) only [push_cast, ↓reduceIte, qa, qb, qc, qd, qe, qf, qg, qh, qi]
        exact lent_z [] (by simp (disch := first | exact dI | fail) only [push_cast, ↓reduceIte, qa, qb, qc, qd, qe, qf, qg, qh, qi])
end Go.Proofs.YtikmckfppnmlnaaDoor
