/- A part of the proof for DelimitedLongCardSaid. -/
import Derived.Test.YtbaaokocnegdoaaGreatDoorLngV12
set_option maxRecDepth 100000
set_option linter.unusedVariables false
set_option linter.unusedSimpArgs false
-- many steps
namespace Go.Proofs.YtbaaokocnegdoaaGreatDoor
open Go Go.Ab
open Nat renaming reduceEqDiff → qa, reduceAdd → qb, reduceMul → qc, reduceLeDiff → qd, reduceLT → qe, reduceBEq → qf, reduceSub → qg
open Int renaming reduceToNat → qh, reduceNeg → qi
attribute [local irreducible] vc
theorem mk_row (k : Nat) (hk : k ≤ 65600) : rMk true 5 1 1 [PV.int .u8 0] 0 (.pv (.int .i64 (k : Int))) (.pv (.int .i64 (k : Int))) = some (.row 0 1 0 k, [(0, .cells 5 false ((bytesP (xs k 0)).map AV.pv))]) := by
  have h : (0 : Int) ≤ (k : Int) ∧ (k : Int) ≤ (k : Int) ∧ ((1 : Nat) : Int) * (k : Int) ≤ 281474976710656 ∧ (k : Int) ≤ 9223372036854775807 := ⟨by omega, by omega, by omega, by omega⟩
  have e : rMk true 5 1 1 [PV.int .u8 0] 0 (.pv (.int .i64 (k : Int))) (.pv (.int .i64 (k : Int))) = if (0 : Int) ≤ (k : Int) ∧ (k : Int) ≤ (k : Int) ∧ ((1 : Nat) : Int) * (k : Int) ≤ 281474976710656 ∧ (k : Int) ≤ 9223372036854775807 then some (.row 0 1 0 (k : Int).toNat, [(0, .cells 5 false ((List.replicate (k : Int).toNat [PV.int .u8 0]).flatten.map .pv))]) else none := rfl
  rw [e, if_pos h, Int.toNat_natCast, rowX_0]
theorem rElem_1 (sz : Nat) (l : List PV) : rElem sz l 1 = onElem sz l 1 l[1]? := rfl
theorem long_law (a b : Nat) (ha : a < 65536) (hb : b < 256) : Pure Tryz.prog tabG 10 [.int .u16 (a : Int), .int .u8 (b : Int)] (.bool true) := by
  obtain ⟨r, hr⟩ : ∃ r, r = a % 50 := ⟨_, rfl⟩
  obtain ⟨k, hk⟩ : ∃ k, k = 65500 + r := ⟨_, rfl⟩
  obtain ⟨m, hm⟩ : ∃ m, m = b % 50 := ⟨_, rfl⟩
  have er : (a : Int) % 50 = (r : Int) := by omega
  have ek : (65500 : Int) + (r : Int) = (k : Int) := by omega
  have em : (b : Int) % 50 = (m : Int) := by omega
  have hJ := longC_join26 k m (by omega)
  have hS := split28 (lineN 44 (longC k m)) 44
  rw [longC_join k m (by omega)] at hJ
  rw [longC_split k m (by omega)] at hS
  have hLl := longC_len k m (by omega)
  rw [longC_line] at hJ hS hLl
  refine Pure.intro F10_ok (by simp [F10]) ?_
  have w1 := wrap_i64 (n := (r : Int)) (by omega) (by omega)
  have w2 := wrap_i64 (n := (m : Int)) (by omega) (by omega)
  simp (maxSteps := 1000000) (disch := first | exact dI | fail) only [F10o0, F10o1, F10o2, F10o3, F10o4, F10o5, F10o6, F10b7, F10o8, F10p8, F10o9, F10o10, F10o11, F10p11, F10o12, F10o13, F10o14, F10o15, F10o16, F10c, F10, er, ek, em, w1, w2, mk_row k (by omega), push_cast, ↓reduceIte, qa, qb, qc, qd, qe, qf, qg, qh, qi]
  refine vc_over ([]) (fun i : Nat => [(7, .pv (.int .i64 (i : Int)))]) (fun i => [(0, .cells 5 false ((bytesP (xs k i)).map AV.pv))]) (fun i => i ≤ k) (fun i => k - i) (0) ?_; intro e0 σ0 n0 h0; simp (maxSteps := 1000000) (disch := first | exact dI | fail) only [push_cast, ↓reduceIte, qa, qb, qc, qd, qe, qf, qg, qh, qi] at h0; obtain ⟨rfl, rfl, rfl⟩ := h0; refine ⟨?_, ?_, ?_⟩
  · simp (maxSteps := 1000000) (disch := first | exact dI | fail) only [push_cast, ↓reduceIte, qa, qb, qc, qd, qe, qf, qg, qh, qi]
  · omega
  intro i hi
  have hl := rowX_len hi
  by_cases hlt : i < k
  · have hst := rowX_store hlt
    simp (maxSteps := 1000000) (disch := first | exact dI | fail) only [hl, hst, push_cast, ↓reduceIte, qa, qb, qc, qd, qe, qf, qg, qh, qi]
    exact ⟨i + 1, hd_z (by simp (maxSteps := 1000000) (disch := first | exact dI | fail) only [hst, push_cast, ↓reduceIte, qa, qb, qc, qd, qe, qf, qg, qh, qi]), by omega, by omega⟩
  · have hik : i = k := by omega
    subst hik
    have hts := fun (σ : Store) h => rowX_str i σ 0 5 false h
    have ht0 := hts (fun r => if 0 = r then Blk.cells 5 false (List.map AV.pv (bytesP (xs i i))) else Blk.none) rfl
    have ht1 := hts (fun r => if 2 = r then Blk.tok 66 2 else if 0 = r then Blk.cells 5 false (List.map AV.pv (bytesP (xs i i))) else Blk.none) rfl
    by_cases hz : 65536 < i + 1 + m
    · rw [if_pos hz] at hJ hS
      simp only [resC, longC, List.map_cons, List.map_nil, celP, alph] at hJ hS hLl
      simp (maxSteps := 1000000) (disch := first | exact dI | fail) only [hl, ht0, em, w2, push_cast, ↓reduceIte, qa, qb, qc, qd, qe, qf, qg, qh, qi]
      refine ACall.pure hJ rfl ?_
      simp (maxSteps := 1000000) (disch := first | exact dI | fail) only [hl, ht1, em, w2, rElem_1, push_cast, ↓reduceIte, qa, qb, qc, qd, qe, qf, qg, qh, qi]
      refine callDL_pure hS rfl ?_
      simp (maxSteps := 1000000) (disch := first | exact dI | fail) only [push_cast, ↓reduceIte, qa, qb, qc, qd, qe, qf, qg, qh, qi]
      refine ACall.pure known_ok rfl ?_
      simp (maxSteps := 1000000) (disch := first | exact dI | fail) only [push_cast, ↓reduceIte, qa, qb, qc, qd, qe, qf, qg, qh, qi]
    · rw [if_neg hz] at hJ hS
      simp only [resC, longC, List.map_cons, List.map_nil, celP, alph] at hJ hS hLl
      simp (maxSteps := 1000000) (disch := first | exact dI | fail) only [hl, ht0, em, w2, push_cast, ↓reduceIte, qa, qb, qc, qd, qe, qf, qg, qh, qi]
      refine ACall.pure hJ rfl ?_
      simp (maxSteps := 1000000) (disch := first | exact dI | fail) only [hl, ht1, em, w2, rElem_1, push_cast, ↓reduceIte, qa, qb, qc, qd, qe, qf, qg, qh, qi]
      refine callDL_pure hS rfl ?_
      simp (maxSteps := 1000000) (disch := first | exact dI | fail) only [hLl, push_cast, ↓reduceIte, qa, qb, qc, qd, qe, qf, qg, qh, qi]
      refine ACall.pure known_ok rfl ?_
      simp (maxSteps := 1000000) (disch := first | exact dI | fail) only [hLl, push_cast, ↓reduceIte, qa, qb, qc, qd, qe, qf, qg, qh, qi]
theorem long_of (p0 p1 : PV) (h0 : HasT Tryz.prog 63 p0) (h1 : HasT Tryz.prog 5 p1) : Pure Tryz.prog tabG 10 [p0, p1] (.bool true) := by
  obtain ⟨n, rfl, hn⟩ := hasT_int h0 (k := .u16) (by kernel_rfl)
  obtain ⟨m, rfl, hm⟩ := hasT_int h1 (k := .u8) (by kernel_rfl)
  have h2 : 0 ≤ n ∧ n < 65536 := by
    have h : (decide (IntKind.u16.min ≤ n) && decide (n ≤ IntKind.u16.max)) = true := hn
    simp only [Bool.and_eq_true, decide_eq_true_eq] at h
    have e1 : IntKind.u16.min = 0 := by decide
    have e2 : IntKind.u16.max = 65535 := by decide
    omega
  have h3 : 0 ≤ m ∧ m < 256 := by
    have h : (decide (IntKind.u8.min ≤ m) && decide (m ≤ IntKind.u8.max)) = true := hm
    simp only [Bool.and_eq_true, decide_eq_true_eq] at h
    have e1 : IntKind.u8.min = 0 := by decide
    have e2 : IntKind.u8.max = 255 := by decide
    omega
  obtain ⟨a, rfl⟩ : ∃ a : Nat, n = a := ⟨n.toNat, by omega⟩
  obtain ⟨b, rfl⟩ : ∃ b : Nat, m = b := ⟨m.toNat, by omega⟩
  exact long_law a b (by omega) (by omega)
end Go.Proofs.YtbaaokocnegdoaaGreatDoor
