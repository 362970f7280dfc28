/- A part of the proof for DelimitedSeparatorsCardSaid. -/
import Derived.Test.YtkjopaaeeaacmaaGreatDoorSepZT3
import Derived.Test.YtkjopaaeeaacmaaGreatDoorCore5
set_option maxRecDepth 100000
set_option linter.unusedVariables false
set_option linter.unusedSimpArgs false
namespace Go.Proofs.YtkjopaaeeaacmaaGreatDoor
open Go Go.Ab
open Nat renaming reduceEqDiff → qa, reduceAdd → qb, reduceMul → qc, reduceLeDiff → qd, reduceLT → qe, reduceBEq → qf, reduceSub → qg
open Int renaming reduceToNat → qh, reduceNeg → qi
attribute [local irreducible] vc
theorem dI {P : Prop} (h : P := by first | exact chk_rfl | (unfold Chk; decide +kernel) | omega | exact chk_of (by with_unfolding_all rfl) | fail) : P := h
theorem xRun_idxb (e : List (Nat × AV)) (σ : List (Nat × Blk)) (new : Nat) (x y : AX) : xRun e σ new (.idxb x y) = withD [] (rIdxb (evE e x) (evE e y)) := by
  simp only [xRun, withD]; cases rIdxb (evE e x) (evE e y) <;> rfl
theorem rIdxb_str (s : List UInt8) (c : Int) : rIdxb (.pv (.str s)) (.pv (.int .u8 c)) = some (.pv (.int .i64 (fstB c.toNat.toUInt8 s 0))) := rfl
theorem index22 (s : List UInt8) (c : Int) : Pure Tryz.prog tabG 22 [.str s, .int .u8 c] (.int .i64 (fstB c.toNat.toUInt8 s 0)) := by
  generalize hq : fstB c.toNat.toUInt8 s 0 = q
  refine Pure.intro F22_ok (by simp [F22]) ?_
  simp (disch := first | exact dI | fail) only [F22o0, F22o1, F22c, F22, xRun_idxb, rIdxb_str, hq, push_cast, ↓reduceIte, qa, qb, qc, qd, qe, qf, qg, qh, qi]
theorem index11 (s : List UInt8) (c : Int) : Pure Tryz.prog tabG 11 [.str s, .int .u8 c] (.int .i64 (fstB c.toNat.toUInt8 s 0)) := by
  have h22 := index22 s c
  generalize fstB c.toNat.toUInt8 s 0 = q at *
  refine Pure.intro F11_ok (by simp [F11]) ?_
  simp (disch := first | exact dI | fail) only [F11o0, F11o1, F11c, F11, push_cast, ↓reduceIte, qa, qb, qc, qd, qe, qf, qg, qh, qi]
  refine ACall.pure h22 rfl ?_
  simp (disch := first | exact dI | fail) only [push_cast, ↓reduceIte, qa, qb, qc, qd, qe, qf, qg, qh, qi]
def seps : List UInt8 := [9, 44, 59, 124, 58, 94, 126, 35]
def isSep (n : Int) : Bool := decide (0 ≤ n) && (decide (n < 128) && decide (0 ≤ fstB n.toNat.toUInt8 seps 0))
def sepB (n : Int) : Bool := decide (n = 9) || decide (n = 44) || decide (n = 59) || decide (n = 124) || decide (n = 58) || decide (n = 94) || decide (n = 126) || decide (n = 35)
theorem sep_eq (n : Int) : isSep n = sepB n := by
  by_cases h : 0 ≤ n ∧ n < 128
  · obtain ⟨m, rfl⟩ : ∃ m : Nat, n = m := ⟨n.toNat, by omega⟩
    have key : ∀ k : Fin 128, isSep ((k.val : Nat) : Int) = sepB ((k.val : Nat) : Int) := by decide +kernel
    exact key ⟨m, by omega⟩
  · have h1 : isSep n = false := by
      unfold isSep
      by_cases h0 : 0 ≤ n
      · rw [show decide (n < 128) = false by simp; omega]; simp
      · rw [show decide (0 ≤ n) = false by simp; omega]; simp
    rw [h1]
    unfold sepB
    simp
    omega
theorem isSep5 (n : Int) : Pure Tryz.prog tabG 5 [.int .i64 n] (.bool (isSep n)) := by
  have h11 := index11 seps n
  refine Pure.intro F5_ok (by simp [F5]) ?_
  by_cases h0 : 0 ≤ n
  · by_cases h1 : n < 128
    · have e : isSep n = decide (0 ≤ fstB n.toNat.toUInt8 seps 0) := by unfold isSep; simp [h0, h1]
      rw [e]
      generalize fstB n.toNat.toUInt8 seps 0 = q at *
      have hw := wrap_u8 h0 (by omega : n ≤ 255)
      unfold seps at h11
      by_cases hq : 0 ≤ q
      · rw [show decide (0 ≤ q) = true by simpa using hq]
        simp (disch := first | exact dI | fail) only [F5o0, F5o1, F5c, F5, hw, push_cast, ↓reduceIte, qa, qb, qc, qd, qe, qf, qg, qh, qi]
        refine ACall.pure h11 rfl ?_
        simp (disch := first | exact dI | fail) only [push_cast, ↓reduceIte, qa, qb, qc, qd, qe, qf, qg, qh, qi]
      · rw [show decide (0 ≤ q) = false by simpa using hq]
        simp (disch := first | exact dI | fail) only [F5o0, F5o1, F5c, F5, hw, push_cast, ↓reduceIte, qa, qb, qc, qd, qe, qf, qg, qh, qi]
        refine ACall.pure h11 rfl ?_
        simp (disch := first | exact dI | fail) only [push_cast, ↓reduceIte, qa, qb, qc, qd, qe, qf, qg, qh, qi]
    · have e : isSep n = false := by unfold isSep; simp [h1]
      rw [e]
      simp (disch := first | exact dI | fail) only [F5o0, F5o1, F5c, F5, push_cast, ↓reduceIte, qa, qb, qc, qd, qe, qf, qg, qh, qi]
  · have e : isSep n = false := by unfold isSep; simp [h0]
    rw [e]
    simp (disch := first | exact dI | fail) only [F5o0, F5o1, F5c, F5, push_cast, ↓reduceIte, qa, qb, qc, qd, qe, qf, qg, qh, qi]
set_option maxHeartbeats 2000000 in
theorem sep6 (n : Int) : Pure Tryz.prog tabG 6 [.int .i64 n] (.bool (sepB n)) := by
  refine Pure.intro F6_ok (by simp [F6]) ?_
  by_cases h0 : n = 9
  · subst h0
    rw [show sepB 9 = true from rfl]
    simp (disch := first | exact dI | fail) only [F6o0, F6o1, F6c, F6, push_cast, ↓reduceIte, qa, qb, qc, qd, qe, qf, qg, qh, qi]
  by_cases h1 : n = 44
  · subst h1
    rw [show sepB 44 = true from rfl]
    simp (disch := first | exact dI | fail) only [F6o0, F6o1, F6c, F6, push_cast, ↓reduceIte, qa, qb, qc, qd, qe, qf, qg, qh, qi]
  by_cases h2 : n = 59
  · subst h2
    rw [show sepB 59 = true from rfl]
    simp (disch := first | exact dI | fail) only [F6o0, F6o1, F6c, F6, push_cast, ↓reduceIte, qa, qb, qc, qd, qe, qf, qg, qh, qi]
  by_cases h3 : n = 124
  · subst h3
    rw [show sepB 124 = true from rfl]
    simp (disch := first | exact dI | fail) only [F6o0, F6o1, F6c, F6, push_cast, ↓reduceIte, qa, qb, qc, qd, qe, qf, qg, qh, qi]
  by_cases h4 : n = 58
  · subst h4
    rw [show sepB 58 = true from rfl]
    simp (disch := first | exact dI | fail) only [F6o0, F6o1, F6c, F6, push_cast, ↓reduceIte, qa, qb, qc, qd, qe, qf, qg, qh, qi]
  by_cases h5 : n = 94
  · subst h5
    rw [show sepB 94 = true from rfl]
    simp (disch := first | exact dI | fail) only [F6o0, F6o1, F6c, F6, push_cast, ↓reduceIte, qa, qb, qc, qd, qe, qf, qg, qh, qi]
  by_cases h6 : n = 126
  · subst h6
    rw [show sepB 126 = true from rfl]
    simp (disch := first | exact dI | fail) only [F6o0, F6o1, F6c, F6, push_cast, ↓reduceIte, qa, qb, qc, qd, qe, qf, qg, qh, qi]
  by_cases h7 : n = 35
  · subst h7
    rw [show sepB 35 = true from rfl]
    simp (disch := first | exact dI | fail) only [F6o0, F6o1, F6c, F6, push_cast, ↓reduceIte, qa, qb, qc, qd, qe, qf, qg, qh, qi]
  have e : sepB n = false := by
    unfold sepB; simp [h0, h1, h2, h3, h4, h5, h6, h7]
  rw [e]
  simp (disch := first | exact dI | fail) only [F6o0, F6o1, F6c, F6, push_cast, ↓reduceIte, qa, qb, qc, qd, qe, qf, qg, qh, qi]
theorem separators_law (n : Int) : Pure Tryz.prog tabG 3 [.int .i64 n] (.bool true) := by
  have h5 := isSep5 n
  have h6 := sep6 n
  rw [sep_eq] at h5
  generalize sepB n = b at *
  refine Pure.intro F3_ok (by simp [F3]) ?_
  cases b with
  | true =>
    simp (disch := first | exact dI | fail) only [F3o0, F3o1, F3c, F3, push_cast, ↓reduceIte, qa, qb, qc, qd, qe, qf, qg, qh, qi]
    refine ACall.pure known_ok rfl ?_
    simp (disch := first | exact dI | fail) only [push_cast, ↓reduceIte, qa, qb, qc, qd, qe, qf, qg, qh, qi]
    refine ACall.pure h5 rfl ?_
    simp (disch := first | exact dI | fail) only [push_cast, ↓reduceIte, qa, qb, qc, qd, qe, qf, qg, qh, qi]
    refine ACall.pure h6 rfl ?_
    simp (disch := first | exact dI | fail) only [push_cast, ↓reduceIte, qa, qb, qc, qd, qe, qf, qg, qh, qi]
    rfl
  | false =>
    simp (disch := first | exact dI | fail) only [F3o0, F3o1, F3c, F3, push_cast, ↓reduceIte, qa, qb, qc, qd, qe, qf, qg, qh, qi]
    refine ACall.pure known_ok rfl ?_
    simp (disch := first | exact dI | fail) only [push_cast, ↓reduceIte, qa, qb, qc, qd, qe, qf, qg, qh, qi]
    refine ACall.pure h5 rfl ?_
    simp (disch := first | exact dI | fail) only [push_cast, ↓reduceIte, qa, qb, qc, qd, qe, qf, qg, qh, qi]
    refine ACall.pure h6 rfl ?_
    simp (disch := first | exact dI | fail) only [push_cast, ↓reduceIte, qa, qb, qc, qd, qe, qf, qg, qh, qi]
    rfl
theorem hasT_int {t : TypeId} {p : PV} {k : IntKind} (h : HasT Tryz.prog t p) (hu : Tryz.prog.underlying t = some (.int k)) : ∃ n : Int, p = .int k n ∧ (Lit.int k n).wf = true := by
  cases h with
  | int _ k' n hk hw => rw [hu] at hk; cases hk; exact ⟨n, rfl, hw⟩
  | bool _ b hb => rw [hu] at hb; cases hb
  | str _ s hb => rw [hu] at hb; cases hb
  | list _ e l hb => rw [hu] at hb; cases hb
  | agg _ fs cs hb => rw [hu] at hb; cases hb
  | arr _ e n cs hb => rw [hu] at hb; cases hb
theorem separators_of (p0 : PV) (h0 : HasT Tryz.prog 3 p0) : Pure Tryz.prog tabG 3 [p0] (.bool true) := by
  obtain ⟨n, rfl, hn⟩ := hasT_int h0 (k := .i64) (by kernel_rfl)
  exact separators_law n
end Go.Proofs.YtkjopaaeeaacmaaGreatDoor
