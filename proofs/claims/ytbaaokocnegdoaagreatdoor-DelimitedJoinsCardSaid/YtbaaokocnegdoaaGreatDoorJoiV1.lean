/- A part of the proof for DelimitedJoinsCardSaid. -/
import Derived.Test.YtbaaokocnegdoaaGreatDoorJoiVD
import Derived.Test.YtbaaokocnegdoaaGreatDoorCore5
set_option maxRecDepth 100000
set_option linter.unusedVariables false
set_option linter.unusedSimpArgs false
namespace Go.Proofs.YtbaaokocnegdoaaGreatDoor
open Go Go.Ab
open Nat renaming reduceEqDiff → qa, reduceAdd → qb, reduceMul → qc, reduceLeDiff → qd, reduceLT → qe, reduceBEq → qf, reduceSub → qg
open Int renaming reduceToNat → qh, reduceNeg → qi
attribute [local irreducible] vc
theorem index123 (s : List UInt8) (c : Int) : Pure Tryz.prog tabG 123 [.str s, .int .u8 c] (.int .i64 (fstB c.toNat.toUInt8 s 0)) := by
  generalize hq : fstB c.toNat.toUInt8 s 0 = q
  refine Pure.intro F123_ok (by simp [F123]) ?_
  simp (disch := first | exact dI | fail) only [F123o0, F123o1, F123c, F123, xRun_idxb, rIdxb_str, hq, push_cast, ↓reduceIte, qa, qb, qc, qd, qe, qf, qg, qh, qi]
theorem index73 (s : List UInt8) (c : Int) : Pure Tryz.prog tabG 73 [.str s, .int .u8 c] (.int .i64 (fstB c.toNat.toUInt8 s 0)) := by
  have h22 := index123 s c
  generalize fstB c.toNat.toUInt8 s 0 = q at *
  refine Pure.intro F73_ok (by simp [F73]) ?_
  simp (disch := first | exact dI | fail) only [F73o0, F73o1, F73c, F73, push_cast, ↓reduceIte, qa, qb, qc, qd, qe, qf, qg, qh, qi]
  refine ACall.pure h22 rfl ?_
  simp (disch := first | exact dI | fail) only [push_cast, ↓reduceIte, qa, qb, qc, qd, qe, qf, qg, qh, qi]
def seps : List UInt8 := [9, 44, 59, 124, 58, 94, 126, 35]
def isSep (n : Int) : Bool := decide (0 ≤ n) && (decide (n < 128) && decide (0 ≤ fstB n.toNat.toUInt8 seps 0))
def sepB (n : Int) : Bool := decide (n = 9) || decide (n = 44) || decide (n = 59) || decide (n = 124) || decide (n = 58) || decide (n = 94) || decide (n = 126) || decide (n = 35)
theorem sep_eq (n : Int) : isSep n = sepB n := by
  by_cases h : 0 ≤ n ∧ n < 128
  · obtain ⟨m, rfl⟩ : ∃ m : Nat, n = m := ⟨n.toNat, by omega⟩
    have key : ∀ k : Fin 128, isSep ((k.val : Nat) : Int) = sepB ((k.val : Nat) : Int) := by decide +kernel
    exact key ⟨m, by omega⟩
  · have h1 : isSep n = false := by
      unfold isSep
      by_cases h0 : 0 ≤ n
      · rw [show decide (n < 128) = false by simp; omega]; simp
      · rw [show decide (0 ≤ n) = false by simp; omega]; simp
    rw [h1]
    unfold sepB
    simp
    omega
theorem isSep47 (n : Int) : Pure Tryz.prog tabG 47 [.int .i64 n] (.bool (isSep n)) := by
  have h73 := index73 seps n
  refine Pure.intro F47_ok (by simp [F47]) ?_
  by_cases h0 : 0 ≤ n
  · by_cases h1 : n < 128
    · have e : isSep n = decide (0 ≤ fstB n.toNat.toUInt8 seps 0) := by unfold isSep; simp [h0, h1]
      rw [e]
      generalize fstB n.toNat.toUInt8 seps 0 = q at *
      have hw := wrap_u8 h0 (by omega : n ≤ 255)
      unfold seps at h73
      by_cases hq : 0 ≤ q
      · rw [show decide (0 ≤ q) = true by simpa using hq]
        simp (disch := first | exact dI | fail) only [F47o0, F47o1, F47c, F47, hw, push_cast, ↓reduceIte, qa, qb, qc, qd, qe, qf, qg, qh, qi]
        refine ACall.pure h73 rfl ?_
        simp (disch := first | exact dI | fail) only [push_cast, ↓reduceIte, qa, qb, qc, qd, qe, qf, qg, qh, qi]
      · rw [show decide (0 ≤ q) = false by simpa using hq]
        simp (disch := first | exact dI | fail) only [F47o0, F47o1, F47c, F47, hw, push_cast, ↓reduceIte, qa, qb, qc, qd, qe, qf, qg, qh, qi]
        refine ACall.pure h73 rfl ?_
        simp (disch := first | exact dI | fail) only [push_cast, ↓reduceIte, qa, qb, qc, qd, qe, qf, qg, qh, qi]
    · have e : isSep n = false := by unfold isSep; simp [h1]
      rw [e]
      simp (disch := first | exact dI | fail) only [F47o0, F47o1, F47c, F47, push_cast, ↓reduceIte, qa, qb, qc, qd, qe, qf, qg, qh, qi]
  · have e : isSep n = false := by unfold isSep; simp [h0]
    rw [e]
    simp (disch := first | exact dI | fail) only [F47o0, F47o1, F47c, F47, push_cast, ↓reduceIte, qa, qb, qc, qd, qe, qf, qg, qh, qi]
set_option maxHeartbeats 2000000 in
theorem sep50 (n : Int) : Pure Tryz.prog tabG 50 [.int .i64 n] (.bool (sepB n)) := by
  refine Pure.intro F50_ok (by simp [F50]) ?_
  by_cases h0 : n = 9
  · subst h0
    rw [show sepB 9 = true from rfl]
    simp (disch := first | exact dI | fail) only [F50o0, F50o1, F50c, F50, push_cast, ↓reduceIte, qa, qb, qc, qd, qe, qf, qg, qh, qi]
  by_cases h1 : n = 44
  · subst h1
    rw [show sepB 44 = true from rfl]
    simp (disch := first | exact dI | fail) only [F50o0, F50o1, F50c, F50, push_cast, ↓reduceIte, qa, qb, qc, qd, qe, qf, qg, qh, qi]
  by_cases h2 : n = 59
  · subst h2
    rw [show sepB 59 = true from rfl]
    simp (disch := first | exact dI | fail) only [F50o0, F50o1, F50c, F50, push_cast, ↓reduceIte, qa, qb, qc, qd, qe, qf, qg, qh, qi]
  by_cases h3 : n = 124
  · subst h3
    rw [show sepB 124 = true from rfl]
    simp (disch := first | exact dI | fail) only [F50o0, F50o1, F50c, F50, push_cast, ↓reduceIte, qa, qb, qc, qd, qe, qf, qg, qh, qi]
  by_cases h4 : n = 58
  · subst h4
    rw [show sepB 58 = true from rfl]
    simp (disch := first | exact dI | fail) only [F50o0, F50o1, F50c, F50, push_cast, ↓reduceIte, qa, qb, qc, qd, qe, qf, qg, qh, qi]
  by_cases h5 : n = 94
  · subst h5
    rw [show sepB 94 = true from rfl]
    simp (disch := first | exact dI | fail) only [F50o0, F50o1, F50c, F50, push_cast, ↓reduceIte, qa, qb, qc, qd, qe, qf, qg, qh, qi]
  by_cases h6 : n = 126
  · subst h6
    rw [show sepB 126 = true from rfl]
    simp (disch := first | exact dI | fail) only [F50o0, F50o1, F50c, F50, push_cast, ↓reduceIte, qa, qb, qc, qd, qe, qf, qg, qh, qi]
  by_cases h7 : n = 35
  · subst h7
    rw [show sepB 35 = true from rfl]
    simp (disch := first | exact dI | fail) only [F50o0, F50o1, F50c, F50, push_cast, ↓reduceIte, qa, qb, qc, qd, qe, qf, qg, qh, qi]
  have e : sepB n = false := by
    unfold sepB; simp [h0, h1, h2, h3, h4, h5, h6, h7]
  rw [e]
  simp (disch := first | exact dI | fail) only [F50o0, F50o1, F50c, F50, push_cast, ↓reduceIte, qa, qb, qc, qd, qe, qf, qg, qh, qi]
end Go.Proofs.YtbaaokocnegdoaaGreatDoor
