/- A part of the proof for DelimitedValuesCardSaid. -/
import Derived.Test.YtbaaokocnegdoaaGreatDoorValVT3
import Derived.Test.YtbaaokocnegdoaaGreatDoorCore5
import Derived.Test.YtbaaokocnegdoaaGreatDoorCore6
import Derived.Test.YtbaaokocnegdoaaGreatDoorValVC1
set_option maxRecDepth 100000
set_option linter.unusedVariables false
set_option linter.unusedSimpArgs false
namespace Go.Proofs.YtbaaokocnegdoaaGreatDoor
open Go Go.Ab
attribute [local irreducible] vc
theorem dI {P : Prop} (h : P := by first | exact chk_rfl | (unfold Chk; decide +kernel) | omega | exact chk_of (by with_unfolding_all rfl) | (simp [cells_agg] <;> omega) | fail) : P := h
end Go.Proofs.YtbaaokocnegdoaaGreatDoor
set_option maxRecDepth 100000
set_option linter.unusedVariables false
set_option linter.unusedSimpArgs false
-- many steps
namespace Go.Proofs.YtbaaokocnegdoaaGreatDoor
open Go Go.Ab
attribute [local irreducible] vc
theorem in125 (n lo hi : Int) : Pure Tryz.prog tabG 125 [.int .i64 n, .int .i64 lo, .int .i64 hi] (.bool (decide (lo ≤ n) && decide (n ≤ hi))) := by
 refine Pure.intro F125_ok (by simp [F125]) ?_
 by_cases h1 : lo ≤ n
 ·by_cases h2 : n ≤ hi
  ·rw [show (decide (lo ≤ n) && decide (n ≤ hi)) = true by simp [h1, h2]]
   simp (maxSteps:=9^7) (disch:=first|exact dI|fail) only [F125, push_cast, seval]
  ·rw [show (decide (lo ≤ n) && decide (n ≤ hi)) = false by simp [h2]]
   simp (maxSteps:=9^7) (disch:=first|exact dI|fail) only [F125, push_cast, seval]
 ·rw [show (decide (lo ≤ n) && decide (n ≤ hi)) = false by simp [h1]]
  simp (maxSteps:=9^7) (disch:=first|exact dI|fail) only [F125, push_cast, seval]
theorem in125_t {n lo hi : Int} (h : lo ≤ n ∧ n ≤ hi) : Pure Tryz.prog tabG 125 [.int .i64 n, .int .i64 lo, .int .i64 hi] (.bool true) := by
 have := in125 n lo hi
 rwa [show (decide (lo ≤ n) && decide (n ≤ hi)) = true by simp [h]] at this
theorem in125_f {n lo hi : Int} (h : ¬ (lo ≤ n ∧ n ≤ hi)) : Pure Tryz.prog tabG 125 [.int .i64 n, .int .i64 lo, .int .i64 hi] (.bool false) := by
 have := in125 n lo hi
 rwa [show (decide (lo ≤ n) && decide (n ≤ hi)) = false by rw [← Bool.decide_and]; exact decide_eq_false h] at this
theorem leap176 {y : Int} (h1 : 1 ≤ y) (h2 : y ≤ 9999) : Pure Tryz.prog tabG 176 [.int .i64 y] (.bool (leapB y)) := by
 have hi := in125_t (n := y) (lo := 1) (hi := 9999) ⟨h1, h2⟩
 have e4 := tmod_n (a := y) (b := 4) (by omega)
 have e100 := tmod_n (a := y) (b := 100) (by omega)
 have e400 := tmod_n (a := y) (b := 400) (by omega)
 refine Pure.intro F176_ok (by simp [F176]) ?_
 unfold leapB
 by_cases a : y % 4 = 0
 ·by_cases b : y % 100 = 0
  ·by_cases c : y % 400 = 0
   ·simp only [a, b, c, decide_true, Bool.not_true, Bool.or_true, Bool.and_true]
    simp (maxSteps:=9^7) (disch:=first|exact dI|fail) only [F176, e4, e100, e400, push_cast, seval]
    refine ACall.pure hi rfl ?_
    simp (maxSteps:=9^7) (disch:=first|exact dI|fail) only [e4, e100, e400, a, b, c, push_cast, seval]
   ·simp only [a, b, c, decide_true, decide_false, Bool.not_true, Bool.or_false, Bool.and_false]
    simp (maxSteps:=9^7) (disch:=first|exact dI|fail) only [F176, e4, e100, e400, push_cast, seval]
    refine ACall.pure hi rfl ?_
    simp (maxSteps:=9^7) (disch:=first|exact dI|fail) only [e4, e100, e400, a, b, c, push_cast, seval]
  ·simp only [a, b, decide_true, decide_false, Bool.not_false, Bool.true_or, Bool.and_true]
   simp (maxSteps:=9^7) (disch:=first|exact dI|fail) only [F176, e4, e100, e400, push_cast, seval]
   refine ACall.pure hi rfl ?_
   simp (maxSteps:=9^7) (disch:=first|exact dI|fail) only [e4, e100, e400, a, b, push_cast, seval]
 ·simp only [a, decide_false, Bool.false_and]
  simp (maxSteps:=9^7) (disch:=first|exact dI|fail) only [F176, e4, e100, e400, push_cast, seval]
  refine ACall.pure hi rfl ?_
  simp (maxSteps:=9^7) (disch:=first|exact dI|fail) only [e4, e100, e400, a, push_cast, seval]
theorem bef126 {y : Int} (h1 : 1 ≤ y) (h2 : y ≤ 100000) : Pure Tryz.prog tabG 126 [.int .i64 y] (.int .i64 (befI y)) := by
 have e4 := tdiv_n (a := y - 1) (b := 4) (by omega)
 have e100 := tdiv_n (a := y - 1) (b := 100) (by omega)
 have e400 := tdiv_n (a := y - 1) (b := 400) (by omega)
 refine Pure.intro F126_ok (by simp [F126]) ?_
 simp (maxSteps:=9^7) (disch:=first|exact dI|fail) only [F126, befI, e4, e100, e400, push_cast, seval]
end Go.Proofs.YtbaaokocnegdoaaGreatDoor
set_option maxRecDepth 100000
set_option linter.unusedVariables false
set_option linter.unusedSimpArgs false
-- many steps
namespace Go.Proofs.YtbaaokocnegdoaaGreatDoor
open Go Go.Ab
open Nat renaming reduceEqDiff → qa, reduceAdd → qb, reduceMul → qc, reduceLeDiff → qd, reduceLT → qe, reduceBEq → qf, reduceSub → qg
open Int renaming reduceToNat → qh, reduceNeg → qi
attribute [local irreducible] vc
def tabI (m : Nat) : Int := if m = 2 then 28 else if m = 4 ∨ m = 6 ∨ m = 9 ∨ m = 11 then 30 else 31
theorem md_tab (y : Int) (m : Nat) (h : ¬ (m = 2 ∧ leapB y = true)) : mdI y m = tabI m := by
 unfold mdI tabI
 by_cases h2 : m = 2
 ·subst h2
  have : ¬ leapB y = true := fun hl => h ⟨rfl, hl⟩
  simp [this]
 ·have : ¬ (m : Int) = 2 := by omega
  rw [if_neg this, if_neg h2]
  by_cases h4 : m = 4 ∨ m = 6 ∨ m = 9 ∨ m = 11
  ·rw [if_pos h4, if_pos (by omega)]
  ·rw [if_neg h4, if_neg (by omega)]
theorem idx12 (m : Nat) (h1 : 1 ≤ m) (h2 : m ≤ 12) : rIndexA false 12 1 (.pv (.agg [.int .i64 31, .int .i64 28, .int .i64 31, .int .i64 30, .int .i64 31, .int .i64 30, .int .i64 31, .int .i64 31, .int .i64 30, .int .i64 31, .int .i64 30, .int .i64 31])) (.pv (.int .i64 ((m : Int) - 1))) = some (.pv (.int .i64 (tabI m))) := by
 have h12 : m = 1 ∨ m = 2 ∨ m = 3 ∨ m = 4 ∨ m = 5 ∨ m = 6 ∨ m = 7 ∨ m = 8 ∨ m = 9 ∨ m = 10 ∨ m = 11 ∨ m = 12 := by omega
 rcases h12 with rfl | rfl | rfl | rfl | rfl | rfl | rfl | rfl | rfl | rfl | rfl | rfl <;> rfl
theorem md127 {y : Int} (h1 : 1 ≤ y) (h2 : y ≤ 9999) (m : Nat) (h3 : 1 ≤ m) (h4 : m ≤ 12) : Pure Tryz.prog tabG 127 [.int .i64 y, .int .i64 (m : Int)] (.int .i64 (mdI y m)) := by
 have hl := leap176 h1 h2
 have hx := idx12 m h3 h4
 refine Pure.intro F127_ok (by simp [F127]) ?_
 by_cases h : m = 2
 ·subst h
  cases hb : leapB y with
  | true =>
    rw [hb] at hl
    rw [show mdI y ((2 : Nat) : Int) = 29 by simp [mdI, hb]]
    simp (maxSteps:=9^7) (disch:=first|exact dI|fail) only [F127, push_cast, ↓reduceIte, qa, qb, qc, qd, qe, qf, qg, qh, qi]
    refine ACall.pure hl rfl ?_
    simp (maxSteps:=9^7) (disch:=first|exact dI|fail) only [push_cast, ↓reduceIte, qa, qb, qc, qd, qe, qf, qg, qh, qi]
  | false =>
    rw [hb] at hl
    rw [md_tab y 2 (by simp [hb])]
    have hx2 : rIndexA false 12 1 (.pv (.agg [.int .i64 31, .int .i64 28, .int .i64 31, .int .i64 30, .int .i64 31, .int .i64 30, .int .i64 31, .int .i64 31, .int .i64 30, .int .i64 31, .int .i64 30, .int .i64 31])) (.pv (.int .i64 (2 - 1))) = some (.pv (.int .i64 28)) := rfl
    rw [show tabI 2 = 28 from rfl]
    simp (maxSteps:=9^7) (disch:=first|exact dI|fail) only [F127, push_cast, ↓reduceIte, qa, qb, qc, qd, qe, qf, qg, qh, qi]
    refine ACall.pure hl rfl ?_
    simp (maxSteps:=9^7) (disch:=first|exact dI|fail) only [hx2, push_cast, ↓reduceIte, qa, qb, qc, qd, qe, qf, qg, qh, qi]
 ·rw [md_tab y m (by simp [h])]
  simp (maxSteps:=9^7) (disch:=first|exact dI|fail) only [F127, hx, push_cast, ↓reduceIte, qa, qb, qc, qd, qe, qf, qg, qh, qi]
theorem monthDays_t {y : Int} (h1 : 1 ≤ y) (h2 : y ≤ 9999) (m : Nat) (h3 : 1 ≤ m) (h4 : m ≤ 12) : Pure Tryz.prog tabG 124 [.int .i64 y, .int .i64 (m : Int)] (.tup [.int .i64 (mdI y m), .int .i64 0]) := by
 have hi1 := in125_t (n := y) (lo := 1) (hi := 9999) ⟨h1, h2⟩
 have hi2 := in125_t (n := (m : Int)) (lo := 1) (hi := 12) ⟨by omega, by omega⟩
 have hm := md127 h1 h2 m h3 h4
 refine Pure.intro F124_ok (by simp [F124]) ?_
 simp (maxSteps:=9^7) (disch:=first|exact dI|fail) only [F124, push_cast, ↓reduceIte, qa, qb, qc, qd, qe, qf, qg, qh, qi]
 refine ACall.pure hi1 rfl ?_
 simp (maxSteps:=9^7) (disch:=first|exact dI|fail) only [push_cast, ↓reduceIte, qa, qb, qc, qd, qe, qf, qg, qh, qi]
 refine ACall.pure hi2 rfl ?_
 simp (maxSteps:=9^7) (disch:=first|exact dI|fail) only [push_cast, ↓reduceIte, qa, qb, qc, qd, qe, qf, qg, qh, qi]
 refine ACall.pure hm rfl ?_
 simp (maxSteps:=9^7) (disch:=first|exact dI|fail) only [push_cast, ↓reduceIte, qa, qb, qc, qd, qe, qf, qg, qh, qi]
theorem monthDays_f {y m : Int} (h : ¬ (1 ≤ y ∧ y ≤ 9999 ∧ 1 ≤ m ∧ m ≤ 12)) : Pure Tryz.prog tabG 124 [.int .i64 y, .int .i64 m] (.tup [.int .i64 0, .int .i64 17]) := by
 refine Pure.intro F124_ok (by simp [F124]) ?_
 by_cases hy : 1 ≤ y ∧ y ≤ 9999
 ·have hi1 := in125_t (n := y) (lo := 1) (hi := 9999) hy
  have hi2 := in125_f (n := m) (lo := 1) (hi := 12) (by omega)
  simp (maxSteps:=9^7) (disch:=first|exact dI|fail) only [F124, push_cast, ↓reduceIte, qa, qb, qc, qd, qe, qf, qg, qh, qi]
  refine ACall.pure hi1 rfl ?_
  simp (maxSteps:=9^7) (disch:=first|exact dI|fail) only [push_cast, ↓reduceIte, qa, qb, qc, qd, qe, qf, qg, qh, qi]
  refine ACall.pure hi2 rfl ?_
  simp (maxSteps:=9^7) (disch:=first|exact dI|fail) only [push_cast, ↓reduceIte, qa, qb, qc, qd, qe, qf, qg, qh, qi]
 ·have hi1 := in125_f (n := y) (lo := 1) (hi := 9999) hy
  simp (maxSteps:=9^7) (disch:=first|exact dI|fail) only [F124, push_cast, ↓reduceIte, qa, qb, qc, qd, qe, qf, qg, qh, qi]
  refine ACall.pure hi1 rfl ?_
  simp (maxSteps:=9^7) (disch:=first|exact dI|fail) only [push_cast, ↓reduceIte, qa, qb, qc, qd, qe, qf, qg, qh, qi]
theorem days_t {y : Int} {m : Nat} {d : Int} (h : DateOk y m d) : Pure Tryz.prog tabG 75 [.int .i64 y, .int .i64 (m : Int), .int .i64 d] (.tup [.int .i64 (dayN y m d - 719162), .int .i64 0]) := by
 have hm := monthDays_t h.y1 h.y2 m h.m1 h.m2
 have hi := in125_t (n := d) (lo := 1) (hi := mdI y m) ⟨h.d1, h.d2⟩
 have hb := bef126 h.y1 (by have := h.y2; omega)
 have hbb := bef_bound h.y1 (by have := h.y2; omega)
 have hmd := mdI_bound y m
 have hd1 := h.d1
 have hd2 := h.d2
 have hdr := day_range h
 have hdn : dayN y m d = befI y + sumM y (m - 1) + d - 1 := rfl
 refine Pure.intro F75_ok (by simp [F75]) ?_
 simp (maxSteps:=9^7) (disch:=first|exact dI|fail) only [F75, push_cast, ↓reduceIte, qa, qb, qc, qd, qe, qf, qg, qh, qi]
 refine ACall.pure hm rfl ?_
 simp (maxSteps:=9^7) (disch:=first|exact dI|fail) only [push_cast, ↓reduceIte, qa, qb, qc, qd, qe, qf, qg, qh, qi]
 refine ACall.pure hi rfl ?_
 simp (maxSteps:=9^7) (disch:=first|exact dI|fail) only [push_cast, ↓reduceIte, qa, qb, qc, qd, qe, qf, qg, qh, qi]
 refine ACall.pure hb rfl ?_
 simp (maxSteps:=9^7) (disch:=first|exact dI|fail) only [push_cast, ↓reduceIte, qa, qb, qc, qd, qe, qf, qg, qh, qi]
 have e0 : ((0 : Nat) : Int) + 1 = 1 := rfl
 have e1 : -719162 + befI y + d - 1 + sumM y 0 = -719162 + befI y + d - 1 := by
  have z : sumM y 0 = 0 := rfl
  omega
 refine vc_over ([]) (fun k : Nat => [(10, .pv (.int .i64 (-719162 + befI y + d - 1 + sumM y k))), (11, .pv (.int .i64 ((k : Int) + 1)))]) (fun _ => []) (fun k => k ≤ m - 1) (fun k => m - 1 - k) (0) ?_; intro e0 σ0 n0 h0; simp (maxSteps:=9^7) (disch:=first|exact dI|fail) only [push_cast, ↓reduceIte, qa, qb, qc, qd, qe, qf, qg, qh, qi] at h0; obtain ⟨rfl, rfl, rfl⟩ := h0; refine ⟨?_, ?_, ?_⟩
 ·simp (maxSteps:=9^7) (disch:=first|exact dI|fail) only [e1, Int.zero_add, push_cast, ↓reduceIte, qa, qb, qc, qd, qe, qf, qg, qh, qi]
 ·omega
 intro k hk
 have hs0 := sum_mono y k 0
 have z : sumM y 0 = 0 := rfl
 simp only [Nat.zero_add] at hs0
 have hsm := sum_mono y (m - 1 - k) k
 rw [show k + (m - 1 - k) = m - 1 by omega] at hsm
 by_cases hlt : k < m - 1
 ·have hmk := md127 h.y1 h.y2 (k + 1) (by omega) (by have := h.m2; omega)
  have hmdk := mdI_bound y ((k + 1 : Nat) : Int)
  have hsk : sumM y (k + 1) = sumM y k + mdI y ((k + 1 : Nat) : Int) := rfl
  rw [show ((k + 1 : Nat) : Int) = (k : Int) + 1 by omega] at hmk hmdk hsk
  have hs2 : -719162 + befI y + d - 1 + sumM y (k + 1) = -719162 + befI y + d - 1 + sumM y k + mdI y ((k : Int) + 1) := by omega
  simp (maxSteps:=9^7) (disch:=first|exact dI|fail) only [push_cast, ↓reduceIte, qa, qb, qc, qd, qe, qf, qg, qh, qi]
  refine ACall.pure hmk rfl ?_
  simp (maxSteps:=9^7) (disch:=first|exact dI|fail) only [push_cast, ↓reduceIte, qa, qb, qc, qd, qe, qf, qg, qh, qi]
  exact ⟨k + 1, hd_z (by simp (maxSteps:=9^7) (disch:=first|exact dI|fail) only [hs2, push_cast, ↓reduceIte, qa, qb, qc, qd, qe, qf, qg, qh, qi]), by omega, by omega⟩
 ·have : k = m - 1 := by omega
  subst this
  have hfin : -719162 + befI y + d - 1 + sumM y (m - 1) = dayN y m d - 719162 := by omega
  simp (maxSteps:=9^7) (disch:=first|exact dI|fail) only [hfin, push_cast, ↓reduceIte, qa, qb, qc, qd, qe, qf, qg, qh, qi]
theorem days_f {y m d : Int} (h : ∀ k : Nat, m = k → ¬ DateOk y k d) : Pure Tryz.prog tabG 75 [.int .i64 y, .int .i64 m, .int .i64 d] (.tup [.int .i64 0, .int .i64 17]) := by
 refine Pure.intro F75_ok (by simp [F75]) ?_
 by_cases hm : 1 ≤ y ∧ y ≤ 9999 ∧ 1 ≤ m ∧ m ≤ 12
 ·obtain ⟨k, rfl⟩ : ∃ k : Nat, m = k := ⟨m.toNat, by omega⟩
  have hmt := monthDays_t hm.1 hm.2.1 k (by omega) (by omega)
  have hi := in125_f (n := d) (lo := 1) (hi := mdI y k) (fun hd => h k rfl ⟨hm.1, hm.2.1, by omega, by omega, hd.1, hd.2⟩)
  simp (maxSteps:=9^7) (disch:=first|exact dI|fail) only [F75, push_cast, ↓reduceIte, qa, qb, qc, qd, qe, qf, qg, qh, qi]
  refine ACall.pure hmt rfl ?_
  simp (maxSteps:=9^7) (disch:=first|exact dI|fail) only [push_cast, ↓reduceIte, qa, qb, qc, qd, qe, qf, qg, qh, qi]
  refine ACall.pure hi rfl ?_
  simp (maxSteps:=9^7) (disch:=first|exact dI|fail) only [push_cast, ↓reduceIte, qa, qb, qc, qd, qe, qf, qg, qh, qi]
 ·have hmf := monthDays_f hm
  simp (maxSteps:=9^7) (disch:=first|exact dI|fail) only [F75, push_cast, ↓reduceIte, qa, qb, qc, qd, qe, qf, qg, qh, qi]
  refine ACall.pure hmf rfl ?_
  simp (maxSteps:=9^7) (disch:=first|exact dI|fail) only [push_cast, ↓reduceIte, qa, qb, qc, qd, qe, qf, qg, qh, qi]
end Go.Proofs.YtbaaokocnegdoaaGreatDoor
set_option maxRecDepth 100000
set_option linter.unusedVariables false
set_option linter.unusedSimpArgs false
-- many steps
namespace Go.Proofs.YtbaaokocnegdoaaGreatDoor
open Go Go.Ab
attribute [local irreducible] vc
theorem civil91 {y : Int} {m : Nat} {d : Int} (h : DateOk y m d) : Pure Tryz.prog tabG 91 [.int .i64 (dayN y m d - 719162)] (.tup [.int .i64 y, .int .i64 (m : Int), .int .i64 d, .int .i64 0]) := by
 have hdr := day_range h
 have hdb := day_bound h
 have hy1 := h.y1
 have hy2 := h.y2
 have hm1 := h.m1
 have hm2 := h.m2
 have hd1 := h.d1
 have hd2 := h.d2
 have hdn : dayN y m d = befI y + sumM y (m - 1) + d - 1 := rfl
 obtain ⟨n, hn⟩ : ∃ n, n = dayN y m d := ⟨_, rfl⟩
 rw [← hn] at hdr hdb hdn ⊢
 have hin := in125_t (n := n - 719162) (lo := -719162) (hi := 2932896) ⟨by omega, by omega⟩
 have hq := tdiv_n (a := n) (b := 365) (by omega)
 have hs0 := sum_mono y (m - 1) 0
 have z : sumM y 0 = 0 := rfl
 simp only [Nat.zero_add] at hs0
 have hbb := bef_bound hy1 (by omega)
 have hb365 : 365 * (y - 1) ≤ befI y := by unfold befI; omega
 have e1 : n - 719162 - -719162 = n := by omega
 refine Pure.intro F91_ok (by simp [F91]) ?_
 simp (maxSteps:=9^7) (disch:=first|exact dI|fail) only [F91, push_cast, seval]
 refine ACall.pure hin rfl ?_
 have hmin : y ≤ n / 365 + 1 := by omega
 have hloop : ∀ Y : Int, y ≤ Y → Y ≤ 9999 → (n < befI Y ↔ y < Y) := by
  intro Y h1 h2
  constructor
  ·intro h3
   by_cases e : Y = y
   ·subst e; omega
   ·omega
  ·intro h3
   have := bef_lt h3
   omega
 simp (maxSteps:=9^7) (disch:=first|exact dI|fail) only [e1, hq, push_cast, seval]
 refine vc_over ([]) (fun Y : Int => [(2, .pv (.int .i64 Y))]) (fun _ => []) (fun Y => y ≤ Y ∧ Y ≤ 9999) (fun Y => (Y - y).toNat) (min (n / 365 + 1) 9999) ?_; intro e0 σ0 n0 h0; simp (maxSteps:=9^7) (disch:=first|exact dI|fail) only [push_cast, seval] at h0; obtain ⟨rfl, rfl, rfl⟩ := h0; refine ⟨?_, ?_, ?_⟩
 ·simp (maxSteps:=9^7) (disch:=first|exact dI|fail) only [push_cast, seval]
 ·exact ⟨by omega, by omega⟩
 rintro Y ⟨g1, g2⟩
 have hbY := bef126 (y := Y) (by omega) (by omega)
 by_cases hY : y < Y
 ·have hgt := (hloop Y g1 g2).2 hY
  simp (maxSteps:=9^7) (disch:=first|exact dI|fail) only [push_cast, seval]
  refine ACall.pure hbY rfl ?_
  simp (maxSteps:=9^7) (disch:=first|exact dI|fail) only [push_cast, seval]
  exact ⟨Y - 1, hd_z (by simp (maxSteps:=9^7) (disch:=first|exact dI|fail) only [push_cast, seval]), ⟨by omega, by omega⟩, by omega⟩
 ·have : Y = y := by omega
  subst this
  simp (maxSteps:=9^7) (disch:=first|exact dI|fail) only [push_cast, seval]
  refine ACall.pure hbY rfl ?_
  simp (maxSteps:=9^7) (disch:=first|exact dI|fail) only [push_cast, seval]
  refine ACall.pure hbY rfl ?_
  simp (maxSteps:=9^7) (disch:=first|exact dI|fail) only [push_cast, seval]
  refine vc_over ([]) (fun k : Nat => [(3, .pv (.int .i64 ((k : Int) + 1))), (6, .pv (.int .i64 (n - befI Y - sumM Y k)))]) (fun _ => []) (fun k => k ≤ m - 1) (fun k => m - 1 - k) (0) ?_; intro e0 σ0 n0 h0; simp (maxSteps:=9^7) (disch:=first|exact dI|fail) only [push_cast, seval] at h0; obtain ⟨rfl, rfl, rfl⟩ := h0; refine ⟨?_, ?_, ?_⟩
  ·simp (maxSteps:=9^7) (disch:=first|exact dI|fail) only [z, Int.zero_add, Int.sub_zero, push_cast, seval]
  ·omega
  intro k hk
  have hsm := sum_mono Y (m - 1 - k) k
  rw [show k + (m - 1 - k) = m - 1 by omega] at hsm
  have hs1 := sum_mono Y k 0
  simp only [Nat.zero_add] at hs1
  have hmk := md127 hy1 hy2 (k + 1) (by omega) (by omega)
  have hmdk := mdI_bound Y ((k + 1 : Nat) : Int)
  have hsk : sumM Y (k + 1) = sumM Y k + mdI Y ((k + 1 : Nat) : Int) := rfl
  rw [show ((k + 1 : Nat) : Int) = (k : Int) + 1 by omega] at hmk hmdk hsk
  by_cases hlt : k < m - 1
  ·have hge : mdI Y ((k : Int) + 1) ≤ n - befI Y - sumM Y k := by
    have hs2 := sum_mono Y (m - 1 - (k + 1)) (k + 1)
    rw [show k + 1 + (m - 1 - (k + 1)) = m - 1 by omega] at hs2
    omega
   have he : n - befI Y - sumM Y (k + 1) = n - befI Y - sumM Y k - mdI Y ((k : Int) + 1) := by omega
   simp (maxSteps:=9^7) (disch:=first|exact dI|fail) only [push_cast, seval]
   refine ACall.pure hmk rfl ?_
   simp (maxSteps:=9^7) (disch:=first|exact dI|fail) only [push_cast, seval]
   refine ACall.pure hmk rfl ?_
   simp (maxSteps:=9^7) (disch:=first|exact dI|fail) only [push_cast, seval]
   exact ⟨k + 1, hd_z (by simp (maxSteps:=9^7) (disch:=first|exact dI|fail) only [he, push_cast, seval]), by omega, by omega⟩
  ·have hkm : k = m - 1 := by omega
   subst hkm
   have em : ((m - 1 : Nat) : Int) + 1 = (m : Int) := by omega
   have em2 : (m : Int) - 1 + 1 = (m : Int) := by omega
   rw [em] at hmk hmdk hsk
   have hnge : ¬ mdI Y (m : Int) ≤ n - befI Y - sumM Y (m - 1) := by omega
   have efin : n - befI Y - sumM Y (m - 1) + 1 = d := by omega
   simp (maxSteps:=9^7) (disch:=first|exact dI|fail) only [em2, push_cast, seval]
   refine ACall.pure hmk rfl ?_
   simp (maxSteps:=9^7) (disch:=first|exact dI|fail) only [em2, efin, push_cast, seval]
end Go.Proofs.YtbaaokocnegdoaaGreatDoor
