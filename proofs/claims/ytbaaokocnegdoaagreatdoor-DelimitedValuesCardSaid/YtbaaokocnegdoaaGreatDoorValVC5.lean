/- A part of the proof for DelimitedValuesCardSaid. -/
import Derived.Test.YtbaaokocnegdoaaGreatDoorValVD
import Derived.Test.YtbaaokocnegdoaaGreatDoorCore6
import Derived.Test.YtbaaokocnegdoaaGreatDoorCore5
import Derived.Test.YtbaaokocnegdoaaGreatDoorValVT3
set_option maxRecDepth 100000
set_option linter.unusedVariables false
set_option linter.unusedSimpArgs false
-- many steps
namespace Go.Proofs.YtbaaokocnegdoaaGreatDoor
open Go Go.Ab
open Nat renaming reduceEqDiff → qa, reduceAdd → qb, reduceMul → qc, reduceLeDiff → qd, reduceLT → qe, reduceBEq → qf, reduceSub → qg
open Int renaming reduceToNat → qh, reduceNeg → qi
attribute [local irreducible] vc
theorem leap233 {y : Int} (h1 : 1 ≤ y) (h2 : y ≤ 9999) : Pure Tryz.prog tabG 233 [.int .i64 y] (.bool (leapB y)) := by
 have e4 := tmod_n (a := y) (b := 4) (by omega)
 have e100 := tmod_n (a := y) (b := 100) (by omega)
 have e400 := tmod_n (a := y) (b := 400) (by omega)
 refine Pure.intro F233_ok (by simp [F233]) ?_
 unfold leapB
 by_cases a : y % 4 = 0
 ·by_cases b : y % 100 = 0
  ·by_cases c : y % 400 = 0
   ·simp only [a, b, c, decide_true, Bool.not_true, Bool.or_true, Bool.and_true]
    simp (maxSteps:=9^7) (disch:=first|exact dI|fail) only [F233, e4, e100, e400, a, b, c, push_cast, ↓reduceIte, qa, qb, qc, qd, qe, qf, qg, qh, qi]
   ·simp only [a, b, c, decide_true, decide_false, Bool.not_true, Bool.or_false, Bool.and_false]
    simp (maxSteps:=9^7) (disch:=first|exact dI|fail) only [F233, e4, e100, e400, a, b, c, push_cast, ↓reduceIte, qa, qb, qc, qd, qe, qf, qg, qh, qi]
  ·simp only [a, b, decide_true, decide_false, Bool.not_false, Bool.true_or, Bool.and_true]
   simp (maxSteps:=9^7) (disch:=first|exact dI|fail) only [F233, e4, e100, e400, a, b, push_cast, ↓reduceIte, qa, qb, qc, qd, qe, qf, qg, qh, qi]
 ·have c : ¬ y % 400 = 0 := by omega
  simp only [a, decide_false, Bool.false_and]
  simp (maxSteps:=9^7) (disch:=first|exact dI|fail) only [F233, e4, e100, e400, a, c, push_cast, ↓reduceIte, qa, qb, qc, qd, qe, qf, qg, qh, qi]
theorem elem12 (m : Nat) (h1 : 1 ≤ m) (h2 : m ≤ 12) : rElem 1 [.int .i64 31, .int .i64 28, .int .i64 31, .int .i64 30, .int .i64 31, .int .i64 30, .int .i64 31, .int .i64 31, .int .i64 30, .int .i64 31, .int .i64 30, .int .i64 31] ((m : Int) - 1) = onElem 1 [.int .i64 31, .int .i64 28, .int .i64 31, .int .i64 30, .int .i64 31, .int .i64 30, .int .i64 31, .int .i64 31, .int .i64 30, .int .i64 31, .int .i64 30, .int .i64 31] (m - 1) (some (.int .i64 (tabI m))) := by
 rw [rElem_int _ _ (by omega), show ((m : Int) - 1).toNat = m - 1 by omega]
 have h12 : m = 1 ∨ m = 2 ∨ m = 3 ∨ m = 4 ∨ m = 5 ∨ m = 6 ∨ m = 7 ∨ m = 8 ∨ m = 9 ∨ m = 10 ∨ m = 11 ∨ m = 12 := by omega
 rcases h12 with rfl | rfl | rfl | rfl | rfl | rfl | rfl | rfl | rfl | rfl | rfl | rfl <;> rfl
theorem elem12g (m : Nat) (h1 : 1 ≤ m) (h2 : m ≤ 12) : ([.int .i64 31, .int .i64 28, .int .i64 31, .int .i64 30, .int .i64 31, .int .i64 30, .int .i64 31, .int .i64 31, .int .i64 30, .int .i64 31, .int .i64 30, .int .i64 31] : List PV)[m - 1]? = some (.int .i64 (tabI m)) := by
 have h12 : m = 1 ∨ m = 2 ∨ m = 3 ∨ m = 4 ∨ m = 5 ∨ m = 6 ∨ m = 7 ∨ m = 8 ∨ m = 9 ∨ m = 10 ∨ m = 11 ∨ m = 12 := by omega
 rcases h12 with rfl | rfl | rfl | rfl | rfl | rfl | rfl | rfl | rfl | rfl | rfl | rfl <;> rfl
theorem month182 {y : Int} (h1 : 1 ≤ y) (h2 : y ≤ 9999) (m : Nat) (h3 : 1 ≤ m) (h4 : m ≤ 12) : Pure Tryz.prog tabG 182 [.int .i64 y, .int .i64 (m : Int)] (.int .i64 (mdI y m)) := by
 have hl := leap233 h1 h2
 refine Pure.intro F182_ok (by simp [F182]) ?_
 by_cases h : m = 2
 ·subst h
  cases hb : leapB y with
  | true =>
    rw [hb] at hl
    rw [show mdI y ((2 : Nat) : Int) = 29 by simp [mdI, hb]]
    simp (maxSteps:=9^7) (disch:=first|exact dI|fail) only [F182, push_cast, ↓reduceIte, qa, qb, qc, qd, qe, qf, qg, qh, qi]
    refine ACall.pure hl rfl ?_
    simp (maxSteps:=9^7) (disch:=first|exact dI|fail) only [push_cast, ↓reduceIte, qa, qb, qc, qd, qe, qf, qg, qh, qi]
  | false =>
    rw [hb] at hl
    rw [md_tab y 2 (by simp [hb])]
    rw [show tabI 2 = 28 from rfl]
    have hx2 : rElem 1 [.int .i64 31, .int .i64 28, .int .i64 31, .int .i64 30, .int .i64 31, .int .i64 30, .int .i64 31, .int .i64 31, .int .i64 30, .int .i64 31, .int .i64 30, .int .i64 31] (2 - 1) = onElem 1 [.int .i64 31, .int .i64 28, .int .i64 31, .int .i64 30, .int .i64 31, .int .i64 30, .int .i64 31, .int .i64 31, .int .i64 30, .int .i64 31, .int .i64 30, .int .i64 31] 1 (some (.int .i64 28)) := rfl
    simp (maxSteps:=9^7) (disch:=first|exact dI|fail) only [F182, push_cast, ↓reduceIte, qa, qb, qc, qd, qe, qf, qg, qh, qi]
    refine ACall.pure hl rfl ?_
    simp (maxSteps:=9^7) (disch:=first|exact dI|fail) only [hx2, push_cast, ↓reduceIte, qa, qb, qc, qd, qe, qf, qg, qh, qi]
 ·rw [md_tab y m (by simp [h])]
  simp (maxSteps:=9^7) (disch:=first|exact dI|fail) only [F182, elem12 m h3 h4, elem12g m h3 h4, push_cast, ↓reduceIte, qa, qb, qc, qd, qe, qf, qg, qh, qi]
theorem month182_f {y m : Int} (h : ¬ (1 ≤ y ∧ y ≤ 9999 ∧ 1 ≤ m ∧ m ≤ 12)) : Pure Tryz.prog tabG 182 [.int .i64 y, .int .i64 m] (.int .i64 0) := by
 refine Pure.intro F182_ok (by simp [F182]) ?_
 by_cases h1 : y < 1
 ·simp (maxSteps:=9^7) (disch:=first|exact dI|fail) only [F182, push_cast, ↓reduceIte, qa, qb, qc, qd, qe, qf, qg, qh, qi]
 by_cases h2 : 9999 < y
 ·simp (maxSteps:=9^7) (disch:=first|exact dI|fail) only [F182, push_cast, ↓reduceIte, qa, qb, qc, qd, qe, qf, qg, qh, qi]
 by_cases h3 : m < 1
 ·simp (maxSteps:=9^7) (disch:=first|exact dI|fail) only [F182, push_cast, ↓reduceIte, qa, qb, qc, qd, qe, qf, qg, qh, qi]
 ·have h4 : 12 < m := by omega
  simp (maxSteps:=9^7) (disch:=first|exact dI|fail) only [F182, push_cast, ↓reduceIte, qa, qb, qc, qd, qe, qf, qg, qh, qi]
theorem rdays_t {y : Int} {m : Nat} {d : Int} (h : DateOk y m d) : Pure Tryz.prog tabG 136 [.int .i64 y, .int .i64 (m : Int), .int .i64 d] (.tup [.int .i64 (dayN y m d - 719162), .bool true]) := by
 have hm := month182 h.y1 h.y2 m h.m1 h.m2
 have hbb := bef_bound h.y1 (by have := h.y2; omega)
 have hmd := mdI_bound y m
 have hy1 := h.y1
 have hy2 := h.y2
 have hm2 := h.m2
 have hd1 := h.d1
 have hd2 := h.d2
 have hdr := day_range h
 have hdn : dayN y m d = befI y + sumM y (m - 1) + d - 1 := rfl
 have e4 := tdiv_n (a := y - 1) (b := 4) (by omega)
 have e100 := tdiv_n (a := y - 1) (b := 100) (by omega)
 have e400 := tdiv_n (a := y - 1) (b := 400) (by omega)
 have hbf : 365 * (y - 1) + (y - 1) / 4 - (y - 1) / 100 + (y - 1) / 400 = befI y := rfl
 have z : sumM y 0 = 0 := rfl
 refine Pure.intro F136_ok (by simp [F136]) ?_
 simp (maxSteps:=9^7) (disch:=first|exact dI|fail) only [F136, push_cast, ↓reduceIte, qa, qb, qc, qd, qe, qf, qg, qh, qi]
 refine ACall.pure hm rfl ?_
 simp (maxSteps:=9^7) (disch:=first|exact dI|fail) only [e4, e100, e400, push_cast, ↓reduceIte, qa, qb, qc, qd, qe, qf, qg, qh, qi]
 refine vc_over ([]) (fun k : Nat => [(6, .pv (.int .i64 (befI y + sumM y k))), (9, .pv (.int .i64 ((k : Int) + 1)))]) (fun _ => []) (fun k => k ≤ m - 1) (fun k => m - 1 - k) (0) ?_; intro e0 σ0 n0 h0; simp (maxSteps:=9^7) (disch:=first|exact dI|fail) only [push_cast, ↓reduceIte, qa, qb, qc, qd, qe, qf, qg, qh, qi] at h0; obtain ⟨rfl, rfl, rfl⟩ := h0; refine ⟨?_, ?_, ?_⟩
 ·simp (maxSteps:=9^7) (disch:=first|exact dI|fail) only [hbf, z, Int.zero_add, Int.add_zero, push_cast, ↓reduceIte, qa, qb, qc, qd, qe, qf, qg, qh, qi]
 ·omega
 intro k hk
 have hs0 := sum_mono y k 0
 simp only [Nat.zero_add] at hs0
 have hsm := sum_mono y (m - 1 - k) k
 rw [show k + (m - 1 - k) = m - 1 by omega] at hsm
 by_cases hlt : k < m - 1
 ·have hmk := month182 hy1 hy2 (k + 1) (by omega) (by omega)
  have hmdk := mdI_bound y ((k + 1 : Nat) : Int)
  have hsk : sumM y (k + 1) = sumM y k + mdI y ((k + 1 : Nat) : Int) := rfl
  rw [show ((k + 1 : Nat) : Int) = (k : Int) + 1 by omega] at hmk hmdk hsk
  have hs2 : befI y + sumM y (k + 1) = befI y + sumM y k + mdI y ((k : Int) + 1) := by omega
  simp (maxSteps:=9^7) (disch:=first|exact dI|fail) only [push_cast, ↓reduceIte, qa, qb, qc, qd, qe, qf, qg, qh, qi]
  refine ACall.pure hmk rfl ?_
  simp (maxSteps:=9^7) (disch:=first|exact dI|fail) only [push_cast, ↓reduceIte, qa, qb, qc, qd, qe, qf, qg, qh, qi]
  exact ⟨k + 1, hd_z (by simp (maxSteps:=9^7) (disch:=first|exact dI|fail) only [hs2, push_cast, ↓reduceIte, qa, qb, qc, qd, qe, qf, qg, qh, qi]), by omega, by omega⟩
 ·have : k = m - 1 := by omega
  subst this
  have hfin : befI y + sumM y (m - 1) + d - 1 + -719162 = dayN y m d - 719162 := by omega
  simp (maxSteps:=9^7) (disch:=first|exact dI|fail) only [hfin, push_cast, ↓reduceIte, qa, qb, qc, qd, qe, qf, qg, qh, qi]
theorem rdays_f {y m d : Int} (h : ∀ k : Nat, m = k → ¬ DateOk y k d) : Pure Tryz.prog tabG 136 [.int .i64 y, .int .i64 m, .int .i64 d] (.tup [.int .i64 0, .bool false]) := by
 refine Pure.intro F136_ok (by simp [F136]) ?_
 by_cases hd : d < 1
 ·simp (maxSteps:=9^7) (disch:=first|exact dI|fail) only [F136, push_cast, ↓reduceIte, qa, qb, qc, qd, qe, qf, qg, qh, qi]
 ·by_cases hm : 1 ≤ y ∧ y ≤ 9999 ∧ 1 ≤ m ∧ m ≤ 12
  ·obtain ⟨k, rfl⟩ : ∃ k : Nat, m = k := ⟨m.toNat, by omega⟩
   have hmt := month182 hm.1 hm.2.1 k (by omega) (by omega)
   have hgt : mdI y k < d := by
    by_cases hle : d ≤ mdI y k
    ·exact absurd ⟨hm.1, hm.2.1, by omega, by omega, by omega, hle⟩ (h k rfl)
    ·omega
   simp (maxSteps:=9^7) (disch:=first|exact dI|fail) only [F136, push_cast, ↓reduceIte, qa, qb, qc, qd, qe, qf, qg, qh, qi]
   refine ACall.pure hmt rfl ?_
   simp (maxSteps:=9^7) (disch:=first|exact dI|fail) only [push_cast, ↓reduceIte, qa, qb, qc, qd, qe, qf, qg, qh, qi]
  ·have hmf := month182_f hm
   simp (maxSteps:=9^7) (disch:=first|exact dI|fail) only [F136, push_cast, ↓reduceIte, qa, qb, qc, qd, qe, qf, qg, qh, qi]
   refine ACall.pure hmf rfl ?_
   simp (maxSteps:=9^7) (disch:=first|exact dI|fail) only [push_cast, ↓reduceIte, qa, qb, qc, qd, qe, qf, qg, qh, qi]
end Go.Proofs.YtbaaokocnegdoaaGreatDoor
set_option linter.unusedVariables false
set_option linter.unusedSimpArgs false
namespace Go.Ab
open Go
abbrev Cel := List UInt8 × Bool
inductive Out where
 | err (o : Nat) (e : Int)
 | ok (c : Cel) (a : Nat)
inductive Res where
 | err (o : Nat) (e : Int)
 | ok (c : List Cel) (p : List Nat)
end Go.Ab
set_option maxRecDepth 100000
set_option linter.unusedVariables false
set_option linter.unusedSimpArgs false
namespace Go.Proofs.YtbaaokocnegdoaaGreatDoor
open Go Go.Ab
attribute [local irreducible] vc
def aB : Bool → AV
 | true => .ptr 0 0
 | false => .pv .nilp
def bB (t : Bool) : List UInt8 → List Blk
 | [] => [.cells 89 true [aB t, .pv .nils]]
 | b :: r => [.cells 89 true [aB t, .row 1 1 0 (r.length + 1)], .cells 5 false ((bytesP (b :: r)).map .pv)]
theorem copyB (t : Bool) (l : List UInt8) : Lent Tryz.prog tabG 1 90 [.ptr 0 0] (bB t l) (.pv (.tup [])) (bB true l) := by
 refine Lent.intro F90_ok (by simp [F90]) ?_
 cases l with
 | nil =>
   cases t with
   | true =>
     simp (disch:=first|exact dI|fail) only [F90, bB, aB, push_cast, seval]
     exact lent_z [] (by simp (disch:=first|exact dI|fail) only [push_cast, seval])
   | false =>
     simp (disch:=first|exact dI|fail) only [F90, bB, aB, push_cast, seval]
     exact lent_z [] (by simp (disch:=first|exact dI|fail) only [push_cast, seval])
 | cons b r =>
   cases t with
   | true =>
     simp (disch:=first|exact dI|fail) only [F90, bB, aB, push_cast, seval]
     exact lent_z [] (by simp (disch:=first|exact dI|fail) only [push_cast, seval])
   | false =>
     simp (disch:=first|exact dI|fail) only [F90, bB, aB, push_cast, seval]
     exact lent_z [] (by simp (disch:=first|exact dI|fail) only [push_cast, seval])
theorem writeB (t : Bool) (l : List UInt8) (c : UInt8) (hl : l.length ≤ 100000000) : Lent Tryz.prog tabG 1 43 [.ptr 0 0, .pv (.int .u8 (c.toNat : Int))] (bB t l) (.pv .nili) (bB true (l ++ [c])) := by
 have hC := copyB t l
 refine Lent.intro F43_ok (by simp [F43]) ?_
 cases l with
 | nil =>
   cases t <;> (
   try simp only [bB, aB] at hC
   simp (disch:=first|exact dI|fail) only [F43, bB, aB, push_cast, seval]
   refine ACall.lentK hC [0] rfl (by simp (disch:=first|exact dI|fail) only [push_cast, seval]) (by simp (disch:=first|exact dI|fail) only [push_cast, seval]) ?_
   simp (disch:=first|exact dI|fail) only [bB, aB, push_cast, seval]
   exact lent_z [] (by simp (disch:=first|exact dI|fail) only [bytesP, push_cast, seval]))
 | cons b r =>
   have hA := fun new q => appRw_byte (t := 5) (q := q) (new := new) (f := false) (l := b :: r) (c := c) (len := r.length + 1) rfl (by simp at hl ⊢; omega)
   cases t <;> (
   try simp only [bB, aB] at hC
   simp (disch:=first|exact dI|fail) only [F43, bB, aB, push_cast, seval]
   refine ACall.lentK hC [0, 1] rfl (by simp (disch:=first|exact dI|fail) only [push_cast, seval]) (by simp (disch:=first|exact dI|fail) only [push_cast, seval]) ?_
   simp (disch:=first|exact dI|fail) only [bB, aB, hA, push_cast, seval]
   exact lent_z [] (by simp (disch:=first|exact dI|fail) only [bytesP, List.length_append, push_cast, seval]))
def stB : List UInt8 → List Blk
 | [] => [.none]
 | _ :: _ => [.none, .none]
theorem stringB (t : Bool) (l : List UInt8) (hl : l.length ≤ 100000000) : Lent Tryz.prog tabG 1 44 [.ptr 0 0] (bB t l) (.pv (.str l)) (stB l) := by
 refine Lent.intro F44_ok (by simp [F44]) ?_
 cases l with
 | nil =>
   cases t <;> (
   try simp only [bB, aB] at hC
   simp (disch:=first|exact dI|fail) only [F44, bB, aB, push_cast, seval]
   exact lent_z [] (by simp (disch:=first|exact dI|fail) only [stB, push_cast, seval]))
 | cons b r =>
   have hA := fun (k : Int) (q : Nat) (hk : k = ((b :: r).length : Int)) => ustrB_ok (t := 5) (r := q) (f := false) (l := b :: r) hk (by simp) (by simp at hl ⊢; omega)
   cases t <;> (
   try simp only [bB, aB] at hC
   simp (disch:=first|exact dI|fail) only [F44, bB, aB, hA, push_cast, seval]
   exact lent_z [] (by simp (disch:=first|exact dI|fail) only [stB, push_cast, seval]))
end Go.Proofs.YtbaaokocnegdoaaGreatDoor
set_option maxRecDepth 100000
set_option linter.unusedVariables false
set_option linter.unusedSimpArgs false
namespace Go.Proofs.YtbaaokocnegdoaaGreatDoor
open Go Go.Ab
open Nat renaming reduceEqDiff → qa, reduceAdd → qb, reduceMul → qc, reduceLeDiff → qd, reduceLT → qe, reduceBEq → qf, reduceSub → qg
open Int renaming reduceToNat → qh, reduceNeg → qi
attribute [local irreducible] vc
structure Sx where
 pos : Nat
 cells : List Cel
 places : List Nat
 wrong : Nat
 e : Int
def natP (n : Nat) : PV := .int .i64 (n : Int)
theorem u8n (c d : UInt8) : ((c.toNat : Int) = (d.toNat : Int)) ↔ c = d := ⟨fun h => UInt8.toNat_inj.1 (by omega), fun h => h ▸ rfl⟩
end Go.Proofs.YtbaaokocnegdoaaGreatDoor
