/- A part of the proof for DelimitedJoinsCardSaid. -/
import Derived.Test.YtbaaokocnegdoaaGreatDoorJoiVT3
import Derived.Test.YtbaaokocnegdoaaGreatDoorJoiVD
import Derived.Test.YtbaaokocnegdoaaGreatDoorCore5
import Derived.Test.YtbaaokocnegdoaaGreatDoorJoiV2
set_option maxRecDepth 100000
set_option linter.unusedVariables false
set_option linter.unusedSimpArgs false
namespace Go.Proofs.YtbaaokocnegdoaaGreatDoor
open Go Go.Ab
open Nat renaming reduceEqDiff → qa, reduceAdd → qb, reduceMul → qc, reduceLeDiff → qd, reduceLT → qe, reduceBEq → qf, reduceSub → qg
open Int renaming reduceToNat → qh, reduceNeg → qi
attribute [local irreducible] vc
def aB : Bool → AV
  | true => .ptr 0 0
  | false => .pv .nilp
def bB (t : Bool) : List UInt8 → List Blk
  | [] => [.cells 89 true [aB t, .pv .nils]]
  | b :: r => [.cells 89 true [aB t, .row 1 1 0 (r.length + 1)], .cells 5 false ((bytesP (b :: r)).map .pv)]
theorem copyB (t : Bool) (l : List UInt8) : Lent Tryz.prog tabG 1 90 [.ptr 0 0] (bB t l) (.pv (.tup [])) (bB true l) := by
  refine Lent.intro F90_ok (by simp [F90]) ?_
  cases l with
  | nil =>
    cases t with
    | true =>
      simp (disch := first | exact dI | fail) only [F90o0, F90o1, F90o2, F90o3, F90c, F90, bB, aB, push_cast, ↓reduceIte, qa, qb, qc, qd, qe, qf, qg, qh, qi]
      exact lent_z [] (by simp (disch := first | exact dI | fail) only [push_cast, ↓reduceIte, qa, qb, qc, qd, qe, qf, qg, qh, qi])
    | false =>
      simp (disch := first | exact dI | fail) only [F90o0, F90o1, F90o2, F90o3, F90c, F90, bB, aB, push_cast, ↓reduceIte, qa, qb, qc, qd, qe, qf, qg, qh, qi]
      exact lent_z [] (by simp (disch := first | exact dI | fail) only [push_cast, ↓reduceIte, qa, qb, qc, qd, qe, qf, qg, qh, qi])
  | cons b r =>
    cases t with
    | true =>
      simp (disch := first | exact dI | fail) only [F90o0, F90o1, F90o2, F90o3, F90c, F90, bB, aB, push_cast, ↓reduceIte, qa, qb, qc, qd, qe, qf, qg, qh, qi]
      exact lent_z [] (by simp (disch := first | exact dI | fail) only [push_cast, ↓reduceIte, qa, qb, qc, qd, qe, qf, qg, qh, qi])
    | false =>
      simp (disch := first | exact dI | fail) only [F90o0, F90o1, F90o2, F90o3, F90c, F90, bB, aB, push_cast, ↓reduceIte, qa, qb, qc, qd, qe, qf, qg, qh, qi]
      exact lent_z [] (by simp (disch := first | exact dI | fail) only [push_cast, ↓reduceIte, qa, qb, qc, qd, qe, qf, qg, qh, qi])
theorem writeB (t : Bool) (l : List UInt8) (c : UInt8) (hl : l.length ≤ 100000000) : Lent Tryz.prog tabG 1 43 [.ptr 0 0, .pv (.int .u8 (c.toNat : Int))] (bB t l) (.pv .nili) (bB true (l ++ [c])) := by
  have hC := copyB t l
  refine Lent.intro F43_ok (by simp [F43]) ?_
  cases l with
  | nil =>
    cases t <;> (
    try simp only [bB, aB] at hC
    simp (disch := first | exact dI | fail) only [F43o0, F43o1, F43o2, F43o3, F43c, F43, bB, aB, push_cast, ↓reduceIte, qa, qb, qc, qd, qe, qf, qg, qh, qi]
    refine ACall.lentK hC [0] rfl (by simp (disch := first | exact dI | fail) only [push_cast, ↓reduceIte, qa, qb, qc, qd, qe, qf, qg, qh, qi]) (by simp (disch := first | exact dI | fail) only [push_cast, ↓reduceIte, qa, qb, qc, qd, qe, qf, qg, qh, qi]) ?_
    simp (disch := first | exact dI | fail) only [bB, aB, push_cast, ↓reduceIte, qa, qb, qc, qd, qe, qf, qg, qh, qi]
    exact lent_z [] (by simp (disch := first | exact dI | fail) only [bytesP, push_cast, ↓reduceIte, qa, qb, qc, qd, qe, qf, qg, qh, qi]))
  | cons b r =>
    have hA := fun new q => appRw_byte (t := 5) (q := q) (new := new) (f := false) (l := b :: r) (c := c) (len := r.length + 1) rfl (by simp at hl ⊢; omega)
    cases t <;> (
    try simp only [bB, aB] at hC
    simp (disch := first | exact dI | fail) only [F43o0, F43o1, F43o2, F43o3, F43c, F43, bB, aB, push_cast, ↓reduceIte, qa, qb, qc, qd, qe, qf, qg, qh, qi]
    refine ACall.lentK hC [0, 1] rfl (by simp (disch := first | exact dI | fail) only [push_cast, ↓reduceIte, qa, qb, qc, qd, qe, qf, qg, qh, qi]) (by simp (disch := first | exact dI | fail) only [push_cast, ↓reduceIte, qa, qb, qc, qd, qe, qf, qg, qh, qi]) ?_
    simp (disch := first | exact dI | fail) only [bB, aB, hA, push_cast, ↓reduceIte, qa, qb, qc, qd, qe, qf, qg, qh, qi]
    exact lent_z [] (by simp (disch := first | exact dI | fail) only [bytesP, List.length_append, push_cast, ↓reduceIte, qa, qb, qc, qd, qe, qf, qg, qh, qi]))
theorem writeS (t : Bool) (l k : List UInt8) (hl : l.length ≤ 100000000) (hk : k.length ≤ 100000000) : Lent Tryz.prog tabG 1 66 [.ptr 0 0, .pv (.str k)] (bB t l) (.pv (.tup [.int .i64 (k.length : Int), .nili])) (bB true (l ++ k)) := by
  have hC := copyB t l
  refine Lent.intro F66_ok (by simp [F66]) ?_
  cases l with
  | nil =>
    cases k with
    | nil =>
      cases t <;> (
      try simp only [bB, aB] at hC
      simp (disch := first | exact dI | fail) only [F66o0, F66o1, F66o2, F66o3, F66c, F66, bB, aB, push_cast, ↓reduceIte, qa, qb, qc, qd, qe, qf, qg, qh, qi]
      refine ACall.lentK hC [0] rfl (by simp (disch := first | exact dI | fail) only [push_cast, ↓reduceIte, qa, qb, qc, qd, qe, qf, qg, qh, qi]) (by simp (disch := first | exact dI | fail) only [push_cast, ↓reduceIte, qa, qb, qc, qd, qe, qf, qg, qh, qi]) ?_
      simp (disch := first | exact dI | fail) only [bB, aB, push_cast, ↓reduceIte, qa, qb, qc, qd, qe, qf, qg, qh, qi]
      exact lent_z [] (by simp (disch := first | exact dI | fail) only [push_cast, ↓reduceIte, qa, qb, qc, qd, qe, qf, qg, qh, qi]))
    | cons c k =>
      simp only [List.length_cons] at hk
      cases t <;> (
      try simp only [bB, aB] at hC
      simp (disch := first | exact dI | fail) only [F66o0, F66o1, F66o2, F66o3, F66c, F66, bB, aB, push_cast, ↓reduceIte, qa, qb, qc, qd, qe, qf, qg, qh, qi]
      refine ACall.lentK hC [0] rfl (by simp (disch := first | exact dI | fail) only [push_cast, ↓reduceIte, qa, qb, qc, qd, qe, qf, qg, qh, qi]) (by simp (disch := first | exact dI | fail) only [push_cast, ↓reduceIte, qa, qb, qc, qd, qe, qf, qg, qh, qi]) ?_
      simp (disch := first | exact dI | fail) only [bB, aB, push_cast, ↓reduceIte, qa, qb, qc, qd, qe, qf, qg, qh, qi]
      exact lent_z [] (by simp (disch := first | exact dI | fail) only [push_cast, ↓reduceIte, qa, qb, qc, qd, qe, qf, qg, qh, qi]))
  | cons b r =>
    have e2 : (r ++ k).length + 1 = r.length + 1 + k.length := by simp; omega
    have hA := fun new q => appsB_ok (t := 5) (q := q) (new := new) (f := false) (l := b :: r) (k := k) (len := r.length + 1) rfl (by simp at hl ⊢; omega)
    cases t <;> (
    try simp only [bB, aB] at hC
    simp (disch := first | exact dI | fail) only [F66o0, F66o1, F66o2, F66o3, F66c, F66, bB, aB, push_cast, ↓reduceIte, qa, qb, qc, qd, qe, qf, qg, qh, qi]
    refine ACall.lentK hC [0, 1] rfl (by simp (disch := first | exact dI | fail) only [push_cast, ↓reduceIte, qa, qb, qc, qd, qe, qf, qg, qh, qi]) (by simp (disch := first | exact dI | fail) only [push_cast, ↓reduceIte, qa, qb, qc, qd, qe, qf, qg, qh, qi]) ?_
    simp (disch := first | exact dI | fail) only [bB, aB, hA, push_cast, ↓reduceIte, qa, qb, qc, qd, qe, qf, qg, qh, qi]
    exact lent_z [] (by simp (disch := first | exact dI | fail) only [e2, push_cast, ↓reduceIte, qa, qb, qc, qd, qe, qf, qg, qh, qi]))
def stB : List UInt8 → List Blk
  | [] => [.none]
  | _ :: _ => [.none, .none]
theorem stringB (t : Bool) (l : List UInt8) (hl : l.length ≤ 100000000) : Lent Tryz.prog tabG 1 44 [.ptr 0 0] (bB t l) (.pv (.str l)) (stB l) := by
  refine Lent.intro F44_ok (by simp [F44]) ?_
  cases l with
  | nil =>
    cases t <;> (
    try simp only [bB, aB] at hC
    simp (disch := first | exact dI | fail) only [F44o0, F44o1, F44p1, F44c, F44, bB, aB, push_cast, ↓reduceIte, qa, qb, qc, qd, qe, qf, qg, qh, qi]
    exact lent_z [] (by simp (disch := first | exact dI | fail) only [stB, push_cast, ↓reduceIte, qa, qb, qc, qd, qe, qf, qg, qh, qi]))
  | cons b r =>
    have hA := fun (k : Int) (q : Nat) (hk : k = ((b :: r).length : Int)) => ustrB_ok (t := 5) (r := q) (f := false) (l := b :: r) hk (by simp) (by simp at hl ⊢; omega)
    cases t <;> (
    try simp only [bB, aB] at hC
    simp (disch := first | exact dI | fail) only [F44o0, F44o1, F44p1, F44c, F44, bB, aB, hA, push_cast, ↓reduceIte, qa, qb, qc, qd, qe, qf, qg, qh, qi]
    exact lent_z [] (by simp (disch := first | exact dI | fail) only [stB, push_cast, ↓reduceIte, qa, qb, qc, qd, qe, qf, qg, qh, qi]))
end Go.Proofs.YtbaaokocnegdoaaGreatDoor
