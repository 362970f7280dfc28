/- A part of the proof for DelimitedJoinsCardSaid. -/
import Derived.Test.YtbaaokocnegdoaaGreatDoorJoiV9
import Derived.Test.YtbaaokocnegdoaaGreatDoorJoiV10
set_option maxRecDepth 100000
set_option linter.unusedVariables false
set_option linter.unusedSimpArgs false
-- many steps
namespace Go.Proofs.YtbaaokocnegdoaaGreatDoor
open Go Go.Ab
open Nat renaming reduceEqDiff → qa, reduceAdd → qb, reduceMul → qc, reduceLeDiff → qd, reduceLT → qe, reduceBEq → qf, reduceSub → qg
open Int renaming reduceToNat → qh, reduceNeg → qi
attribute [local irreducible] vc
theorem contains_spc (sep : UInt8) : ∀ t : List UInt8, Lib.containsAny t [34, 13, 10, sep] = spc sep t
  | [] => rfl
  | c :: t => by
    have ih := contains_spc sep t
    have hg := Lib.indexAny_ge [34, 13, 10, sep] t
    have hc : ([34, 13, 10, sep] : List UInt8).contains c = (c == sep || bad c) := by
      simp only [List.contains_cons, List.contains_nil, Bool.or_false, bad]
      cases c == 34 <;> cases c == 13 <;> cases c == 10 <;> cases c == sep <;> rfl
    simp only [Lib.containsAny, Lib.indexAny, spc, List.any_cons, hc] at ih ⊢
    cases (c == sep || bad c) with
    | true => simp
    | false =>
      simp only [Bool.false_eq_true, if_false, Bool.false_or]
      rw [← ih]
      by_cases h : Lib.indexAny t [34, 13, 10, sep] = -1
      · simp [h]
      · simp [h]; constructor <;> intro <;> omega
theorem special53 {sep : UInt8} (hs : sepB (sep.toNat : Int) = true) {t : List UInt8} {b : Bool} (h : Pure Tryz.prog tabG 101 [.str t, .str [34, 13, 10, sep]] (.bool b)) :
    Pure Tryz.prog tabG 53 [.str t, .int .i64 (sep.toNat : Int)] (.bool b) := by
  have hss := sep.toNat_lt
  have he : (Utf8.encode (sep.toNat : Int)).data.toList = [sep] := by
    have key : ∀ k : Fin 128, (Utf8.encode ((k.val : Nat) : Int)).data.toList = [UInt8.ofNat k.val] := by decide +kernel
    have hn : sep.toNat < 128 := by unfold sepB at hs; simp at hs; omega
    have := key ⟨sep.toNat, hn⟩
    simpa using this
  have hw := wrap_i32 (n := (sep.toNat : Int)) (by omega) (by omega)
  refine Pure.intro F53_ok (by simp [F53]) ?_
  simp (maxSteps := 1000000) (disch := first | exact dI | fail) only [F53o0, F53o1, F53c, F53, hw, he, push_cast, ↓reduceIte, qa, qb, qc, qd, qe, qf, qg, qh, qi]
  refine ACall.pure h rfl ?_
  simp (maxSteps := 1000000) (disch := first | exact dI | fail) only [push_cast, ↓reduceIte, qa, qb, qc, qd, qe, qf, qg, qh, qi]
end Go.Proofs.YtbaaokocnegdoaaGreatDoor
