/- A part of the proof for DelimitedJoinsCardSaid. -/
import Derived.Test.YtbaaokocnegdoaaGreatDoorJoiV7
set_option maxRecDepth 100000
set_option linter.unusedVariables false
set_option linter.unusedSimpArgs false
namespace Go.Proofs.YtbaaokocnegdoaaGreatDoor
open Go Go.Ab
open Nat renaming reduceEqDiff → qa, reduceAdd → qb, reduceMul → qc, reduceLeDiff → qd, reduceLT → qe, reduceBEq → qf, reduceSub → qg
open Int renaming reduceToNat → qh, reduceNeg → qi
attribute [local irreducible] vc
theorem same29 (Z : List (Cel × Nat)) (hZ : Z.length ≤ 1000) : Pure Tryz.prog tabG 29 [.list ((Z.map Prod.fst).map celP), .list (Z.map celR)] (.bool true) := by
  refine Pure.intro F29_ok (by simp [F29]) ?_
  simp (disch := first | exact dI | fail) only [F29o0, F29o1, F29o2, F29o3, F29o4, F29o5, F29p5, F29o6, F29o7, F29b8, F29o9, F29c, F29, push_cast, ↓reduceIte, qa, qb, qc, qd, qe, qf, qg, qh, qi]
  refine vc_over ([]) (fun i : Nat => [(5, .pv (.int .i64 (i : Int)))]) (fun _ => []) (fun i => i ≤ Z.length) (fun i => Z.length - i) (0) ?_; intro e0 σ0 n0 h0; simp (disch := first | exact dI | fail) only [push_cast, ↓reduceIte, qa, qb, qc, qd, qe, qf, qg, qh, qi] at h0; obtain ⟨rfl, rfl, rfl⟩ := h0; refine ⟨?_, ?_, ?_⟩
  · simp (disch := first | exact dI | fail) only [push_cast, ↓reduceIte, qa, qb, qc, qd, qe, qf, qg, qh, qi]
  · omega
  intro i hi
  by_cases hlt : i < Z.length
  · obtain ⟨x, hx⟩ : ∃ x, Z[i]? = some x := ⟨_, List.getElem?_eq_getElem hlt⟩
    obtain ⟨⟨t, q⟩, a⟩ := x
    have h1 : ((Z.map Prod.fst).map celP)[i]? = some (.agg [.str t, .bool q]) := by simp [hx, celP]
    have h2 : (Z.map celR)[i]? = some (.agg [.str t, .bool q, .int .i64 (a : Int)]) := by simp [hx, celR]
    cases q with
    | true =>
      simp (disch := first | exact dI | fail) only [h1, h2, beq_self_eq_true, Bool.not_true, push_cast, ↓reduceIte, qa, qb, qc, qd, qe, qf, qg, qh, qi]
      exact ⟨i + 1, hd_z (by simp (disch := first | exact dI | fail) only [push_cast, ↓reduceIte, qa, qb, qc, qd, qe, qf, qg, qh, qi]), by omega, by omega⟩
    | false =>
      simp (disch := first | exact dI | fail) only [h1, h2, beq_self_eq_true, Bool.not_true, push_cast, ↓reduceIte, qa, qb, qc, qd, qe, qf, qg, qh, qi]
      exact ⟨i + 1, hd_z (by simp (disch := first | exact dI | fail) only [push_cast, ↓reduceIte, qa, qb, qc, qd, qe, qf, qg, qh, qi]), by omega, by omega⟩
  · simp (disch := first | exact dI | fail) only [push_cast, ↓reduceIte, qa, qb, qc, qd, qe, qf, qg, qh, qi]
theorem hasT_str {t : TypeId} {p : PV} (h : HasT Tryz.prog t p) (hu : Tryz.prog.underlying t = some .string) : ∃ s : List UInt8, p = .str s := by
  cases h with
  | int _ k' n hk hw => rw [hu] at hk; cases hk
  | bool _ b hb => rw [hu] at hb; cases hb
  | str _ s hb => exact ⟨s, rfl⟩
  | list _ e l hb => rw [hu] at hb; cases hb
  | agg _ fs cs hb => rw [hu] at hb; cases hb
  | arr _ e n cs hb => rw [hu] at hb; cases hb
end Go.Proofs.YtbaaokocnegdoaaGreatDoor
