/- A part of the proof for FitBackCardSaid. -/
import Derived.Test.YtikmckfppnmlnaaDoorBakYTy
import Derived.Test.YtikmckfppnmlnaaDoorCore5
set_option maxRecDepth 100000
set_option linter.unusedVariables false
set_option linter.unusedSimpArgs false
namespace Go.Proofs.YtikmckfppnmlnaaDoor
open Go Go.Ab
open Nat renaming reduceEqDiff → qa, reduceAdd → qb, reduceMul → qc, reduceLeDiff → qd, reduceLT → qe, reduceBEq → qf, reduceSub → qg
open Int renaming reduceToNat → qh, reduceNeg → qi
attribute [local irreducible] vc
theorem index94 (l : List TFd) (g : Nat) (cs : List PV) (q : TFd → Bool) (hq : ∀ x ∈ l, Pure Tryd.prog tabG g (x.pv :: cs) (.bool (q x))) (hl : l.length ≤ 1000000000) :
    Pure Tryd.prog tabG 94 [.list (l.map TFd.pv), .clo g [] cs] (.int .i64 (fstI q l 0)) := by
  refine Pure.intro F94_ok (by simp [F94]) ?_
  simp (disch := first | exact dI | fail) only [F94o0, F94o1, F94o2, F94o3, F94o4, F94o5, F94o6, F94b7, F94o8, F94c, F94, push_cast, ↓reduceIte, qa, qb, qc, qd, qe, qf, qg, qh, qi]
  refine vc_over ([]) (fun m : Nat => [(8, .pv (.int .i64 (m : Int)))]) (fun m => []) (fun m => m ≤ l.length ∧ fstI q l 0 = fstI q (l.drop m) m) (fun m => l.length - m) (0) ?_; intro e0 σ0 n0 h0; simp (disch := first | exact dI | fail) only [push_cast, ↓reduceIte, qa, qb, qc, qd, qe, qf, qg, qh, qi] at h0; obtain ⟨rfl, rfl, rfl⟩ := h0; refine ⟨?_, ?_, ?_⟩
  · simp (disch := first | exact dI | fail) only [push_cast, ↓reduceIte, qa, qb, qc, qd, qe, qf, qg, qh, qi]
  · exact ⟨by omega, by simp⟩
  · rintro m ⟨hm, he⟩
    by_cases hlt : m < l.length
    · have hltI : (m : Int) < l.length := by omega
      obtain ⟨x, hx⟩ : ∃ x, l[m]? = some x := ⟨_, List.getElem?_eq_getElem hlt⟩
      have hcall := hq x (List.mem_of_getElem? hx)
      simp (disch := first | exact dI | fail) only [hx, TFd.cells_len, TFd.isAgg, push_cast, ↓reduceIte, qa, qb, qc, qd, qe, qf, qg, qh, qi]
      refine ACall.pure hcall (by exact pvs_pv (x.pv :: cs)) ?_
      cases hqx : q x with
      | true =>
        rw [he, fst_hit hx hqx]
        simp (disch := first | exact dI | fail) only [push_cast, ↓reduceIte, qa, qb, qc, qd, qe, qf, qg, qh, qi]
      | false =>
        rw [fst_miss hx hqx] at he
        simp (disch := first | exact dI | fail) only [push_cast, ↓reduceIte, qa, qb, qc, qd, qe, qf, qg, qh, qi]
        exact ⟨m + 1, hd_z (by simp (disch := first | exact dI | fail) only [push_cast, ↓reduceIte, qa, qb, qc, qd, qe, qf, qg, qh, qi]), ⟨by omega, he⟩, by omega⟩
    · have hltI : ¬ (m : Int) < l.length := by omega
      rw [he, fst_end hlt]
      simp (disch := first | exact dI | fail) only [push_cast, ↓reduceIte, qa, qb, qc, qd, qe, qf, qg, qh, qi]
theorem shortTF_typ (rec : Typ → Typ) (f : TFd) : (shortTF rec f).typ = rec f.typ := by
  obtain ⟨a, b, c, t, d⟩ := f; rfl
end Go.Proofs.YtikmckfppnmlnaaDoor
