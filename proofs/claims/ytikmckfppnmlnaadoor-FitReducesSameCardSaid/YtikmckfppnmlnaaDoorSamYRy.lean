/- A part of the proof for FitReducesSameCardSaid. -/
import Derived.Test.YtikmckfppnmlnaaDoorSamYRx
set_option maxRecDepth 100000
set_option linter.unusedVariables false
set_option linter.unusedSimpArgs false
namespace Go.Proofs.YtikmckfppnmlnaaDoor
open Go Go.Ab
open Nat renaming reduceEqDiff → qa, reduceAdd → qb, reduceMul → qc, reduceLeDiff → qd, reduceLT → qe, reduceBEq → qf, reduceSub → qg
open Int renaming reduceToNat → qh, reduceNeg → qi
attribute [local irreducible] vc
theorem cellF_agg (x : Fld) : mkAgg (cellF x) = .pv x.pv := by
  obtain ⟨cs, h, _, _⟩ := Fld.row x
  unfold cellF mkAgg
  rw [pvs_map, h]; rfl
theorem rowP_load {l : List Fld} {i : Nat} {x : Fld} (h : l[i]? = some x) : partT 7 (i * 7) ((rowP l).map AV.pv) = some (.pv x.pv) := by
  rw [← partA_t, rowP_part h, cellF_agg]
set_option maxHeartbeats 4000000 in
theorem index117L (l : List Fld) (g : Nat) (cs : List PV) (q : Fld → Bool) (hq : ∀ x ∈ l, Pure Tryd.prog tabG g (x.pv :: cs) (.bool (q x))) (hl : l.length ≤ 300) :
    Lent Tryd.prog tabG 1 117 [.row 0 7 0 l.length, .pv (.clo g [] cs)] [.cells 127 false ((rowP l).map .pv)] (.pv (.int .i64 (fstI q l 0))) [.cells 127 false ((rowP l).map .pv)] := by
  have hrl := rowP_len l
  refine Lent.intro F117_ok (by simp [F117]) ?_
  simp (disch := first | exact dI | fail) only [F117o0, F117o1, F117o2, F117o3, F117o4, F117o5, F117o6, F117b7, F117o8, F117c, F117, push_cast, ↓reduceIte, qa, qb, qc, qd, qe, qf, qg, qh, qi]
  refine vc_over ([]) (fun m : Nat => [(8, .pv (.int .i64 (m : Int)))]) (fun m => []) (fun m => m ≤ l.length ∧ fstI q l 0 = fstI q (l.drop m) m) (fun m => l.length - m) (0) ?_; intro e0 σ0 n0 h0; simp (disch := first | exact dI | fail) only [push_cast, ↓reduceIte, qa, qb, qc, qd, qe, qf, qg, qh, qi] at h0; obtain ⟨rfl, rfl, rfl⟩ := h0; refine ⟨?_, ?_, ?_⟩
  · simp (disch := first | exact dI | fail) only [push_cast, ↓reduceIte, qa, qb, qc, qd, qe, qf, qg, qh, qi]
  · exact ⟨by omega, by simp⟩
  · rintro m ⟨hm, he⟩
    by_cases hlt : m < l.length
    · have hltI : (m : Int) < l.length := by omega
      obtain ⟨x, hx⟩ : ∃ x, l[m]? = some x := ⟨_, List.getElem?_eq_getElem hlt⟩
      have hcall := hq x (List.mem_of_getElem? hx)
      have hld := rowP_load hx
      simp (disch := first | exact dI | fail) only [hx, hld, Fld.cells_len, Fld.isAgg, push_cast, ↓reduceIte, qa, qb, qc, qd, qe, qf, qg, qh, qi]
      refine ACall.pure hcall (by exact pvs_pv (x.pv :: cs)) ?_
      cases hqx : q x with
      | true =>
        rw [he, fst_hit hx hqx]
        simp (disch := first | exact dI | fail) only [push_cast, ↓reduceIte, qa, qb, qc, qd, qe, qf, qg, qh, qi]
        exact lent_z [] (by simp (disch := first | exact dI | fail) only [push_cast, ↓reduceIte, qa, qb, qc, qd, qe, qf, qg, qh, qi])
      | false =>
        rw [fst_miss hx hqx] at he
        simp (disch := first | exact dI | fail) only [push_cast, ↓reduceIte, qa, qb, qc, qd, qe, qf, qg, qh, qi]
        exact ⟨m + 1, hd_z (by simp (disch := first | exact dI | fail) only [push_cast, ↓reduceIte, qa, qb, qc, qd, qe, qf, qg, qh, qi]), ⟨by omega, he⟩, by omega⟩
    · have hltI : ¬ (m : Int) < l.length := by omega
      rw [he, fst_end hlt]
      simp (disch := first | exact dI | fail) only [push_cast, ↓reduceIte, qa, qb, qc, qd, qe, qf, qg, qh, qi]
      exact lent_z [] (by simp (disch := first | exact dI | fail) only [push_cast, ↓reduceIte, qa, qb, qc, qd, qe, qf, qg, qh, qi])
end Go.Proofs.YtikmckfppnmlnaaDoor
