/- A part of the proof for FitBackCardSaid. -/
import Derived.Test.YtikmckfppnmlnaaDoorBakYSh
import Derived.Test.YtikmckfppnmlnaaDoorBakYT3
import Derived.Test.YtikmckfppnmlnaaDoorBakYD
set_option maxRecDepth 100000
set_option linter.unusedVariables false
set_option linter.unusedSimpArgs false
namespace Go.Proofs.YtikmckfppnmlnaaDoor
open Go Go.Ab
open Nat renaming reduceEqDiff → qa, reduceAdd → qb, reduceMul → qc, reduceLeDiff → qd, reduceLT → qe, reduceBEq → qf, reduceSub → qg
open Int renaming reduceToNat → qh, reduceNeg → qi
set_option maxHeartbeats 4000000 in
theorem cloneV_ok : ∀ (n : Nat) (v : Val), SizeOf.sizeOf v < n → v.ok → Pure Tryd.prog tabG 66 [v.pv] v.pv := by
  intro n
  induction n with
  | zero => intro v h; omega
  | succ n ih =>
  intro v hn hv
  obtain ⟨k, i, s, t, l, f⟩ := v
  rw [Val.ok_mk] at hv
  obtain ⟨h1, h2, h3, h4, h5, h7, h6, h8⟩ := hv
  simp only [Val.mk.sizeOf_spec] at hn
  have hl : ∀ x ∈ l, Pure Tryd.prog tabG 66 [x.pv] x.pv := fun x hx => ih x (by have := List.sizeOf_lt_of_mem hx; omega) (h7 x hx)
  have hf : ∀ a v, Fld.mk a v ∈ f → Pure Tryd.prog tabG 66 [v.pv] v.pv := fun a v hx => ih v (by have := List.sizeOf_lt_of_mem hx; simp only [Fld.mk.sizeOf_spec] at this; omega) (by have := h8 _ hx; rw [Fld.ok_mk] at this; exact this.2)
  refine Pure.intro F66_ok (by simp [F66]) ?_
  simp (disch := first | exact dI | fail) only [F66o0, F66o1, F66o2, F66o3, F66o4, F66o5, F66o6, F66p6, F66o7, F66b8, F66o9, F66o10, F66o11, F66o12, F66p12, F66o13, F66b14, F66o15, F66c, F66, Val.pv_mk, push_cast, ↓reduceIte, qa, qb, qc, qd, qe, qf, qg, qh, qi]
  refine vc_over ([(3, 5, 62, 6)]) (fun m : Nat => [(14, .pv (.int .i64 (m : Int)))]) (fun m => [(1, .cells 62 true [.pv (.int .i64 k), .pv (.int .i64 i), .pv (.int .i64 s), .pv (.str t), .olist 2 6 ((l.take m).map Val.pv), .pv .nils])]) (fun m => m ≤ l.length) (fun m => l.length - m) (0) ?_; intro e0 σ0 n0 h0; simp (disch := first | exact dI | fail) only [push_cast, ↓reduceIte, qa, qb, qc, qd, qe, qf, qg, qh, qi] at h0; obtain ⟨rfl, rfl, rfl⟩ := h0; refine ⟨?_, ?_, ?_⟩
  · simp (disch := first | exact dI | fail) only [push_cast, ↓reduceIte, qa, qb, qc, qd, qe, qf, qg, qh, qi]
  · omega
  · intro m hm
    by_cases hlt : m < l.length
    · have hltI : (m : Int) < l.length := by omega
      obtain ⟨x, hx⟩ : ∃ x, l[m]? = some x := ⟨_, List.getElem?_eq_getElem hlt⟩
      have hts := take_snoc hx
      have hlt2 : (l.take m).length = m := by rw [List.length_take]; omega
      have hcall := hl x (List.mem_of_getElem? hx)
      obtain ⟨w1, w2, w3, w4, w5, w6⟩ := x
      rw [Val.pv_mk] at hcall
      simp (disch := first | exact dI | fail) only [hx, Val.pv_mk, push_cast, ↓reduceIte, qa, qb, qc, qd, qe, qf, qg, qh, qi]
      refine callDL_pure hcall rfl ?_
      simp (disch := first | exact dI | fail) only [hlt2, push_cast, ↓reduceIte, qa, qb, qc, qd, qe, qf, qg, qh, qi]
      exact ⟨m + 1, hd_z (by simp (disch := first | exact dI | fail) only [hts, List.map_append, Val.pv_mk, push_cast, ↓reduceIte, qa, qb, qc, qd, qe, qf, qg, qh, qi]), by omega, by omega⟩
    · have hltI : ¬ (m : Int) < l.length := by omega
      have hle : l.take m = l := List.take_of_length_le (by omega)
      simp (disch := first | exact dI | fail) only [hle, push_cast, ↓reduceIte, qa, qb, qc, qd, qe, qf, qg, qh, qi]
      refine vc_over ([(3, 6, 127, 7)]) (fun m : Nat => [(29, .pv (.int .i64 (m : Int)))]) (fun m => [(1, .cells 62 true [.pv (.int .i64 k), .pv (.int .i64 i), .pv (.int .i64 s), .pv (.str t), .olist 2 6 (l.map Val.pv), .olist 3 7 ((f.take m).map Fld.pv)])]) (fun m => m ≤ f.length) (fun m => f.length - m) (0) ?_; intro e0 σ0 n0 h0; simp (disch := first | exact dI | fail) only [push_cast, ↓reduceIte, qa, qb, qc, qd, qe, qf, qg, qh, qi] at h0; obtain ⟨rfl, rfl, rfl⟩ := h0; refine ⟨?_, ?_, ?_⟩
      · simp (disch := first | exact dI | fail) only [push_cast, ↓reduceIte, qa, qb, qc, qd, qe, qf, qg, qh, qi]
      · omega
      · intro m hm
        by_cases hlt : m < f.length
        · have hltI : (m : Int) < f.length := by omega
          obtain ⟨⟨a, v⟩, hx⟩ : ∃ x, f[m]? = some x := ⟨_, List.getElem?_eq_getElem hlt⟩
          have hts := take_snoc hx
          have hlt2 : (f.take m).length = m := by rw [List.length_take]; omega
          have hcall := hf a v (List.mem_of_getElem? hx)
          obtain ⟨w1, w2, w3, w4, w5, w6⟩ := v
          rw [Val.pv_mk] at hcall
          simp (disch := first | exact dI | fail) only [hx, Fld.pv_mk, Val.pv_mk, push_cast, ↓reduceIte, qa, qb, qc, qd, qe, qf, qg, qh, qi]
          refine callDL_pure hcall rfl ?_
          simp (disch := first | exact dI | fail) only [hlt2, push_cast, ↓reduceIte, qa, qb, qc, qd, qe, qf, qg, qh, qi]
          exact ⟨m + 1, hd_z (by simp (disch := first | exact dI | fail) only [hts, List.map_append, Fld.pv_mk, Val.pv_mk, push_cast, ↓reduceIte, qa, qb, qc, qd, qe, qf, qg, qh, qi]), by omega, by omega⟩
        · have hltI : ¬ (m : Int) < f.length := by omega
          have hle : f.take m = f := List.take_of_length_le (by omega)
          simp (disch := first | exact dI | fail) only [hle, push_cast, ↓reduceIte, qa, qb, qc, qd, qe, qf, qg, qh, qi]
end Go.Proofs.YtikmckfppnmlnaaDoor
