/- A part of the proof for FitBackCardSaid. -/
import Derived.Test.YtikmckfppnmlnaaDoorBakYRi
set_option maxRecDepth 100000
set_option linter.unusedVariables false
set_option linter.unusedSimpArgs false
namespace Go.Proofs.YtikmckfppnmlnaaDoor
open Go Go.Ab
open Nat renaming reduceEqDiff → qa, reduceAdd → qb, reduceMul → qc, reduceLeDiff → qd, reduceLT → qe, reduceBEq → qf, reduceSub → qg
open Int renaming reduceToNat → qh, reduceNeg → qi
attribute [local irreducible] vc
theorem shortTF_dflt (r : Typ → Typ) (f : TFd) : (shortTF r f).dflt = (f.dflt.take 2).map (shortV 3) := by
  obtain ⟨a, b, c, d, e⟩ := f; rfl
set_option maxHeartbeats 4000000 in
theorem same32_s : ∀ (n : Nat) (a : Val), SizeOf.sizeOf a < n → a.ok → Pure Tryd.prog tabG 32 [a.pv, a.pv] (.bool true)
  | 0, a, h, _ => absurd h (Nat.not_lt_zero _)
  | n + 1, a, hn, ho => by
    have ih := same32_s n
    obtain ⟨w1, w2, w3, w4, w5, w6⟩ := a
    rw [Val.ok_mk] at ho
    obtain ⟨h1, h2, h3, h4, d1, h7, d2, h8⟩ := ho
    simp only [Val.mk.sizeOf_spec] at hn
    have d4 : ∀ x ∈ w5, Pure Tryd.prog tabG 32 [x.pv, x.pv] (.bool true) := fun x hx => ih x (by have := List.sizeOf_lt_of_mem hx; omega) (h7 x hx)
    have d5 : ∀ x ∈ w6, Pure Tryd.prog tabG 32 [x.value.pv, x.value.pv] (.bool true) := fun x hx => by
      have hxo := h8 x hx
      have hsz := List.sizeOf_lt_of_mem hx
      obtain ⟨a, v⟩ := x
      rw [Fld.ok_mk] at hxo
      simp only [Fld.mk.sizeOf_spec] at hsz
      exact ih v (by omega) hxo.2
    refine Pure.intro F32_ok (by simp [F32]) ?_
    simp (disch := first | exact dI | fail) only [F32o0, F32o1, F32o2, F32o3, F32o4, F32o5, F32p5, F32o6, F32o7, F32b8, F32o9, F32o10, F32o11, F32p11, F32o12, F32o13, F32b14, F32o15, F32c, F32, Val.pv_mk, push_cast, ↓reduceIte, qa, qb, qc, qd, qe, qf, qg, qh, qi]
    refine vc_over ([]) (fun m : Nat => [(5, .pv (.int .i64 (m : Int)))]) (fun m => []) (fun m => m ≤ w5.length) (fun m => w5.length - m) (0) ?_; intro e0 σ0 n0 h0; simp (disch := first | exact dI | fail) only [push_cast, ↓reduceIte, qa, qb, qc, qd, qe, qf, qg, qh, qi] at h0; obtain ⟨rfl, rfl, rfl⟩ := h0; refine ⟨?_, ?_, ?_⟩
    · simp (disch := first | exact dI | fail) only [push_cast, ↓reduceIte, qa, qb, qc, qd, qe, qf, qg, qh, qi]
    · omega
    · intro m hm
      by_cases hlt : m < w5.length
      · have hltI : (m : Int) < w5.length := by omega
        obtain ⟨x, hx⟩ : ∃ x, w5[m]? = some x := ⟨_, List.getElem?_eq_getElem hlt⟩
        have hcall := d4 x (List.mem_of_getElem? hx)
        obtain ⟨z1, z2, z3, z4, z5, z6⟩ := x
        simp only [Val.pv_mk] at hcall
        simp (disch := first | exact dI | fail) only [hx, Val.pv_mk, push_cast, ↓reduceIte, qa, qb, qc, qd, qe, qf, qg, qh, qi]
        refine ACall.pure hcall rfl ?_
        simp (disch := first | exact dI | fail) only [push_cast, ↓reduceIte, qa, qb, qc, qd, qe, qf, qg, qh, qi]
        exact ⟨m + 1, hd_z (by simp (disch := first | exact dI | fail) only [push_cast, ↓reduceIte, qa, qb, qc, qd, qe, qf, qg, qh, qi]), by omega, by omega⟩
      · have hltI : ¬ (m : Int) < w5.length := by omega
        simp (disch := first | exact dI | fail) only [push_cast, ↓reduceIte, qa, qb, qc, qd, qe, qf, qg, qh, qi]
        refine vc_over ([]) (fun m : Nat => [(6, .pv (.int .i64 (m : Int)))]) (fun m => []) (fun m => m ≤ w6.length) (fun m => w6.length - m) (0) ?_; intro e0 σ0 n0 h0; simp (disch := first | exact dI | fail) only [push_cast, ↓reduceIte, qa, qb, qc, qd, qe, qf, qg, qh, qi] at h0; obtain ⟨rfl, rfl, rfl⟩ := h0; refine ⟨?_, ?_, ?_⟩
        · simp (disch := first | exact dI | fail) only [push_cast, ↓reduceIte, qa, qb, qc, qd, qe, qf, qg, qh, qi]
        · omega
        · intro m hm
          by_cases hlt : m < w6.length
          · have hltI : (m : Int) < w6.length := by omega
            obtain ⟨x, hx⟩ : ∃ x, w6[m]? = some x := ⟨_, List.getElem?_eq_getElem hlt⟩
            have hcall := d5 x (List.mem_of_getElem? hx)
            obtain ⟨z0, ⟨z1, z2, z3, z4, z5, z6⟩⟩ := x
            simp only [Fld.value, Val.pv_mk] at hcall
            simp (disch := first | exact dI | fail) only [hx, Fld.pv_mk, Val.pv_mk, push_cast, ↓reduceIte, qa, qb, qc, qd, qe, qf, qg, qh, qi]
            refine ACall.pure hcall rfl ?_
            simp (disch := first | exact dI | fail) only [push_cast, ↓reduceIte, qa, qb, qc, qd, qe, qf, qg, qh, qi]
            exact ⟨m + 1, hd_z (by simp (disch := first | exact dI | fail) only [push_cast, ↓reduceIte, qa, qb, qc, qd, qe, qf, qg, qh, qi]), by omega, by omega⟩
          · have hltI : ¬ (m : Int) < w6.length := by omega
            simp (disch := first | exact dI | fail) only [push_cast, ↓reduceIte, qa, qb, qc, qd, qe, qf, qg, qh, qi]
end Go.Proofs.YtikmckfppnmlnaaDoor
