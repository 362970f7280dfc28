/- A part of the proof for DelimitedSplitsCardSaid. -/
import Derived.Test.YtbaaokocnegdoaaGreatDoorSplV7
set_option maxRecDepth 100000
set_option linter.unusedVariables false
set_option linter.unusedSimpArgs false
namespace Go.Proofs.YtbaaokocnegdoaaGreatDoor
open Go Go.Ab
open Nat renaming reduceEqDiff → qa, reduceAdd → qb, reduceMul → qc, reduceLeDiff → qd, reduceLT → qe, reduceBEq → qf, reduceSub → qg
open Int renaming reduceToNat → qh, reduceNeg → qi
attribute [local irreducible] vc
theorem same29 (Z : List (Cel × Nat)) (hZ : Z.length ≤ 1000) : Pure Tryz.prog tabG 29 [.list ((Z.map Prod.fst).map celP), .list (Z.map celR)] (.bool true) := by
  refine Pure.intro F29_ok (by simp [F29]) ?_
  simp (disch := first | exact dI | fail) only [F29o0, F29o1, F29o2, F29o3, F29o4, F29o5, F29p5, F29o6, F29o7, F29b8, F29o9, F29c, F29, push_cast, ↓reduceIte, qa, qb, qc, qd, qe, qf, qg, qh, qi]
  refine vc_over ([]) (fun i : Nat => [(5, .pv (.int .i64 (i : Int)))]) (fun _ => []) (fun i => i ≤ Z.length) (fun i => Z.length - i) (0) ?_; intro e0 σ0 n0 h0; simp (disch := first | exact dI | fail) only [push_cast, ↓reduceIte, qa, qb, qc, qd, qe, qf, qg, qh, qi] at h0; obtain ⟨rfl, rfl, rfl⟩ := h0; refine ⟨?_, ?_, ?_⟩
  · simp (disch := first | exact dI | fail) only [push_cast, ↓reduceIte, qa, qb, qc, qd, qe, qf, qg, qh, qi]
  · omega
  intro i hi
  by_cases hlt : i < Z.length
  · obtain ⟨x, hx⟩ : ∃ x, Z[i]? = some x := ⟨_, List.getElem?_eq_getElem hlt⟩
    obtain ⟨⟨t, q⟩, a⟩ := x
    have h1 : ((Z.map Prod.fst).map celP)[i]? = some (.agg [.str t, .bool q]) := by simp [hx, celP]
    have h2 : (Z.map celR)[i]? = some (.agg [.str t, .bool q, .int .i64 (a : Int)]) := by simp [hx, celR]
    cases q with
    | true =>
      simp (disch := first | exact dI | fail) only [h1, h2, beq_self_eq_true, Bool.not_true, push_cast, ↓reduceIte, qa, qb, qc, qd, qe, qf, qg, qh, qi]
      exact ⟨i + 1, hd_z (by simp (disch := first | exact dI | fail) only [push_cast, ↓reduceIte, qa, qb, qc, qd, qe, qf, qg, qh, qi]), by omega, by omega⟩
    | false =>
      simp (disch := first | exact dI | fail) only [h1, h2, beq_self_eq_true, Bool.not_true, push_cast, ↓reduceIte, qa, qb, qc, qd, qe, qf, qg, qh, qi]
      exact ⟨i + 1, hd_z (by simp (disch := first | exact dI | fail) only [push_cast, ↓reduceIte, qa, qb, qc, qd, qe, qf, qg, qh, qi]), by omega, by omega⟩
  · simp (disch := first | exact dI | fail) only [push_cast, ↓reduceIte, qa, qb, qc, qd, qe, qf, qg, qh, qi]
theorem same29_nil : Pure Tryz.prog tabG 29 [.nils, .nils] (.bool true) := by
  refine Pure.intro F29_ok (by simp [F29]) ?_
  simp (disch := first | exact dI | fail) only [F29o0, F29o1, F29o2, F29o3, F29o4, F29o5, F29p5, F29o6, F29o7, F29b8, F29o9, F29c, F29, push_cast, ↓reduceIte, qa, qb, qc, qd, qe, qf, qg, qh, qi]
  refine vc_over ([]) (fun i : Nat => [(5, .pv (.int .i64 (i : Int)))]) (fun _ => []) (fun i => i = 0) (fun i => i) (0) ?_; intro e0 σ0 n0 h0; simp (disch := first | exact dI | fail) only [push_cast, ↓reduceIte, qa, qb, qc, qd, qe, qf, qg, qh, qi] at h0; obtain ⟨rfl, rfl, rfl⟩ := h0; refine ⟨?_, ?_, ?_⟩
  · simp (disch := first | exact dI | fail) only [push_cast, ↓reduceIte, qa, qb, qc, qd, qe, qf, qg, qh, qi]
  · rfl
  rintro i rfl
  simp (disch := first | exact dI | fail) only [push_cast, ↓reduceIte, qa, qb, qc, qd, qe, qf, qg, qh, qi]
theorem hasT_str {t : TypeId} {p : PV} (h : HasT Tryz.prog t p) (hu : Tryz.prog.underlying t = some .string) : ∃ s : List UInt8, p = .str s := by
  cases h with
  | int _ k' n hk hw => rw [hu] at hk; cases hk
  | bool _ b hb => rw [hu] at hb; cases hb
  | str _ s hb => exact ⟨s, rfl⟩
  | list _ e l hb => rw [hu] at hb; cases hb
  | agg _ fs cs hb => rw [hu] at hb; cases hb
  | arr _ e n cs hb => rw [hu] at hb; cases hb
def okR : Res → Prop
  | .err _ _ => True
  | .ok C Pl => C.length = Pl.length ∧ C.length ≤ 64
theorem zip_eq : ∀ {C : List Cel} {Pl : List Nat}, C.length = Pl.length → C = (C.zip Pl).map Prod.fst
  | [], [], _ => rfl
  | c :: C, p :: Pl, h => by
    simp only [List.zip_cons_cons, List.map_cons]
    rw [← zip_eq (by simpa using h)]
theorem runN_ok (L : List UInt8) (sep : UInt8) : ∀ (n a : Nat) (C : List Cel) (Pl : List Nat), L.length - a ≤ n → a ≤ L.length → C.length = Pl.length → C.length ≤ 64 → okR (Ab.runN L sep a C Pl)
  | n, a, C, Pl, hn, ha, h1, h2 => by
    rw [Ab.runN_eq ha]
    split
    · trivial
    · cases h : cellN L sep a with
      | err o e => trivial
      | ok c a' =>
        have hb := cellN_ok ha h
        simp only [contN, endN]
        split
        · exact ⟨by simp [h1], by simp; omega⟩
        · cases n with
          | zero => omega
          | succ n => exact runN_ok L sep n (a' + 1) _ _ (by omega) (by omega) (by simp [h1]) (by simp; omega)
theorem splitN_ok (L : List UInt8) (n : Int) : okR (splitN L n) := by
  unfold splitN
  split
  · split
    · trivial
    · exact runN_ok L _ _ 0 [] [] (Nat.le_refl _) (by omega) rfl (by simp)
  · trivial
theorem splits_law (s : List UInt8) (n : Int) : Pure Tryz.prog tabG 9 [.str s, .int .i64 n] (.bool true) := by
  have h28 := split28 (s.take 400) n
  have h30 := split30 (s.take 400) n
  have hok := splitN_ok (s.take 400) n
  generalize splitN (s.take 400) n = R at *
  refine Pure.intro F9_ok (by simp [F9]) ?_
  have hmin : s.length ≤ 400 ∧ s.take 400 = s ∨ 400 < s.length := by
    by_cases h : s.length ≤ 400
    · exact .inl ⟨h, List.take_of_length_le h⟩
    · exact .inr (by omega)
  cases R with
  | err o e =>
    simp only [resC] at h28
    simp only [resW] at h30
    rcases hmin with ⟨hm, ht⟩ | hm
    · simp (disch := first | exact dI | fail) only [F9o0, F9o1, F9o2, F9o3, F9o4, F9c, F9, List.take_length, push_cast, ↓reduceIte, qa, qb, qc, qd, qe, qf, qg, qh, qi]
      refine ACall.pure h28 rfl ?_
      simp (disch := first | exact dI | fail) only [push_cast, ↓reduceIte, qa, qb, qc, qd, qe, qf, qg, qh, qi]
      refine ACall.pure h30 rfl ?_
      simp (disch := first | exact dI | fail) only [push_cast, ↓reduceIte, qa, qb, qc, qd, qe, qf, qg, qh, qi]
      refine ACall.pure known_ok rfl ?_
      simp (disch := first | exact dI | fail) only [push_cast, ↓reduceIte, qa, qb, qc, qd, qe, qf, qg, qh, qi]
      refine ACall.pure same29_nil rfl ?_
      simp (disch := first | exact dI | fail) only [push_cast, ↓reduceIte, qa, qb, qc, qd, qe, qf, qg, qh, qi]
    · simp (disch := first | exact dI | fail) only [F9o0, F9o1, F9o2, F9o3, F9o4, F9c, F9, push_cast, ↓reduceIte, qa, qb, qc, qd, qe, qf, qg, qh, qi]
      refine ACall.pure h28 rfl ?_
      simp (disch := first | exact dI | fail) only [push_cast, ↓reduceIte, qa, qb, qc, qd, qe, qf, qg, qh, qi]
      refine ACall.pure h30 rfl ?_
      simp (disch := first | exact dI | fail) only [push_cast, ↓reduceIte, qa, qb, qc, qd, qe, qf, qg, qh, qi]
      refine ACall.pure known_ok rfl ?_
      simp (disch := first | exact dI | fail) only [push_cast, ↓reduceIte, qa, qb, qc, qd, qe, qf, qg, qh, qi]
      refine ACall.pure same29_nil rfl ?_
      simp (disch := first | exact dI | fail) only [push_cast, ↓reduceIte, qa, qb, qc, qd, qe, qf, qg, qh, qi]
  | ok C Pl =>
    have h29 := same29 (C.zip Pl) (by have := hok.2; simp; omega)
    rw [← zip_eq hok.1] at h29
    simp only [resC] at h28
    simp only [resW] at h30
    rcases hmin with ⟨hm, ht⟩ | hm
    · simp (disch := first | exact dI | fail) only [F9o0, F9o1, F9o2, F9o3, F9o4, F9c, F9, List.take_length, push_cast, ↓reduceIte, qa, qb, qc, qd, qe, qf, qg, qh, qi]
      refine ACall.pure h28 rfl ?_
      simp (disch := first | exact dI | fail) only [push_cast, ↓reduceIte, qa, qb, qc, qd, qe, qf, qg, qh, qi]
      refine ACall.pure h30 rfl ?_
      simp (disch := first | exact dI | fail) only [push_cast, ↓reduceIte, qa, qb, qc, qd, qe, qf, qg, qh, qi]
      refine ACall.pure known_ok rfl ?_
      simp (disch := first | exact dI | fail) only [push_cast, ↓reduceIte, qa, qb, qc, qd, qe, qf, qg, qh, qi]
      refine ACall.pure h29 rfl ?_
      simp (disch := first | exact dI | fail) only [push_cast, ↓reduceIte, qa, qb, qc, qd, qe, qf, qg, qh, qi]
    · simp (disch := first | exact dI | fail) only [F9o0, F9o1, F9o2, F9o3, F9o4, F9c, F9, push_cast, ↓reduceIte, qa, qb, qc, qd, qe, qf, qg, qh, qi]
      refine ACall.pure h28 rfl ?_
      simp (disch := first | exact dI | fail) only [push_cast, ↓reduceIte, qa, qb, qc, qd, qe, qf, qg, qh, qi]
      refine ACall.pure h30 rfl ?_
      simp (disch := first | exact dI | fail) only [push_cast, ↓reduceIte, qa, qb, qc, qd, qe, qf, qg, qh, qi]
      refine ACall.pure known_ok rfl ?_
      simp (disch := first | exact dI | fail) only [push_cast, ↓reduceIte, qa, qb, qc, qd, qe, qf, qg, qh, qi]
      refine ACall.pure h29 rfl ?_
      simp (disch := first | exact dI | fail) only [push_cast, ↓reduceIte, qa, qb, qc, qd, qe, qf, qg, qh, qi]
theorem splits_of (p0 p1 : PV) (h0 : HasT Tryz.prog 9 p0) (h1 : HasT Tryz.prog 3 p1) : Pure Tryz.prog tabG 9 [p0, p1] (.bool true) := by
  obtain ⟨s, rfl⟩ := hasT_str h0 (by kernel_rfl)
  obtain ⟨n, rfl, hn⟩ := hasT_int h1 (k := .i64) (by kernel_rfl)
  exact splits_law s n
end Go.Proofs.YtbaaokocnegdoaaGreatDoor
