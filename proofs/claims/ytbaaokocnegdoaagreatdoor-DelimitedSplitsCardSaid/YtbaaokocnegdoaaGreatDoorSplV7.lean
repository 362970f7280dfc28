/- A part of the proof for DelimitedSplitsCardSaid. -/
import Derived.Test.YtbaaokocnegdoaaGreatDoorSplV6
set_option maxRecDepth 100000
set_option linter.unusedVariables false
set_option linter.unusedSimpArgs false
-- many steps
namespace Go.Proofs.YtbaaokocnegdoaaGreatDoor
open Go Go.Ab
open Nat renaming reduceEqDiff → qa, reduceAdd → qb, reduceMul → qc, reduceLeDiff → qd, reduceLT → qe, reduceBEq → qf, reduceSub → qg
open Int renaming reduceToNat → qh, reduceNeg → qi
attribute [local irreducible] vc
def celR (z : Cel × Nat) : PV := .agg [.str z.1.1, .bool z.1.2, .int .i64 (z.2 : Int)]
def resW : Res → PV
  | .err o e => .tup [.nils, .int .i64 (o : Int), .int .i64 e]
  | .ok C Pl => .tup [.list ((C.zip Pl).map celR), .int .i64 0, .int .i64 0]
theorem special70 (c sep : UInt8) : Pure Tryz.prog tabG 70 [.int .u8 (c.toNat : Int), .int .i64 (sep.toNat : Int)] (.bool (c == sep || bad c)) := by
  have hc := c.toNat_lt
  have hw := wrap_i64 (n := (c.toNat : Int)) (by omega) (by omega)
  refine Pure.intro F70_ok (by simp [F70]) ?_
  by_cases h0 : c = sep
  · subst h0
    rw [show (c == c || bad c) = true by simp]
    simp (maxSteps := 1000000) (disch := first | exact dI | fail) only [F70o0, F70o1, F70c, F70, hw, push_cast, ↓reduceIte, qa, qb, qc, qd, qe, qf, qg, qh, qi]
  have n0 : ¬ ((c.toNat : Int) = (sep.toNat : Int)) := fun h => h0 ((u8n c sep).1 h)
  by_cases h1 : c = 34
  · subst h1
    rw [show ((34 : UInt8) == sep || bad 34) = true by simp [bad]]
    simp (maxSteps := 1000000) (disch := first | exact dI | fail) only [F70o0, F70o1, F70c, F70, hw, n0, push_cast, ↓reduceIte, qa, qb, qc, qd, qe, qf, qg, qh, qi]
  have n1 := ne34 h1
  by_cases h2 : c = 13
  · subst h2
    rw [show ((13 : UInt8) == sep || bad 13) = true by simp [bad]]
    simp (maxSteps := 1000000) (disch := first | exact dI | fail) only [F70o0, F70o1, F70c, F70, hw, n0, push_cast, ↓reduceIte, qa, qb, qc, qd, qe, qf, qg, qh, qi]
  have n2 := ne13 h2
  by_cases h3 : c = 10
  · subst h3
    rw [show ((10 : UInt8) == sep || bad 10) = true by simp [bad]]
    simp (maxSteps := 1000000) (disch := first | exact dI | fail) only [F70o0, F70o1, F70c, F70, hw, n0, push_cast, ↓reduceIte, qa, qb, qc, qd, qe, qf, qg, qh, qi]
  have n3 := ne10 h3
  rw [show (c == sep || bad c) = false by simp [bad, h0, h1, h2, h3]]
  simp (maxSteps := 1000000) (disch := first | exact dI | fail) only [F70o0, F70o1, F70c, F70, hw, n0, n1, n2, n3, push_cast, ↓reduceIte, qa, qb, qc, qd, qe, qf, qg, qh, qi]
theorem zip_fs : ∀ Z : List (Cel × Nat), (Z.map Prod.fst).zip (Z.map Prod.snd) = Z
  | [] => rfl
  | z :: Z => by simp [zip_fs Z]
theorem resW_ok (Z : List (Cel × Nat)) (c : Cel) (a : Nat) : resW (.ok (Z.map Prod.fst ++ [c]) (Z.map Prod.snd ++ [a])) = .tup [.list (Z.map celR ++ [.agg [.str c.1, .bool c.2, .int .i64 (a : Int)]]), .int .i64 0, .int .i64 0] := by
  have := zip_fs (Z ++ [(c, a)])
  simp only [List.map_append, List.map_cons, List.map_nil] at this
  simp [resW, this, celR]
theorem fs_snoc (Z : List (Cel × Nat)) (c : Cel) (a : Nat) : (Z ++ [(c, a)]).map Prod.fst = Z.map Prod.fst ++ [c] ∧ (Z ++ [(c, a)]).map Prod.snd = Z.map Prod.snd ++ [a] := by simp
theorem one_at {L : List UInt8} {q : Nat} {c : UInt8} (h : L[q]? = some c) : List.drop q (List.take (q + 1) L) = [c] := by
  rw [List.drop_take, drop_at h]; simp
theorem split30 (L : List UInt8) (n : Int) : Pure Tryz.prog tabG 30 [.str L, .int .i64 n] (resW (splitN L n)) := by
  have hs := sep50 n
  unfold splitN
  generalize hb : sepB n = b at *
  refine Pure.intro F30_ok (by simp [F30]) ?_
  cases b with
  | false =>
    rw [if_neg (by simp)]
    simp (maxSteps := 1000000) (disch := first | exact dI | fail) only [F30o0, F30o1, F30o2, F30o3, F30o4, F30o5, F30o6, F30o7, F30o8, F30o9, F30o10, F30o11, F30o12, F30o13, F30o14, F30o15, F30o16, F30o17, F30o18, F30p18, F30o19, F30o20, F30o21, F30o22, F30o23, F30o24, F30b25, F30o26, F30o27, F30o28, F30o29, F30o30, F30o31, F30p31, F30o32, F30b33, F30o34, F30o35, F30o36, F30o37, F30b38, F30c, F30, resW, push_cast, ↓reduceIte, qa, qb, qc, qd, qe, qf, qg, qh, qi]
    refine ACall.pure hs rfl ?_
    simp (maxSteps := 1000000) (disch := first | exact dI | fail) only [push_cast, ↓reduceIte, qa, qb, qc, qd, qe, qf, qg, qh, qi]
  | true =>
    have hn : 0 ≤ n ∧ n < 128 := by unfold sepB at hb; simp at hb; omega
    by_cases hL : 65536 < L.length
    · simp only [if_true, hL]
      simp (maxSteps := 1000000) (disch := first | exact dI | fail) only [F30o0, F30o1, F30o2, F30o3, F30o4, F30o5, F30o6, F30o7, F30o8, F30o9, F30o10, F30o11, F30o12, F30o13, F30o14, F30o15, F30o16, F30o17, F30o18, F30p18, F30o19, F30o20, F30o21, F30o22, F30o23, F30o24, F30b25, F30o26, F30o27, F30o28, F30o29, F30o30, F30o31, F30p31, F30o32, F30b33, F30o34, F30o35, F30o36, F30o37, F30b38, F30c, F30, resW, push_cast, ↓reduceIte, qa, qb, qc, qd, qe, qf, qg, qh, qi]
      refine ACall.pure hs rfl ?_
      simp (maxSteps := 1000000) (disch := first | exact dI | fail) only [push_cast, ↓reduceIte, qa, qb, qc, qd, qe, qf, qg, qh, qi]
    · simp only [if_true, hL, if_false]
      obtain ⟨sep, hsep⟩ : ∃ sep, sep = n.toNat.toUInt8 := ⟨_, rfl⟩
      have hse : n = (sep.toNat : Int) := by rw [hsep]; simp; omega
      rw [← hsep]
      subst hse
      obtain ⟨R, hR⟩ : ∃ R, R = Ab.runN L sep 0 [] [] := ⟨_, rfl⟩
      rw [← hR]
      simp (maxSteps := 1000000) (disch := first | exact dI | fail) only [F30o0, F30o1, F30o2, F30o3, F30o4, F30o5, F30o6, F30o7, F30o8, F30o9, F30o10, F30o11, F30o12, F30o13, F30o14, F30o15, F30o16, F30o17, F30o18, F30p18, F30o19, F30o20, F30o21, F30o22, F30o23, F30o24, F30b25, F30o26, F30o27, F30o28, F30o29, F30o30, F30o31, F30p31, F30o32, F30b33, F30o34, F30o35, F30o36, F30o37, F30b38, F30c, F30, push_cast, ↓reduceIte, qa, qb, qc, qd, qe, qf, qg, qh, qi]
      refine ACall.pure hs rfl ?_
      simp (maxSteps := 1000000) (disch := first | exact dI | fail) only [push_cast, ↓reduceIte, qa, qb, qc, qd, qe, qf, qg, qh, qi]
      refine vc_over ([(7, 0, 101, 3)]) (fun y : List (Cel × Nat) × Nat => [(7, .olist 0 3 (y.1.map celR)), (8, .pv (.int .i64 (y.2 : Int)))]) (fun y => []) (fun y => y.2 ≤ L.length ∧ y.1.length ≤ 64 ∧ R = Ab.runN L sep y.2 (y.1.map Prod.fst) (y.1.map Prod.snd)) (fun y => L.length - y.2) (([], 0)) ?_; intro e0 σ0 n0 h0; simp (maxSteps := 1000000) (disch := first | exact dI | fail) only [push_cast, ↓reduceIte, qa, qb, qc, qd, qe, qf, qg, qh, qi] at h0; obtain ⟨rfl, rfl, rfl⟩ := h0; refine ⟨?_, ?_, ?_⟩
      · simp (maxSteps := 1000000) (disch := first | exact dI | fail) only [push_cast, ↓reduceIte, qa, qb, qc, qd, qe, qf, qg, qh, qi]
      · exact ⟨by simp, by simp, by simp [hR]⟩
      · rintro ⟨Z, a⟩ ⟨h1, h2, h3⟩
        simp only at h1 h2 h3
        rw [Ab.runN_eq h1] at h3
        by_cases h64 : Z.length = 64
        · rw [if_pos (by simpa using h64)] at h3
          rw [h3]
          simp (maxSteps := 1000000) (disch := first | exact dI | fail) only [resW, push_cast, ↓reduceIte, qa, qb, qc, qd, qe, qf, qg, qh, qi]
        · rw [if_neg (by simpa using h64)] at h3
          by_cases hq : L[a]? = some 34
          · rw [cellN, if_pos hq] at h3
            have hlt := (List.getElem?_eq_some_iff.1 hq).1
            obtain ⟨T, hT⟩ : ∃ T, T = (scanQ (L.drop (a + 1))).map (qpre [] (a + 1)) := ⟨_, rfl⟩
            have hQ : quotN L sep (a + 1) = closeN L sep T := by rw [quotN, hT]
            rw [hQ] at h3
            simp (maxSteps := 1000000) (disch := first | exact dI | fail) only [hq, byteO_some, push_cast, ↓reduceIte, qa, qb, qc, qd, qe, qf, qg, qh, qi]
            refine vc_over ([]) (fun y : List UInt8 × Nat × Bool => [(8, .pv (.int .i64 (y.2.1 : Int))), (10, .pv (.bool y.2.2))]) (fun y => [(1, .cells 101 true [.pv (.str y.1), .pv (.bool true), .pv (.int .i64 (a : Int))])]) (fun y => a < y.2.1 ∧ y.2.1 ≤ L.length ∧ y.1.length ≤ y.2.1 ∧ T = (if y.2.2 = true then some (y.1, y.2.1) else (scanQ (L.drop y.2.1)).map (qpre y.1 y.2.1))) (fun y => 2 * (L.length - y.2.1) + (if y.2.2 = true then 0 else 1)) (([], a + 1, false)) ?_; intro e0 σ0 n0 h0; simp (maxSteps := 1000000) (disch := first | exact dI | fail) only [push_cast, ↓reduceIte, qa, qb, qc, qd, qe, qf, qg, qh, qi] at h0; obtain ⟨rfl, rfl, rfl⟩ := h0; refine ⟨?_, ?_, ?_⟩
            · simp (maxSteps := 1000000) (disch := first | exact dI | fail) only [push_cast, ↓reduceIte, qa, qb, qc, qd, qe, qf, qg, qh, qi]
            · exact ⟨by simp, by simp only; omega, by simp, by simp [hT]⟩
            · rintro ⟨t, q, d⟩ ⟨g1, g2, g3, g4⟩
              simp only at g1 g2 g3 g4
              cases d with
              | true =>
                simp only [if_true] at g4
                rw [g4] at h3
                have hc3 : (∃ c3, L[q]? = some c3 ∧ True) ∨ L.length ≤ q := by
                  by_cases h : q < L.length
                  · exact .inl ⟨_, List.getElem?_eq_getElem h, trivial⟩
                  · exact .inr (by omega)
                rcases hc3 with ⟨c3, hc3, -⟩ | hc3
                · have hlt2 := (List.getElem?_eq_some_iff.1 hc3).1
                  have hc3l := c3.toNat_lt
                  have hwi := wrap_i64 (n := (c3.toNat : Int)) (by omega) (by omega)
                  by_cases hs3 : c3 = sep
                  · subst hs3
                    simp only [closeN, hc3, if_true, contN, endN, if_neg (show ¬ L.length ≤ q by omega)] at h3
                    simp (maxSteps := 1000000) (disch := first | exact dI | fail) only [hc3, byteO_some, hwi, push_cast, ↓reduceIte, qa, qb, qc, qd, qe, qf, qg, qh, qi]
                    exact ⟨(Z ++ [((t, true), a)], q + 1), hd_z (by simp (maxSteps := 1000000) (disch := first | exact dI | fail) only [List.map_append, celR, push_cast, ↓reduceIte, qa, qb, qc, qd, qe, qf, qg, qh, qi]), ⟨by simp only; omega, by simp; omega, by rw [h3, (fs_snoc ..).1, (fs_snoc ..).2]⟩, by simp only; omega⟩
                  · have hne : ¬ ((c3.toNat : Int) = (sep.toNat : Int)) := fun h => hs3 ((u8n c3 sep).1 h)
                    simp only [closeN, hc3, if_neg hs3, contN] at h3
                    rw [h3]
                    simp (maxSteps := 1000000) (disch := first | exact dI | fail) only [hc3, byteO_some, hwi, resW, hne, push_cast, ↓reduceIte, qa, qb, qc, qd, qe, qf, qg, qh, qi]
                · have hge : L[q]? = none := List.getElem?_eq_none hc3
                  simp only [closeN, hge, contN, endN, if_pos hc3] at h3
                  rw [h3, resW_ok]
                  simp (maxSteps := 1000000) (disch := first | exact dI | fail) only [push_cast, ↓reduceIte, qa, qb, qc, qd, qe, qf, qg, qh, qi]
              | false =>
                simp only [Bool.false_eq_true, if_false] at g4
                by_cases hql : q < L.length
                · obtain ⟨c, hcc⟩ : ∃ c, L[q]? = some c := ⟨_, List.getElem?_eq_getElem hql⟩
                  have hd := drop_at hcc
                  have ho := one_at hcc
                  by_cases hc4 : c = 34
                  · subst hc4
                    rw [hd, scanQ_at, quoM] at g4
                    by_cases hq1 : L[q + 1]? = some 34
                    · have hlt1 := (List.getElem?_eq_some_iff.1 hq1).1
                      rw [if_pos (by simpa using hq1), List.drop_drop] at g4
                      have gT : T = (scanQ (L.drop (q + 1 + 1))).map (qpre (t ++ [34]) (q + 1 + 1)) := by
                        rw [g4]
                        cases scanQ (L.drop (q + 1 + 1)) with
                        | none => rfl
                        | some z => simp [qpre, qcons]; omega
                      obtain ⟨q1, hq1e⟩ : ∃ q1, q1 = q + 1 := ⟨_, rfl⟩
                      have ec : (q : Int) + 1 = (q1 : Int) := by omega
                      have ec2 : (q : Int) + 2 = (q1 : Int) + 1 := by omega
                      rw [← hq1e] at hq1 gT
                      simp (maxSteps := 1000000) (disch := first | exact dI | fail) only [hcc, byteO_some, ec, hq1, push_cast, ↓reduceIte, qa, qb, qc, qd, qe, qf, qg, qh, qi]
                      exact ⟨(t ++ [34], q1 + 1, false), hd_z (by simp (maxSteps := 1000000) (disch := first | exact dI | fail) only [ec2, push_cast, ↓reduceIte, qa, qb, qc, qd, qe, qf, qg, qh, qi]), ⟨by simp only; omega, by simp only; omega, by simp; omega, by simpa using gT⟩, by simp; omega⟩
                    · rw [if_neg (by simpa using hq1)] at g4
                      have gT : T = some (t, q + 1) := by rw [g4]; simp [qpre]
                      have hc5 : (∃ c5, L[q + 1]? = some c5 ∧ c5 ≠ 34) ∨ L.length ≤ q + 1 := by
                        by_cases h : q + 1 < L.length
                        · exact .inl ⟨_, List.getElem?_eq_getElem h, fun h5 => hq1 (by rw [List.getElem?_eq_getElem h, h5])⟩
                        · exact .inr (by omega)
                      rcases hc5 with ⟨c5, hc5, hn5⟩ | hc5
                      · have hlt1 := (List.getElem?_eq_some_iff.1 hc5).1
                        have n5 := ne34 hn5
                        obtain ⟨q1, hq1e⟩ : ∃ q1, q1 = q + 1 := ⟨_, rfl⟩
                        have ec : (q : Int) + 1 = (q1 : Int) := by omega
                        rw [← hq1e] at hc5 gT
                        simp (maxSteps := 1000000) (disch := first | exact dI | fail) only [hcc, byteO_some, ec, hc5, n5, push_cast, ↓reduceIte, qa, qb, qc, qd, qe, qf, qg, qh, qi]
                        exact ⟨(t, q1, true), hd_z (by simp (maxSteps := 1000000) (disch := first | exact dI | fail) only [push_cast, ↓reduceIte, qa, qb, qc, qd, qe, qf, qg, qh, qi]), ⟨by simp only; omega, by simp only; omega, by simp; omega, by simpa using gT⟩, by simp; omega⟩
                      · simp (maxSteps := 1000000) (disch := first | exact dI | fail) only [hcc, byteO_some, push_cast, ↓reduceIte, qa, qb, qc, qd, qe, qf, qg, qh, qi]
                        exact ⟨(t, q + 1, true), hd_z (by simp (maxSteps := 1000000) (disch := first | exact dI | fail) only [push_cast, ↓reduceIte, qa, qb, qc, qd, qe, qf, qg, qh, qi]), ⟨by simp only; omega, by simp only; omega, by simp; omega, by simpa using gT⟩, by simp; omega⟩
                  · have n4 := ne34 hc4
                    rw [hd, scanQ_ne hc4] at g4
                    have gT : T = (scanQ (L.drop (q + 1))).map (qpre (t ++ [c]) (q + 1)) := by
                      rw [g4]
                      cases scanQ (L.drop (q + 1)) with
                      | none => rfl
                      | some z => simp [qpre, qcons]; omega
                    simp (maxSteps := 1000000) (disch := first | exact dI | fail) only [hcc, byteO_some, n4, ho, push_cast, ↓reduceIte, qa, qb, qc, qd, qe, qf, qg, qh, qi]
                    exact ⟨(t ++ [c], q + 1, false), hd_z (by simp (maxSteps := 1000000) (disch := first | exact dI | fail) only [push_cast, ↓reduceIte, qa, qb, qc, qd, qe, qf, qg, qh, qi]), ⟨by simp only; omega, by simp only; omega, by simp; omega, by simpa using gT⟩, by simp; omega⟩
                · have gT : T = none := by rw [g4, List.drop_eq_nil_of_le (by omega)]; rfl
                  simp only [gT, closeN, contN] at h3
                  rw [h3]
                  simp (maxSteps := 1000000) (disch := first | exact dI | fail) only [resW, push_cast, ↓reduceIte, qa, qb, qc, qd, qe, qf, qg, qh, qi]
          · rw [cellN, if_neg hq] at h3
            have hc0 : (∃ c0, L[a]? = some c0 ∧ c0 ≠ 34) ∨ L.length ≤ a := by
              by_cases h : a < L.length
              · exact .inl ⟨_, List.getElem?_eq_getElem h, fun h5 => hq (by rw [List.getElem?_eq_getElem h, h5])⟩
              · exact .inr (by omega)
            rcases hc0 with ⟨c0, hc0, hn0⟩ | hc0
            · have hlt := (List.getElem?_eq_some_iff.1 hc0).1
              have n0 := ne34 hn0
              simp (maxSteps := 1000000) (disch := first | exact dI | fail) only [hc0, byteO_some, n0, push_cast, ↓reduceIte, qa, qb, qc, qd, qe, qf, qg, qh, qi]
              refine vc_over ([]) (fun y : List UInt8 × Nat => [(8, .pv (.int .i64 (y.2 : Int)))]) (fun y => [(1, .cells 101 true [.pv (.str y.1), .pv (.bool false), .pv (.int .i64 (a : Int))])]) (fun y => a ≤ y.2 ∧ y.2 ≤ L.length ∧ y.1 = (L.drop a).take (y.2 - a) ∧ scanP sep (L.drop a) = (y.2 - a + (scanP sep (L.drop y.2)).1, (scanP sep (L.drop y.2)).2)) (fun y => L.length - y.2) (([], a)) ?_; intro e0 σ0 n0 h0; simp (maxSteps := 1000000) (disch := first | exact dI | fail) only [push_cast, ↓reduceIte, qa, qb, qc, qd, qe, qf, qg, qh, qi] at h0; obtain ⟨rfl, rfl, rfl⟩ := h0; refine ⟨?_, ?_, ?_⟩
              · simp (maxSteps := 1000000) (disch := first | exact dI | fail) only [push_cast, ↓reduceIte, qa, qb, qc, qd, qe, qf, qg, qh, qi]
              · exact ⟨by simp, h1, by simp, by simp⟩
              · rintro ⟨t, q⟩ ⟨g1, g2, g3, g4⟩
                simp only at g1 g2 g3 g4
                have htl : t.length ≤ L.length := by rw [g3]; simp; omega
                by_cases hql : q < L.length
                · obtain ⟨c, hcc⟩ : ∃ c, L[q]? = some c := ⟨_, List.getElem?_eq_getElem hql⟩
                  have hcl := c.toNat_lt
                  have hwi := wrap_i64 (n := (c.toNat : Int)) (by omega) (by omega)
                  have hd := drop_at hcc
                  have ho := one_at hcc
                  by_cases hsc : c = sep
                  · subst hsc
                    have hp : plainN L c a = .ok (t, false) q := by
                      unfold plainN; rw [g4, hd, g3]; simp [scanP]; omega
                    simp only [hp, contN, endN, if_neg (show ¬ L.length ≤ q by omega)] at h3
                    simp (maxSteps := 1000000) (disch := first | exact dI | fail) only [hcc, byteO_some, hwi, push_cast, ↓reduceIte, qa, qb, qc, qd, qe, qf, qg, qh, qi]
                    exact ⟨(Z ++ [((t, false), a)], q + 1), hd_z (by simp (maxSteps := 1000000) (disch := first | exact dI | fail) only [List.map_append, celR, push_cast, ↓reduceIte, qa, qb, qc, qd, qe, qf, qg, qh, qi]), ⟨by simp only; omega, by simp; omega, by rw [h3, (fs_snoc ..).1, (fs_snoc ..).2]⟩, by simp only; omega⟩
                  · have hne : ¬ ((c.toNat : Int) = (sep.toNat : Int)) := fun h => hsc ((u8n c sep).1 h)
                    have h70 := special70 c sep
                    by_cases hbd : bad c = true
                    · have hp : plainN L sep a = .err q 6 := by
                        unfold plainN; rw [g4, hd]; simp [scanP, hsc, hbd]; omega
                      simp only [hp, contN] at h3
                      rw [h3]
                      rw [show (c == sep || bad c) = true by simp [hbd]] at h70
                      simp (maxSteps := 1000000) (disch := first | exact dI | fail) only [hcc, byteO_some, hwi, hne, push_cast, ↓reduceIte, qa, qb, qc, qd, qe, qf, qg, qh, qi]
                      refine ACall.pure h70 rfl ?_
                      simp (maxSteps := 1000000) (disch := first | exact dI | fail) only [resW, push_cast, ↓reduceIte, qa, qb, qc, qd, qe, qf, qg, qh, qi]
                    · have gn : scanP sep (L.drop a) = (q + 1 - a + (scanP sep (L.drop (q + 1))).1, (scanP sep (L.drop (q + 1))).2) := by
                        rw [g4, hd]; simp [scanP, hsc, hbd]; omega
                      have gt : t ++ [c] = (L.drop a).take (q + 1 - a) := by
                        rw [g3, show q + 1 - a = (q - a) + 1 by omega, List.take_add_one, List.getElem?_drop, show a + (q - a) = q by omega, hcc]; rfl
                      rw [show (c == sep || bad c) = false by simp [hsc, hbd]] at h70
                      simp (maxSteps := 1000000) (disch := first | exact dI | fail) only [hcc, byteO_some, hwi, hne, push_cast, ↓reduceIte, qa, qb, qc, qd, qe, qf, qg, qh, qi]
                      refine ACall.pure h70 rfl ?_
                      simp (maxSteps := 1000000) (disch := first | exact dI | fail) only [hcc, byteO_some, ho, push_cast, ↓reduceIte, qa, qb, qc, qd, qe, qf, qg, qh, qi]
                      exact ⟨(t ++ [c], q + 1), hd_z (by simp (maxSteps := 1000000) (disch := first | exact dI | fail) only [push_cast, ↓reduceIte, qa, qb, qc, qd, qe, qf, qg, qh, qi]), ⟨by simp only; omega, by simp only; omega, by simpa using gt, by simpa using gn⟩, by simp only; omega⟩
                · have hd : L.drop q = [] := List.drop_eq_nil_of_le (by omega)
                  have hp : plainN L sep a = .ok (t, false) q := by
                    unfold plainN; rw [g4, hd, g3]; simp [scanP]; omega
                  simp only [hp, contN, endN, if_pos (show L.length ≤ q by omega)] at h3
                  rw [h3, resW_ok]
                  simp (maxSteps := 1000000) (disch := first | exact dI | fail) only [push_cast, ↓reduceIte, qa, qb, qc, qd, qe, qf, qg, qh, qi]
            · simp (maxSteps := 1000000) (disch := first | exact dI | fail) only [push_cast, ↓reduceIte, qa, qb, qc, qd, qe, qf, qg, qh, qi]
              refine vc_over ([]) (fun y : List UInt8 × Nat => [(8, .pv (.int .i64 (y.2 : Int)))]) (fun y => [(1, .cells 101 true [.pv (.str y.1), .pv (.bool false), .pv (.int .i64 (a : Int))])]) (fun y => y = ([], a)) (fun y => L.length - y.2) (([], a)) ?_; intro e0 σ0 n0 h0; simp (maxSteps := 1000000) (disch := first | exact dI | fail) only [push_cast, ↓reduceIte, qa, qb, qc, qd, qe, qf, qg, qh, qi] at h0; obtain ⟨rfl, rfl, rfl⟩ := h0; refine ⟨?_, ?_, ?_⟩
              · simp (maxSteps := 1000000) (disch := first | exact dI | fail) only [push_cast, ↓reduceIte, qa, qb, qc, qd, qe, qf, qg, qh, qi]
              · rfl
              · rintro ⟨t, q⟩ g
                cases g
                have hd : L.drop a = [] := List.drop_eq_nil_of_le (by omega)
                have hp : plainN L sep a = .ok ([], false) a := by
                  unfold plainN; rw [hd]; simp [scanP]
                simp only [hp, contN, endN, if_pos hc0] at h3
                rw [h3, resW_ok]
                simp (maxSteps := 1000000) (disch := first | exact dI | fail) only [push_cast, ↓reduceIte, qa, qb, qc, qd, qe, qf, qg, qh, qi]
end Go.Proofs.YtbaaokocnegdoaaGreatDoor
