/- A part of the proof for DelimitedJoinsCardSaid. -/
import Derived.Test.YtbaaokocnegdoaaGreatDoorJoiV18
import Derived.Test.YtbaaokocnegdoaaGreatDoorJoiV16
import Derived.Test.YtbaaokocnegdoaaGreatDoorJoiV10
set_option maxRecDepth 100000
set_option linter.unusedVariables false
set_option linter.unusedSimpArgs false
-- many steps
namespace Go.Proofs.YtbaaokocnegdoaaGreatDoor
open Go Go.Ab
open Nat renaming reduceEqDiff → qa, reduceAdd → qb, reduceMul → qc, reduceLeDiff → qd, reduceLT → qe, reduceBEq → qf, reduceSub → qg
open Int renaming reduceToNat → qh, reduceNeg → qi
attribute [local irreducible] vc
theorem fst_celZ (C : List Cel) : (C.map celZ).map Prod.fst = C := by
  rw [List.map_map]
  conv => rhs; rw [← List.map_id C]
  rfl
theorem sep_ne {n : Int} (h : sepB n = true) : n = ((n.toNat.toUInt8).toNat : Int) ∧ n.toNat.toUInt8 ≠ 34 := by
  have hn : 0 ≤ n ∧ n < 128 ∧ n ≠ 34 := by unfold sepB at h; simp at h; omega
  have e : ((n.toNat.toUInt8).toNat : Int) = n := by simp; omega
  refine ⟨e.symm, fun h4 => ?_⟩
  rw [h4] at e
  have : ((34 : UInt8).toNat : Int) = 34 := rfl
  omega
theorem join26D (m : Int) (D : List Cel) (n : Int) (hD : ∀ c, c ∈ D → c.1.length ≤ 70000) :
    Pure Tryz.prog (tabM m) 26 [.list (D.map celP), .int .i64 n] (.tup [.str (joinN (sepB n) n.toNat.toUInt8 D).1, .int .i64 (joinN (sepB n) n.toNat.toUInt8 D).2]) := by
  refine join26M m D n n.toNat.toUInt8 (fun h => (sep_ne h).1) hD ?_ ?_
  · intro hs c hc _
    obtain ⟨h1, h2⟩ := sep_ne hs
    rw [← contains_spc]
    have hb : sepB ((n.toNat.toUInt8).toNat : Int) = true := by rw [← h1]; exact hs
    have hn : n < 128 := by unfold sepB at hs; simp at hs; omega
    have h128 : (n.toNat.toUInt8).toNat < 128 := by omega
    have := special53 hb (contains_all c.1 [34, 13, 10, n.toNat.toUInt8] (by have := hD c hc; omega) (by simp) (by simp) (by simp; simpa using h128))
    rw [← h1] at this
    exact toM this
  · intro c hc _
    exact replace_ok m c.1 (by have := hD c hc; omega)
theorem joins_law (m : Int) (C : List Cel) (n : Int) : Pure Tryz.prog (tabM m) 8 [.list (C.map celP), .int .i64 n] (.bool true) := by
  have h25 := toM (m := m) (cells25 C)
  have hl := cutC_len C
  have htx := fun c h => cutC_text (C := C) (c := c) h
  generalize cutC C = D at *
  have h26 := join26D m D n (fun c h => by have := htx c h; omega)
  have h27 := toM (m := m) (join27 (D.map celZ) n n.toNat.toUInt8 (fun h => (sep_ne h).1) (fun z hz => by
    obtain ⟨c, hc, rfl⟩ := List.mem_map.1 hz
    have := htx c hc
    simp only [celZ]
    omega))
  rw [fst_celZ] at h27
  have h29 := toM (m := m) (same29 (D.map celZ) (by simp; omega))
  rw [fst_celZ] at h29
  have hk := toM (m := m) known_ok
  have h28 := toM (m := m) (split28 (joinN (sepB n) n.toNat.toUInt8 D).1 n)
  by_cases hz : (joinN (sepB n) n.toNat.toUInt8 D).2 = 0
  · have hS : splitN (joinN (sepB n) n.toNat.toUInt8 D).1 n = .ok D (plcN D 0) := by
      unfold joinN at hz ⊢
      cases hsb : sepB n with
      | false => rw [hsb] at hz; simp at hz
      | true =>
        obtain ⟨h1, h2⟩ := sep_ne hsb
        rw [hsb] at hz
        simp only [Bool.true_eq_false, if_false] at hz ⊢
        by_cases g1 : D.length = 0
        · rw [if_pos g1] at hz; simp at hz
        · rw [if_neg g1] at hz ⊢
          by_cases g2 : 64 < D.length
          · rw [if_pos g2] at hz; simp at hz
          · rw [if_neg g2] at hz ⊢
            by_cases g3 : D.any (spcC n.toNat.toUInt8) = true
            · rw [if_pos g3] at hz; simp at hz
            · rw [if_neg g3] at hz ⊢
              by_cases g4 : 65536 < (lineN n.toNat.toUInt8 D).length
              · rw [if_pos g4] at hz; simp at hz
              · rw [if_neg g4]
                unfold splitN
                rw [hsb, if_pos rfl, if_neg g4]
                obtain ⟨d, E, rfl⟩ : ∃ d E, D = d :: E := by
                  cases D with
                  | nil => simp at g1
                  | cons d E => exact ⟨d, E, rfl⟩
                have hsp : ∀ c, c ∈ d :: E → spcC n.toNat.toUInt8 c = false := by
                  intro c hc
                  rw [Bool.eq_false_iff]
                  intro hcs
                  exact g3 (List.any_eq_true.2 ⟨c, hc, hcs⟩)
                have := run_line (sep := n.toNat.toUInt8) h2 E d [] [] [] (by simp at g2 ⊢; omega) hsp
                simp only [List.nil_append] at this
                exact this
    rw [hS] at h28
    simp only [resC] at h28
    generalize joinN (sepB n) n.toNat.toUInt8 D = J at *
    obtain ⟨j, e⟩ := J
    simp only at hz h26 h27 h28
    subst hz
    refine Pure.intro F8_ok (by simp [F8]) ?_
    simp (maxSteps := 1000000) (disch := first | exact dI | fail) only [F8o0, F8o1, F8o2, F8o3, F8o4, F8o5, F8o6, F8o7, F8o8, F8o9, F8c, F8, push_cast, ↓reduceIte, qa, qb, qc, qd, qe, qf, qg, qh, qi]
    refine ACall.pure h25 rfl ?_
    simp (maxSteps := 1000000) (disch := first | exact dI | fail) only [push_cast, ↓reduceIte, qa, qb, qc, qd, qe, qf, qg, qh, qi]
    refine ACall.pure h26 rfl ?_
    simp (maxSteps := 1000000) (disch := first | exact dI | fail) only [push_cast, ↓reduceIte, qa, qb, qc, qd, qe, qf, qg, qh, qi]
    refine ACall.pure h27 rfl ?_
    simp (maxSteps := 1000000) (disch := first | exact dI | fail) only [push_cast, ↓reduceIte, qa, qb, qc, qd, qe, qf, qg, qh, qi]
    refine ACall.pure hk rfl ?_
    simp (maxSteps := 1000000) (disch := first | exact dI | fail) only [beq_self_eq_true, Bool.not_true, push_cast, ↓reduceIte, qa, qb, qc, qd, qe, qf, qg, qh, qi]
    refine ACall.pure h28 rfl ?_
    simp (maxSteps := 1000000) (disch := first | exact dI | fail) only [push_cast, ↓reduceIte, qa, qb, qc, qd, qe, qf, qg, qh, qi]
    refine ACall.pure h29 rfl ?_
    simp (maxSteps := 1000000) (disch := first | exact dI | fail) only [push_cast, ↓reduceIte, qa, qb, qc, qd, qe, qf, qg, qh, qi]
  · clear h28
    generalize joinN (sepB n) n.toNat.toUInt8 D = J at *
    obtain ⟨j, e⟩ := J
    simp only at hz h26 h27
    refine Pure.intro F8_ok (by simp [F8]) ?_
    simp (maxSteps := 1000000) (disch := first | exact dI | fail) only [F8o0, F8o1, F8o2, F8o3, F8o4, F8o5, F8o6, F8o7, F8o8, F8o9, F8c, F8, push_cast, ↓reduceIte, qa, qb, qc, qd, qe, qf, qg, qh, qi]
    refine ACall.pure h25 rfl ?_
    simp (maxSteps := 1000000) (disch := first | exact dI | fail) only [push_cast, ↓reduceIte, qa, qb, qc, qd, qe, qf, qg, qh, qi]
    refine ACall.pure h26 rfl ?_
    simp (maxSteps := 1000000) (disch := first | exact dI | fail) only [push_cast, ↓reduceIte, qa, qb, qc, qd, qe, qf, qg, qh, qi]
    refine ACall.pure h27 rfl ?_
    simp (maxSteps := 1000000) (disch := first | exact dI | fail) only [push_cast, ↓reduceIte, qa, qb, qc, qd, qe, qf, qg, qh, qi]
    refine ACall.pure hk rfl ?_
    simp (maxSteps := 1000000) (disch := first | exact dI | fail) only [beq_self_eq_true, Bool.not_true, push_cast, ↓reduceIte, qa, qb, qc, qd, qe, qf, qg, qh, qi]
theorem hasT_lst {t e : Nat} {p : PV} (h : HasT Tryz.prog t p) (hu : Tryz.prog.underlying t = some (.slice e)) : ∃ l : List PV, p = .list l ∧ ∀ (i : Nat) (x : PV), l[i]? = some x → HasT Tryz.prog e x := by
  cases h with
  | list _ e' l hb hl hl2 hx => rw [hu] at hb; cases hb; exact ⟨l, rfl, hx⟩
  | int _ k n hb => rw [hu] at hb; cases hb
  | bool _ b hb => rw [hu] at hb; cases hb
  | str _ s hb => rw [hu] at hb; cases hb
  | agg _ fs cs hb => rw [hu] at hb; cases hb
  | arr _ e n cs hb => rw [hu] at hb; cases hb
theorem hasT_bool {t : Nat} {p : PV} (h : HasT Tryz.prog t p) (hu : Tryz.prog.underlying t = some .bool) : ∃ b : Bool, p = .bool b := by
  cases h with
  | bool _ b hb => exact ⟨b, rfl⟩
  | str _ s hb => rw [hu] at hb; cases hb
  | int _ k n hb => rw [hu] at hb; cases hb
  | list _ e l hb => rw [hu] at hb; cases hb
  | agg _ fs cs hb => rw [hu] at hb; cases hb
  | arr _ e n cs hb => rw [hu] at hb; cases hb
theorem hasT_agg {t : Nat} {p : PV} {fs : Array Field} (h : HasT Tryz.prog t p) (hu : Tryz.prog.underlying t = some (.struct fs)) : ∃ cs : List PV, p = .agg cs ∧ cs.length = Tryz.prog.cellsOf t ∧ ∀ (i : Nat) (f : Field), fs.toList[i]? = some f → HasT Tryz.prog f.type (fieldPV Tryz.prog f cs) := by
  cases h with
  | agg _ fs' cs hb hl hx => rw [hu] at hb; cases hb; exact ⟨cs, rfl, hl, hx⟩
  | list _ e' l hb => rw [hu] at hb; cases hb
  | int _ k n hb => rw [hu] at hb; cases hb
  | bool _ b hb => rw [hu] at hb; cases hb
  | str _ s hb => rw [hu] at hb; cases hb
  | arr _ e n cs hb => rw [hu] at hb; cases hb
theorem agg_9 : isAggT Tryz.prog 9 = false := by kernel_rfl
theorem cel_9 : Tryz.prog.cellsOf 9 = 1 := by kernel_rfl
theorem agg_4 : isAggT Tryz.prog 4 = false := by kernel_rfl
theorem cel_4 : Tryz.prog.cellsOf 4 = 1 := by kernel_rfl
theorem cel_66 : Tryz.prog.cellsOf 66 = 2 := by kernel_rfl
theorem hasT_Cel {p : PV} (h : HasT Tryz.prog 66 p) : ∃ c : Cel, p = celP c := by
  obtain ⟨cs, rfl, hl, hx⟩ := hasT_agg h Tryz.underlying66
  rw [cel_66] at hl
  obtain ⟨c0, c1, rfl⟩ : ∃ c0 c1, cs = [c0, c1] := by
    match cs, hl with
    | [c0, c1], _ => exact ⟨c0, c1, rfl⟩
  have h0 := hx 0 _ rfl
  have h1 := hx 1 _ rfl
  simp only [fieldPV, agg_9, cel_9, agg_4, cel_4, List.drop_zero, List.drop_succ_cons, List.take_succ_cons, List.take_zero, cellPV, List.headD_cons] at h0 h1
  obtain ⟨t, rfl⟩ := hasT_str h0 Tryz.underlying9
  obtain ⟨b, rfl⟩ := hasT_bool h1 Tryz.underlying4
  exact ⟨(t, b), rfl⟩
theorem joins_of (m : Int) (p0 p1 : PV) (h0 : HasT Tryz.prog 50 p0) (h1 : HasT Tryz.prog 3 p1) : Pure Tryz.prog (tabM m) 8 [p0, p1] (.bool true) := by
  obtain ⟨l, rfl, hl⟩ := hasT_lst h0 Tryz.underlying50
  obtain ⟨n, rfl, hn⟩ := hasT_int h1 (k := .i64) (by kernel_rfl)
  have key : ∀ l : List PV, (∀ (i : Nat) (x : PV), l[i]? = some x → HasT Tryz.prog 66 x) → ∃ C : List Cel, l = C.map celP := by
    intro l
    induction l with
    | nil => exact fun _ => ⟨[], rfl⟩
    | cons x r ih =>
      intro h
      obtain ⟨c, rfl⟩ := hasT_Cel (h 0 x rfl)
      obtain ⟨C, rfl⟩ := ih fun i y hy => h (i + 1) y (by simpa using hy)
      exact ⟨c :: C, rfl⟩
  obtain ⟨C, rfl⟩ := key l hl
  exact joins_law m C n
end Go.Proofs.YtbaaokocnegdoaaGreatDoor
