/- A part of the proof for DelimitedJoinsCardSaid. -/
import Derived.Test.YtbaaokocnegdoaaGreatDoorJoiV9
import Derived.Test.YtbaaokocnegdoaaGreatDoorJoiV17
set_option maxRecDepth 100000
set_option linter.unusedVariables false
set_option linter.unusedSimpArgs false
-- many steps
namespace Go.Proofs.YtbaaokocnegdoaaGreatDoor
open Go Go.Ab
open Nat renaming reduceEqDiff → qa, reduceAdd → qb, reduceMul → qc, reduceLeDiff → qd, reduceLT → qe, reduceBEq → qf, reduceSub → qg
open Int renaming reduceToNat → qh, reduceNeg → qi
attribute [local irreducible] vc
variable (m : Int)
theorem copyBM (t : Bool) (l : List UInt8) : Lent Tryz.prog (tabM m) 1 90 [.ptr 0 0] (bB t l) (.pv (.tup [])) (bB true l) := by
  refine Lent.intro F90_ok (by simp [F90]) ?_
  cases l with
  | nil =>
    cases t with
    | true =>
      simp (maxSteps := 1000000) (disch := first | exact dI | fail) only [F90o0, F90o1, F90o2, F90o3, F90c, F90, bB, aB, push_cast, ↓reduceIte, qa, qb, qc, qd, qe, qf, qg, qh, qi]
      exact lent_z [] (by simp (maxSteps := 1000000) (disch := first | exact dI | fail) only [push_cast, ↓reduceIte, qa, qb, qc, qd, qe, qf, qg, qh, qi])
    | false =>
      simp (maxSteps := 1000000) (disch := first | exact dI | fail) only [F90o0, F90o1, F90o2, F90o3, F90c, F90, bB, aB, push_cast, ↓reduceIte, qa, qb, qc, qd, qe, qf, qg, qh, qi]
      exact lent_z [] (by simp (maxSteps := 1000000) (disch := first | exact dI | fail) only [push_cast, ↓reduceIte, qa, qb, qc, qd, qe, qf, qg, qh, qi])
  | cons b r =>
    cases t with
    | true =>
      simp (maxSteps := 1000000) (disch := first | exact dI | fail) only [F90o0, F90o1, F90o2, F90o3, F90c, F90, bB, aB, push_cast, ↓reduceIte, qa, qb, qc, qd, qe, qf, qg, qh, qi]
      exact lent_z [] (by simp (maxSteps := 1000000) (disch := first | exact dI | fail) only [push_cast, ↓reduceIte, qa, qb, qc, qd, qe, qf, qg, qh, qi])
    | false =>
      simp (maxSteps := 1000000) (disch := first | exact dI | fail) only [F90o0, F90o1, F90o2, F90o3, F90c, F90, bB, aB, push_cast, ↓reduceIte, qa, qb, qc, qd, qe, qf, qg, qh, qi]
      exact lent_z [] (by simp (maxSteps := 1000000) (disch := first | exact dI | fail) only [push_cast, ↓reduceIte, qa, qb, qc, qd, qe, qf, qg, qh, qi])
theorem writeBM (t : Bool) (l : List UInt8) (c : UInt8) (hl : l.length ≤ 100000000) : Lent Tryz.prog (tabM m) 1 43 [.ptr 0 0, .pv (.int .u8 (c.toNat : Int))] (bB t l) (.pv .nili) (bB true (l ++ [c])) := by
  have hC := copyBM m t l
  refine Lent.intro F43_ok (by simp [F43]) ?_
  cases l with
  | nil =>
    cases t <;> (
    try simp only [bB, aB] at hC
    simp (maxSteps := 1000000) (disch := first | exact dI | fail) only [F43o0, F43o1, F43o2, F43o3, F43c, F43, bB, aB, push_cast, ↓reduceIte, qa, qb, qc, qd, qe, qf, qg, qh, qi]
    refine ACall.lentK hC [0] rfl (by simp (maxSteps := 1000000) (disch := first | exact dI | fail) only [push_cast, ↓reduceIte, qa, qb, qc, qd, qe, qf, qg, qh, qi]) (by simp (maxSteps := 1000000) (disch := first | exact dI | fail) only [push_cast, ↓reduceIte, qa, qb, qc, qd, qe, qf, qg, qh, qi]) ?_
    simp (maxSteps := 1000000) (disch := first | exact dI | fail) only [bB, aB, push_cast, ↓reduceIte, qa, qb, qc, qd, qe, qf, qg, qh, qi]
    exact lent_z [] (by simp (maxSteps := 1000000) (disch := first | exact dI | fail) only [bytesP, push_cast, ↓reduceIte, qa, qb, qc, qd, qe, qf, qg, qh, qi]))
  | cons b r =>
    have hA := fun new q => appRw_byte (t := 5) (q := q) (new := new) (f := false) (l := b :: r) (c := c) (len := r.length + 1) rfl (by simp at hl ⊢; omega)
    cases t <;> (
    try simp only [bB, aB] at hC
    simp (maxSteps := 1000000) (disch := first | exact dI | fail) only [F43o0, F43o1, F43o2, F43o3, F43c, F43, bB, aB, push_cast, ↓reduceIte, qa, qb, qc, qd, qe, qf, qg, qh, qi]
    refine ACall.lentK hC [0, 1] rfl (by simp (maxSteps := 1000000) (disch := first | exact dI | fail) only [push_cast, ↓reduceIte, qa, qb, qc, qd, qe, qf, qg, qh, qi]) (by simp (maxSteps := 1000000) (disch := first | exact dI | fail) only [push_cast, ↓reduceIte, qa, qb, qc, qd, qe, qf, qg, qh, qi]) ?_
    simp (maxSteps := 1000000) (disch := first | exact dI | fail) only [bB, aB, hA, push_cast, ↓reduceIte, qa, qb, qc, qd, qe, qf, qg, qh, qi]
    exact lent_z [] (by simp (maxSteps := 1000000) (disch := first | exact dI | fail) only [bytesP, List.length_append, push_cast, ↓reduceIte, qa, qb, qc, qd, qe, qf, qg, qh, qi]))
theorem writeSM (t : Bool) (l k : List UInt8) (hl : l.length ≤ 100000000) (hk : k.length ≤ 100000000) : Lent Tryz.prog (tabM m) 1 66 [.ptr 0 0, .pv (.str k)] (bB t l) (.pv (.tup [.int .i64 (k.length : Int), .nili])) (bB true (l ++ k)) := by
  have hC := copyBM m t l
  refine Lent.intro F66_ok (by simp [F66]) ?_
  cases l with
  | nil =>
    cases k with
    | nil =>
      cases t <;> (
      try simp only [bB, aB] at hC
      simp (maxSteps := 1000000) (disch := first | exact dI | fail) only [F66o0, F66o1, F66o2, F66o3, F66c, F66, bB, aB, push_cast, ↓reduceIte, qa, qb, qc, qd, qe, qf, qg, qh, qi]
      refine ACall.lentK hC [0] rfl (by simp (maxSteps := 1000000) (disch := first | exact dI | fail) only [push_cast, ↓reduceIte, qa, qb, qc, qd, qe, qf, qg, qh, qi]) (by simp (maxSteps := 1000000) (disch := first | exact dI | fail) only [push_cast, ↓reduceIte, qa, qb, qc, qd, qe, qf, qg, qh, qi]) ?_
      simp (maxSteps := 1000000) (disch := first | exact dI | fail) only [bB, aB, push_cast, ↓reduceIte, qa, qb, qc, qd, qe, qf, qg, qh, qi]
      exact lent_z [] (by simp (maxSteps := 1000000) (disch := first | exact dI | fail) only [push_cast, ↓reduceIte, qa, qb, qc, qd, qe, qf, qg, qh, qi]))
    | cons c k =>
      simp only [List.length_cons] at hk
      cases t <;> (
      try simp only [bB, aB] at hC
      simp (maxSteps := 1000000) (disch := first | exact dI | fail) only [F66o0, F66o1, F66o2, F66o3, F66c, F66, bB, aB, push_cast, ↓reduceIte, qa, qb, qc, qd, qe, qf, qg, qh, qi]
      refine ACall.lentK hC [0] rfl (by simp (maxSteps := 1000000) (disch := first | exact dI | fail) only [push_cast, ↓reduceIte, qa, qb, qc, qd, qe, qf, qg, qh, qi]) (by simp (maxSteps := 1000000) (disch := first | exact dI | fail) only [push_cast, ↓reduceIte, qa, qb, qc, qd, qe, qf, qg, qh, qi]) ?_
      simp (maxSteps := 1000000) (disch := first | exact dI | fail) only [bB, aB, push_cast, ↓reduceIte, qa, qb, qc, qd, qe, qf, qg, qh, qi]
      exact lent_z [] (by simp (maxSteps := 1000000) (disch := first | exact dI | fail) only [push_cast, ↓reduceIte, qa, qb, qc, qd, qe, qf, qg, qh, qi]))
  | cons b r =>
    have e2 : (r ++ k).length + 1 = r.length + 1 + k.length := by simp; omega
    have hA := fun new q => appsB_ok (t := 5) (q := q) (new := new) (f := false) (l := b :: r) (k := k) (len := r.length + 1) rfl (by simp at hl ⊢; omega)
    cases t <;> (
    try simp only [bB, aB] at hC
    simp (maxSteps := 1000000) (disch := first | exact dI | fail) only [F66o0, F66o1, F66o2, F66o3, F66c, F66, bB, aB, push_cast, ↓reduceIte, qa, qb, qc, qd, qe, qf, qg, qh, qi]
    refine ACall.lentK hC [0, 1] rfl (by simp (maxSteps := 1000000) (disch := first | exact dI | fail) only [push_cast, ↓reduceIte, qa, qb, qc, qd, qe, qf, qg, qh, qi]) (by simp (maxSteps := 1000000) (disch := first | exact dI | fail) only [push_cast, ↓reduceIte, qa, qb, qc, qd, qe, qf, qg, qh, qi]) ?_
    simp (maxSteps := 1000000) (disch := first | exact dI | fail) only [bB, aB, hA, push_cast, ↓reduceIte, qa, qb, qc, qd, qe, qf, qg, qh, qi]
    exact lent_z [] (by simp (maxSteps := 1000000) (disch := first | exact dI | fail) only [e2, push_cast, ↓reduceIte, qa, qb, qc, qd, qe, qf, qg, qh, qi]))
theorem stringBM (t : Bool) (l : List UInt8) (hl : l.length ≤ 100000000) : Lent Tryz.prog (tabM m) 1 44 [.ptr 0 0] (bB t l) (.pv (.str l)) (stB l) := by
  refine Lent.intro F44_ok (by simp [F44]) ?_
  cases l with
  | nil =>
    cases t <;> (
    try simp only [bB, aB] at hC
    simp (maxSteps := 1000000) (disch := first | exact dI | fail) only [F44o0, F44o1, F44p1, F44c, F44, bB, aB, push_cast, ↓reduceIte, qa, qb, qc, qd, qe, qf, qg, qh, qi]
    exact lent_z [] (by simp (maxSteps := 1000000) (disch := first | exact dI | fail) only [stB, push_cast, ↓reduceIte, qa, qb, qc, qd, qe, qf, qg, qh, qi]))
  | cons b r =>
    have hA := fun (k : Int) (q : Nat) (hk : k = ((b :: r).length : Int)) => ustrB_ok (t := 5) (r := q) (f := false) (l := b :: r) hk (by simp) (by simp at hl ⊢; omega)
    cases t <;> (
    try simp only [bB, aB] at hC
    simp (maxSteps := 1000000) (disch := first | exact dI | fail) only [F44o0, F44o1, F44p1, F44c, F44, bB, aB, hA, push_cast, ↓reduceIte, qa, qb, qc, qd, qe, qf, qg, qh, qi]
    exact lent_z [] (by simp (maxSteps := 1000000) (disch := first | exact dI | fail) only [stB, push_cast, ↓reduceIte, qa, qb, qc, qd, qe, qf, qg, qh, qi]))
theorem lenBM (t : Bool) (l : List UInt8) (hl : l.length ≤ 100000000) : Lent Tryz.prog (tabM m) 1 68 [.ptr 0 0] (bB t l) (.pv (.int .i64 (l.length : Int))) (bB t l) := by
  refine Lent.intro F68_ok (by simp [F68]) ?_
  cases l with
  | nil =>
    cases t <;> (
    simp (maxSteps := 1000000) (disch := first | exact dI | fail) only [F68o0, F68o1, F68c, F68, bB, aB, push_cast, ↓reduceIte, qa, qb, qc, qd, qe, qf, qg, qh, qi]
    exact lent_z [] (by simp (maxSteps := 1000000) (disch := first | exact dI | fail) only [push_cast, ↓reduceIte, qa, qb, qc, qd, qe, qf, qg, qh, qi]))
  | cons b r =>
    cases t <;> (
    simp (maxSteps := 1000000) (disch := first | exact dI | fail) only [F68o0, F68o1, F68c, F68, bB, aB, push_cast, ↓reduceIte, qa, qb, qc, qd, qe, qf, qg, qh, qi]
    exact lent_z [] (by simp (maxSteps := 1000000) (disch := first | exact dI | fail) only [push_cast, ↓reduceIte, qa, qb, qc, qd, qe, qf, qg, qh, qi]))
set_option maxHeartbeats 2000000 in
theorem join26M (C : List Cel) (n : Int) (sep : UInt8) (hsep : sepB n = true → n = (sep.toNat : Int)) (hm : ∀ c, c ∈ C → c.1.length ≤ 70000)
    (hsp : sepB n = true → ∀ c, c ∈ C → c.2 = false → Pure Tryz.prog (tabM m) 53 [.str c.1, .int .i64 n] (.bool (spc sep c.1)))
    (hrp : ∀ c, c ∈ C → c.2 = true → Pure Tryz.prog (tabM m) 67 [.str c.1, .str [34], .str [34, 34]] (.str (dbl c.1))) :
    Pure Tryz.prog (tabM m) 26 [.list (C.map celP), .int .i64 n] (.tup [.str (joinN (sepB n) sep C).1, .int .i64 (joinN (sepB n) sep C).2]) := by
  have hs := toM (m := m) (isSep47 n)
  rw [sep_eq] at hs
  generalize hb : sepB n = b at *
  refine Pure.intro F26_ok (by simp [F26]) ?_
  cases b with
  | false =>
    rw [show joinN false sep C = ([], 2) from rfl]
    simp (maxSteps := 1000000) (disch := first | exact dI | fail) only [F26o0, F26o1, F26o2, F26o3, F26o4, F26o5, F26o6, F26o7, F26o8, F26o9, F26o10, F26o11, F26o12, F26o13, F26o14, F26o15, F26o16, F26o17, F26o18, F26o19, F26o20, F26b21, F26o22, F26o23, F26o24, F26c, F26, push_cast, ↓reduceIte, qa, qb, qc, qd, qe, qf, qg, qh, qi]
    refine ACall.pure hs rfl ?_
    simp (maxSteps := 1000000) (disch := first | exact dI | fail) only [push_cast, ↓reduceIte, qa, qb, qc, qd, qe, qf, qg, qh, qi]
  | true =>
    have hse := hsep rfl
    subst hse
    replace hsp := hsp rfl
    have hss := sep.toNat_lt
    have hw := wrap_u8 (n := (sep.toNat : Int)) (by omega) (by omega)
    by_cases h0 : C.length = 0
    · have : C = [] := List.length_eq_zero_iff.1 h0
      subst this
      rw [show joinN true sep [] = ([], 4) from rfl]
      simp (maxSteps := 1000000) (disch := first | exact dI | fail) only [F26o0, F26o1, F26o2, F26o3, F26o4, F26o5, F26o6, F26o7, F26o8, F26o9, F26o10, F26o11, F26o12, F26o13, F26o14, F26o15, F26o16, F26o17, F26o18, F26o19, F26o20, F26b21, F26o22, F26o23, F26o24, F26c, F26, push_cast, ↓reduceIte, qa, qb, qc, qd, qe, qf, qg, qh, qi]
      refine ACall.pure hs rfl ?_
      simp (maxSteps := 1000000) (disch := first | exact dI | fail) only [push_cast, ↓reduceIte, qa, qb, qc, qd, qe, qf, qg, qh, qi]
    by_cases h64 : 64 < C.length
    · rw [show joinN true sep C = ([], 9) by unfold joinN; simp only [Bool.true_eq_false, if_false, if_neg h0, if_pos h64]]
      simp (maxSteps := 1000000) (disch := first | exact dI | fail) only [F26o0, F26o1, F26o2, F26o3, F26o4, F26o5, F26o6, F26o7, F26o8, F26o9, F26o10, F26o11, F26o12, F26o13, F26o14, F26o15, F26o16, F26o17, F26o18, F26o19, F26o20, F26b21, F26o22, F26o23, F26o24, F26c, F26, push_cast, ↓reduceIte, qa, qb, qc, qd, qe, qf, qg, qh, qi]
      refine ACall.pure hs rfl ?_
      simp (maxSteps := 1000000) (disch := first | exact dI | fail) only [push_cast, ↓reduceIte, qa, qb, qc, qd, qe, qf, qg, qh, qi]
    obtain ⟨J, hJ⟩ : ∃ J, J = joinN true sep C := ⟨_, rfl⟩
    rw [← hJ]
    unfold joinN at hJ
    simp only [Bool.true_eq_false, if_false, if_neg h0, if_neg h64] at hJ
    simp (maxSteps := 1000000) (disch := first | exact dI | fail) only [F26o0, F26o1, F26o2, F26o3, F26o4, F26o5, F26o6, F26o7, F26o8, F26o9, F26o10, F26o11, F26o12, F26o13, F26o14, F26o15, F26o16, F26o17, F26o18, F26o19, F26o20, F26b21, F26o22, F26o23, F26o24, F26c, F26, push_cast, ↓reduceIte, qa, qb, qc, qd, qe, qf, qg, qh, qi]
    refine ACall.pure hs rfl ?_
    simp (maxSteps := 1000000) (disch := first | exact dI | fail) only [push_cast, ↓reduceIte, qa, qb, qc, qd, qe, qf, qg, qh, qi]
    refine vc_meetS (hdJ (sep.toNat : Int) C) (fun y => y.1 ≤ C.length ∧ y.2.2 = lineN sep (C.take y.1) ∧ (y.1 = 0 ↔ y.2.1 = false) ∧ (C.take y.1).any (spcC sep) = false) (fun y => C.length - y.1) (0, false, []) [6] (exJ C) (fun y => y.2 = lineN sep C ∧ C.any (spcC sep) = false) ?_ ?_ ?_ ?_
    · exact hd_z (by simp (maxSteps := 1000000) (disch := first | exact dI | fail) only [hdJ, aB, push_cast, ↓reduceIte, qa, qb, qc, qd, qe, qf, qg, qh, qi])
    · exact ⟨by simp, by simp [lineN], by simp, by simp⟩
    · rintro ⟨i, t, l⟩ ⟨h1, h2, h3, h4⟩
      simp only at h1 h2 h3 h4
      have hll : l.length ≤ 64 * 140003 := by
        rw [h2]
        refine Nat.le_trans (lineN_len sep _ 70000 fun c hc => hm c (List.mem_of_mem_take hc)) ?_
        refine Nat.mul_le_mul ?_ (Nat.le_refl _)
        simp; omega
      by_cases hi : i < C.length
      · obtain ⟨c, hc⟩ : ∃ c, C[i]? = some c := ⟨_, List.getElem?_eq_getElem hi⟩
        have hcm := List.mem_of_getElem? hc
        have hts := take_snoc hc
        obtain ⟨tx, q⟩ := c
        have hlc := hm _ hcm
        simp only at hlc
        have hdl := dbl_len tx
        have hn := lineN_snoc sep (C.take i) (tx, q)
        rw [← hts, ← h2] at hn
        have hav : (C.take (i + 1)).any (spcC sep) = spcC sep (tx, q) := by rw [hts, List.any_append, h4]; simp
        have hcp : (C.map celP)[i]? = some (.agg [.str tx, .bool q]) := by simp [hc, celP]
        have hiI : (i : Int) < (C.length : Int) := by omega
        by_cases hi0 : i = 0
        · have ht : t = false := h3.1 hi0
          have hl0 : l = [] := by rw [h2, hi0]; rfl
          subst ht hl0
          rw [if_pos (by rw [hi0]; simp), List.nil_append] at hn
          cases q with
          | false =>
            have hsp1 := hsp _ hcm rfl
            simp only at hsp1
            cases hs1 : spc sep tx with
            | true =>
              rw [hs1] at hsp1
              rw [if_pos (List.any_eq_true.2 ⟨_, hcm, by simp [spcC, hs1]⟩)] at hJ
              rw [hJ]
              simp (maxSteps := 1000000) (disch := first | exact dI | fail) only [hdJ, hcp, aB, push_cast, ↓reduceIte, qa, qb, qc, qd, qe, qf, qg, qh, qi]
              refine ACall.pure hsp1 rfl ?_
              simp (maxSteps := 1000000) (disch := first | exact dI | fail) only [push_cast, ↓reduceIte, qa, qb, qc, qd, qe, qf, qg, qh, qi]
            | false =>
              rw [hs1] at hsp1
              have hav2 : (C.take (i + 1)).any (spcC sep) = false := by rw [hav]; simp [spcC, hs1]
              have hn2 : lineN sep (C.take (i + 1)) = tx := by rw [hn]; simp [wrt]
              have hW := writeSM m false [] tx (by simp) (by omega)
              cases tx with
              | nil =>
                simp only [bB, aB, List.nil_append] at hW
                simp (maxSteps := 1000000) (disch := first | exact dI | fail) only [hdJ, hcp, aB, push_cast, ↓reduceIte, qa, qb, qc, qd, qe, qf, qg, qh, qi]
                refine ACall.pure hsp1 rfl ?_
                simp (maxSteps := 1000000) (disch := first | exact dI | fail) only [push_cast, ↓reduceIte, qa, qb, qc, qd, qe, qf, qg, qh, qi]
                refine ACall.lentK hW [0] rfl (by simp (maxSteps := 1000000) (disch := first | exact dI | fail) only [push_cast, ↓reduceIte, qa, qb, qc, qd, qe, qf, qg, qh, qi]) (by simp (maxSteps := 1000000) (disch := first | exact dI | fail) only [push_cast, ↓reduceIte, qa, qb, qc, qd, qe, qf, qg, qh, qi]) ?_
                simp (maxSteps := 1000000) (disch := first | exact dI | fail) only [push_cast, ↓reduceIte, qa, qb, qc, qd, qe, qf, qg, qh, qi]
                exact ⟨(i + 1, true, []), hd_z (by simp (maxSteps := 1000000) (disch := first | exact dI | fail) only [hdJ, aB, push_cast, ↓reduceIte, qa, qb, qc, qd, qe, qf, qg, qh, qi]), ⟨by simp only; omega, hn2.symm, by simp, hav2⟩, by simp only; omega⟩
              | cons c tx =>
                simp only [bB, aB, List.nil_append] at hW
                simp (maxSteps := 1000000) (disch := first | exact dI | fail) only [hdJ, hcp, aB, push_cast, ↓reduceIte, qa, qb, qc, qd, qe, qf, qg, qh, qi]
                refine ACall.pure hsp1 rfl ?_
                simp (maxSteps := 1000000) (disch := first | exact dI | fail) only [push_cast, ↓reduceIte, qa, qb, qc, qd, qe, qf, qg, qh, qi]
                refine ACall.lentK hW [0] rfl (by simp (maxSteps := 1000000) (disch := first | exact dI | fail) only [push_cast, ↓reduceIte, qa, qb, qc, qd, qe, qf, qg, qh, qi]) (by simp (maxSteps := 1000000) (disch := first | exact dI | fail) only [push_cast, ↓reduceIte, qa, qb, qc, qd, qe, qf, qg, qh, qi]) ?_
                simp (maxSteps := 1000000) (disch := first | exact dI | fail) only [push_cast, ↓reduceIte, qa, qb, qc, qd, qe, qf, qg, qh, qi]
                exact ⟨(i + 1, true, c :: tx), hd_z (by simp (maxSteps := 1000000) (disch := first | exact dI | fail) only [hdJ, aB, push_cast, ↓reduceIte, qa, qb, qc, qd, qe, qf, qg, qh, qi]), ⟨by simp only; omega, hn2.symm, by simp, hav2⟩, by simp only; omega⟩
          | true =>
            have hrp1 := hrp _ hcm rfl
            simp only at hrp1
            have hav2 : (C.take (i + 1)).any (spcC sep) = false := by rw [hav]; simp [spcC]
            have hn2 : lineN sep (C.take (i + 1)) = 34 :: (dbl tx ++ [34]) := by rw [hn]; simp [wrt]
            have hB1 := writeBM m false [] 34 (by simp)
            have hW := writeSM m true [34] (dbl tx) (by simp) (by omega)
            have hB2 := writeBM m true (34 :: dbl tx) 34 (by simp; omega)
            simp only [bB, aB, List.nil_append, List.cons_append] at hB1 hW hB2
            rw [show (((34 : UInt8).toNat : Nat) : Int) = 34 from rfl] at hB1 hB2
            simp (maxSteps := 1000000) (disch := first | exact dI | fail) only [hdJ, hcp, aB, push_cast, ↓reduceIte, qa, qb, qc, qd, qe, qf, qg, qh, qi]
            refine ACall.lentK hB1 [0] rfl (by simp (maxSteps := 1000000) (disch := first | exact dI | fail) only [push_cast, ↓reduceIte, qa, qb, qc, qd, qe, qf, qg, qh, qi]) (by simp (maxSteps := 1000000) (disch := first | exact dI | fail) only [push_cast, ↓reduceIte, qa, qb, qc, qd, qe, qf, qg, qh, qi]) ?_
            simp (maxSteps := 1000000) (disch := first | exact dI | fail) only [push_cast, ↓reduceIte, qa, qb, qc, qd, qe, qf, qg, qh, qi]
            refine ACall.pure hrp1 rfl ?_
            simp (maxSteps := 1000000) (disch := first | exact dI | fail) only [push_cast, ↓reduceIte, qa, qb, qc, qd, qe, qf, qg, qh, qi]
            refine ACall.lentK hW [0, 5] rfl (by simp (maxSteps := 1000000) (disch := first | exact dI | fail) only [push_cast, ↓reduceIte, qa, qb, qc, qd, qe, qf, qg, qh, qi]) (by simp (maxSteps := 1000000) (disch := first | exact dI | fail) only [push_cast, ↓reduceIte, qa, qb, qc, qd, qe, qf, qg, qh, qi]) ?_
            simp (maxSteps := 1000000) (disch := first | exact dI | fail) only [push_cast, ↓reduceIte, qa, qb, qc, qd, qe, qf, qg, qh, qi]
            refine ACall.lentK hB2 [0, 7] rfl (by simp (maxSteps := 1000000) (disch := first | exact dI | fail) only [push_cast, ↓reduceIte, qa, qb, qc, qd, qe, qf, qg, qh, qi]) (by simp (maxSteps := 1000000) (disch := first | exact dI | fail) only [push_cast, ↓reduceIte, qa, qb, qc, qd, qe, qf, qg, qh, qi]) ?_
            simp (maxSteps := 1000000) (disch := first | exact dI | fail) only [push_cast, ↓reduceIte, qa, qb, qc, qd, qe, qf, qg, qh, qi]
            exact ⟨(i + 1, true, 34 :: (dbl tx ++ [34])), hd_z (by simp (maxSteps := 1000000) (disch := first | exact dI | fail) only [hdJ, aB, push_cast, ↓reduceIte, qa, qb, qc, qd, qe, qf, qg, qh, qi]), ⟨by simp only; omega, hn2.symm, by simp, hav2⟩, by simp only; omega⟩
        · have hi0I : (0 : Int) < (i : Int) := by omega
          have ht : t = true := by cases t with | true => rfl | false => exact absurd (h3.2 rfl) hi0
          subst ht
          rw [if_neg (by rw [List.length_take]; omega)] at hn
          cases l with
          | nil =>
            have hB0 := writeBM m true [] sep (by simp at hll ⊢ <;> omega)
            cases q with
            | false =>
              have hsp1 := hsp _ hcm rfl
              simp only at hsp1
              cases hs1 : spc sep tx with
              | true =>
                rw [hs1] at hsp1
                rw [if_pos (List.any_eq_true.2 ⟨_, hcm, by simp [spcC, hs1]⟩)] at hJ
                rw [hJ]
                simp only [bB, aB, List.nil_append, List.cons_append] at hB0
                simp (maxSteps := 1000000) (disch := first | exact dI | fail) only [hdJ, hcp, aB, hw, push_cast, ↓reduceIte, qa, qb, qc, qd, qe, qf, qg, qh, qi]
                refine ACall.lentK hB0 [0] rfl (by simp (maxSteps := 1000000) (disch := first | exact dI | fail) only [push_cast, ↓reduceIte, qa, qb, qc, qd, qe, qf, qg, qh, qi]) (by simp (maxSteps := 1000000) (disch := first | exact dI | fail) only [push_cast, ↓reduceIte, qa, qb, qc, qd, qe, qf, qg, qh, qi]) ?_
                simp (maxSteps := 1000000) (disch := first | exact dI | fail) only [push_cast, ↓reduceIte, qa, qb, qc, qd, qe, qf, qg, qh, qi]
                refine ACall.pure hsp1 rfl ?_
                simp (maxSteps := 1000000) (disch := first | exact dI | fail) only [push_cast, ↓reduceIte, qa, qb, qc, qd, qe, qf, qg, qh, qi]
              | false =>
                rw [hs1] at hsp1
                have hav2 : (C.take (i + 1)).any (spcC sep) = false := by rw [hav]; simp [spcC, hs1]
                have hn2 : lineN sep (C.take (i + 1)) = sep :: tx := by rw [hn]; simp [wrt]
                have hW := writeSM m true [sep] tx (by simp at hll ⊢ <;> omega) (by omega)
                simp only [bB, aB, List.nil_append, List.cons_append] at hB0 hW
                simp (maxSteps := 1000000) (disch := first | exact dI | fail) only [hdJ, hcp, aB, hw, push_cast, ↓reduceIte, qa, qb, qc, qd, qe, qf, qg, qh, qi]
                refine ACall.lentK hB0 [0] rfl (by simp (maxSteps := 1000000) (disch := first | exact dI | fail) only [push_cast, ↓reduceIte, qa, qb, qc, qd, qe, qf, qg, qh, qi]) (by simp (maxSteps := 1000000) (disch := first | exact dI | fail) only [push_cast, ↓reduceIte, qa, qb, qc, qd, qe, qf, qg, qh, qi]) ?_
                simp (maxSteps := 1000000) (disch := first | exact dI | fail) only [push_cast, ↓reduceIte, qa, qb, qc, qd, qe, qf, qg, qh, qi]
                refine ACall.pure hsp1 rfl ?_
                simp (maxSteps := 1000000) (disch := first | exact dI | fail) only [push_cast, ↓reduceIte, qa, qb, qc, qd, qe, qf, qg, qh, qi]
                refine ACall.lentK hW [0, 4] rfl (by simp (maxSteps := 1000000) (disch := first | exact dI | fail) only [push_cast, ↓reduceIte, qa, qb, qc, qd, qe, qf, qg, qh, qi]) (by simp (maxSteps := 1000000) (disch := first | exact dI | fail) only [push_cast, ↓reduceIte, qa, qb, qc, qd, qe, qf, qg, qh, qi]) ?_
                simp (maxSteps := 1000000) (disch := first | exact dI | fail) only [push_cast, ↓reduceIte, qa, qb, qc, qd, qe, qf, qg, qh, qi]
                exact ⟨(i + 1, true, sep :: tx), hd_z (by simp (maxSteps := 1000000) (disch := first | exact dI | fail) only [hdJ, aB, push_cast, ↓reduceIte, qa, qb, qc, qd, qe, qf, qg, qh, qi]), ⟨by simp only; omega, hn2.symm, by simp, hav2⟩, by simp only; omega⟩
            | true =>
              have hrp1 := hrp _ hcm rfl
              simp only at hrp1
              have hav2 : (C.take (i + 1)).any (spcC sep) = false := by rw [hav]; simp [spcC]
              have hn2 : lineN sep (C.take (i + 1)) = sep :: 34 :: (dbl tx ++ [34]) := by rw [hn]; simp [wrt]
              have hB1 := writeBM m true [sep] 34 (by simp at hll ⊢ <;> omega)
              have hW := writeSM m true [sep, 34] (dbl tx) (by simp at hll ⊢ <;> omega) (by omega)
              have hB2 := writeBM m true (sep :: 34 :: dbl tx) 34 (by simp at hll ⊢ <;> omega)
              simp only [bB, aB, List.nil_append, List.cons_append] at hB0 hB1 hW hB2
              rw [show (((34 : UInt8).toNat : Nat) : Int) = 34 from rfl] at hB1 hB2
              simp (maxSteps := 1000000) (disch := first | exact dI | fail) only [hdJ, hcp, aB, hw, push_cast, ↓reduceIte, qa, qb, qc, qd, qe, qf, qg, qh, qi]
              refine ACall.lentK hB0 [0] rfl (by simp (maxSteps := 1000000) (disch := first | exact dI | fail) only [push_cast, ↓reduceIte, qa, qb, qc, qd, qe, qf, qg, qh, qi]) (by simp (maxSteps := 1000000) (disch := first | exact dI | fail) only [push_cast, ↓reduceIte, qa, qb, qc, qd, qe, qf, qg, qh, qi]) ?_
              simp (maxSteps := 1000000) (disch := first | exact dI | fail) only [push_cast, ↓reduceIte, qa, qb, qc, qd, qe, qf, qg, qh, qi]
              refine ACall.lentK hB1 [0, 4] rfl (by simp (maxSteps := 1000000) (disch := first | exact dI | fail) only [push_cast, ↓reduceIte, qa, qb, qc, qd, qe, qf, qg, qh, qi]) (by simp (maxSteps := 1000000) (disch := first | exact dI | fail) only [push_cast, ↓reduceIte, qa, qb, qc, qd, qe, qf, qg, qh, qi]) ?_
              simp (maxSteps := 1000000) (disch := first | exact dI | fail) only [push_cast, ↓reduceIte, qa, qb, qc, qd, qe, qf, qg, qh, qi]
              refine ACall.pure hrp1 rfl ?_
              simp (maxSteps := 1000000) (disch := first | exact dI | fail) only [push_cast, ↓reduceIte, qa, qb, qc, qd, qe, qf, qg, qh, qi]
              refine ACall.lentK hW [0, 6] rfl (by simp (maxSteps := 1000000) (disch := first | exact dI | fail) only [push_cast, ↓reduceIte, qa, qb, qc, qd, qe, qf, qg, qh, qi]) (by simp (maxSteps := 1000000) (disch := first | exact dI | fail) only [push_cast, ↓reduceIte, qa, qb, qc, qd, qe, qf, qg, qh, qi]) ?_
              simp (maxSteps := 1000000) (disch := first | exact dI | fail) only [push_cast, ↓reduceIte, qa, qb, qc, qd, qe, qf, qg, qh, qi]
              refine ACall.lentK hB2 [0, 8] rfl (by simp (maxSteps := 1000000) (disch := first | exact dI | fail) only [push_cast, ↓reduceIte, qa, qb, qc, qd, qe, qf, qg, qh, qi]) (by simp (maxSteps := 1000000) (disch := first | exact dI | fail) only [push_cast, ↓reduceIte, qa, qb, qc, qd, qe, qf, qg, qh, qi]) ?_
              simp (maxSteps := 1000000) (disch := first | exact dI | fail) only [push_cast, ↓reduceIte, qa, qb, qc, qd, qe, qf, qg, qh, qi]
              exact ⟨(i + 1, true, sep :: 34 :: (dbl tx ++ [34])), hd_z (by simp (maxSteps := 1000000) (disch := first | exact dI | fail) only [hdJ, aB, push_cast, ↓reduceIte, qa, qb, qc, qd, qe, qf, qg, qh, qi]), ⟨by simp only; omega, hn2.symm, by simp, hav2⟩, by simp only; omega⟩
          | cons b r =>
            have hB0 := writeBM m true (b :: r) sep (by simp at hll ⊢ <;> omega)
            cases q with
            | false =>
              have hsp1 := hsp _ hcm rfl
              simp only at hsp1
              cases hs1 : spc sep tx with
              | true =>
                rw [hs1] at hsp1
                rw [if_pos (List.any_eq_true.2 ⟨_, hcm, by simp [spcC, hs1]⟩)] at hJ
                rw [hJ]
                simp only [bB, aB, List.nil_append, List.cons_append] at hB0
                simp (maxSteps := 1000000) (disch := first | exact dI | fail) only [hdJ, hcp, aB, hw, push_cast, ↓reduceIte, qa, qb, qc, qd, qe, qf, qg, qh, qi]
                refine ACall.lentK hB0 [0, 1] rfl (by simp (maxSteps := 1000000) (disch := first | exact dI | fail) only [push_cast, ↓reduceIte, qa, qb, qc, qd, qe, qf, qg, qh, qi]) (by simp (maxSteps := 1000000) (disch := first | exact dI | fail) only [push_cast, ↓reduceIte, qa, qb, qc, qd, qe, qf, qg, qh, qi]) ?_
                simp (maxSteps := 1000000) (disch := first | exact dI | fail) only [push_cast, ↓reduceIte, qa, qb, qc, qd, qe, qf, qg, qh, qi]
                refine ACall.pure hsp1 rfl ?_
                simp (maxSteps := 1000000) (disch := first | exact dI | fail) only [push_cast, ↓reduceIte, qa, qb, qc, qd, qe, qf, qg, qh, qi]
              | false =>
                rw [hs1] at hsp1
                have hav2 : (C.take (i + 1)).any (spcC sep) = false := by rw [hav]; simp [spcC, hs1]
                have hn2 : lineN sep (C.take (i + 1)) = b :: (r ++ [sep] ++ tx) := by rw [hn]; simp [wrt]
                have hW := writeSM m true (b :: (r ++ [sep])) tx (by simp at hll ⊢ <;> omega) (by omega)
                simp only [bB, aB, List.nil_append, List.cons_append] at hB0 hW
                simp (maxSteps := 1000000) (disch := first | exact dI | fail) only [hdJ, hcp, aB, hw, push_cast, ↓reduceIte, qa, qb, qc, qd, qe, qf, qg, qh, qi]
                refine ACall.lentK hB0 [0, 1] rfl (by simp (maxSteps := 1000000) (disch := first | exact dI | fail) only [push_cast, ↓reduceIte, qa, qb, qc, qd, qe, qf, qg, qh, qi]) (by simp (maxSteps := 1000000) (disch := first | exact dI | fail) only [push_cast, ↓reduceIte, qa, qb, qc, qd, qe, qf, qg, qh, qi]) ?_
                simp (maxSteps := 1000000) (disch := first | exact dI | fail) only [push_cast, ↓reduceIte, qa, qb, qc, qd, qe, qf, qg, qh, qi]
                refine ACall.pure hsp1 rfl ?_
                simp (maxSteps := 1000000) (disch := first | exact dI | fail) only [push_cast, ↓reduceIte, qa, qb, qc, qd, qe, qf, qg, qh, qi]
                refine ACall.lentK hW [0, 5] rfl (by simp (maxSteps := 1000000) (disch := first | exact dI | fail) only [push_cast, ↓reduceIte, qa, qb, qc, qd, qe, qf, qg, qh, qi]) (by simp (maxSteps := 1000000) (disch := first | exact dI | fail) only [push_cast, ↓reduceIte, qa, qb, qc, qd, qe, qf, qg, qh, qi]) ?_
                simp (maxSteps := 1000000) (disch := first | exact dI | fail) only [push_cast, ↓reduceIte, qa, qb, qc, qd, qe, qf, qg, qh, qi]
                exact ⟨(i + 1, true, b :: (r ++ [sep] ++ tx)), hd_z (by simp (maxSteps := 1000000) (disch := first | exact dI | fail) only [hdJ, aB, push_cast, ↓reduceIte, qa, qb, qc, qd, qe, qf, qg, qh, qi]), ⟨by simp only; omega, hn2.symm, by simp, hav2⟩, by simp only; omega⟩
            | true =>
              have hrp1 := hrp _ hcm rfl
              simp only at hrp1
              have hav2 : (C.take (i + 1)).any (spcC sep) = false := by rw [hav]; simp [spcC]
              have hn2 : lineN sep (C.take (i + 1)) = b :: (r ++ [sep] ++ [34] ++ dbl tx ++ [34]) := by rw [hn]; simp [wrt]
              have hB1 := writeBM m true (b :: (r ++ [sep])) 34 (by simp at hll ⊢ <;> omega)
              have hW := writeSM m true (b :: (r ++ [sep] ++ [34])) (dbl tx) (by simp at hll ⊢ <;> omega) (by omega)
              have hB2 := writeBM m true (b :: (r ++ [sep] ++ [34] ++ dbl tx)) 34 (by simp at hll ⊢ <;> omega)
              simp only [bB, aB, List.nil_append, List.cons_append] at hB0 hB1 hW hB2
              rw [show (((34 : UInt8).toNat : Nat) : Int) = 34 from rfl] at hB1 hB2
              simp (maxSteps := 1000000) (disch := first | exact dI | fail) only [hdJ, hcp, aB, hw, push_cast, ↓reduceIte, qa, qb, qc, qd, qe, qf, qg, qh, qi]
              refine ACall.lentK hB0 [0, 1] rfl (by simp (maxSteps := 1000000) (disch := first | exact dI | fail) only [push_cast, ↓reduceIte, qa, qb, qc, qd, qe, qf, qg, qh, qi]) (by simp (maxSteps := 1000000) (disch := first | exact dI | fail) only [push_cast, ↓reduceIte, qa, qb, qc, qd, qe, qf, qg, qh, qi]) ?_
              simp (maxSteps := 1000000) (disch := first | exact dI | fail) only [push_cast, ↓reduceIte, qa, qb, qc, qd, qe, qf, qg, qh, qi]
              refine ACall.lentK hB1 [0, 5] rfl (by simp (maxSteps := 1000000) (disch := first | exact dI | fail) only [push_cast, ↓reduceIte, qa, qb, qc, qd, qe, qf, qg, qh, qi]) (by simp (maxSteps := 1000000) (disch := first | exact dI | fail) only [push_cast, ↓reduceIte, qa, qb, qc, qd, qe, qf, qg, qh, qi]) ?_
              simp (maxSteps := 1000000) (disch := first | exact dI | fail) only [push_cast, ↓reduceIte, qa, qb, qc, qd, qe, qf, qg, qh, qi]
              refine ACall.pure hrp1 rfl ?_
              simp (maxSteps := 1000000) (disch := first | exact dI | fail) only [push_cast, ↓reduceIte, qa, qb, qc, qd, qe, qf, qg, qh, qi]
              refine ACall.lentK hW [0, 7] rfl (by simp (maxSteps := 1000000) (disch := first | exact dI | fail) only [push_cast, ↓reduceIte, qa, qb, qc, qd, qe, qf, qg, qh, qi]) (by simp (maxSteps := 1000000) (disch := first | exact dI | fail) only [push_cast, ↓reduceIte, qa, qb, qc, qd, qe, qf, qg, qh, qi]) ?_
              simp (maxSteps := 1000000) (disch := first | exact dI | fail) only [push_cast, ↓reduceIte, qa, qb, qc, qd, qe, qf, qg, qh, qi]
              refine ACall.lentK hB2 [0, 9] rfl (by simp (maxSteps := 1000000) (disch := first | exact dI | fail) only [push_cast, ↓reduceIte, qa, qb, qc, qd, qe, qf, qg, qh, qi]) (by simp (maxSteps := 1000000) (disch := first | exact dI | fail) only [push_cast, ↓reduceIte, qa, qb, qc, qd, qe, qf, qg, qh, qi]) ?_
              simp (maxSteps := 1000000) (disch := first | exact dI | fail) only [push_cast, ↓reduceIte, qa, qb, qc, qd, qe, qf, qg, qh, qi]
              exact ⟨(i + 1, true, b :: (r ++ [sep] ++ [34] ++ dbl tx ++ [34])), hd_z (by simp (maxSteps := 1000000) (disch := first | exact dI | fail) only [hdJ, aB, push_cast, ↓reduceIte, qa, qb, qc, qd, qe, qf, qg, qh, qi]), ⟨by simp only; omega, hn2.symm, by simp, hav2⟩, by simp only; omega⟩
      · have he : C.take i = C := List.take_of_length_le (by omega)
        rw [he] at h2 h4
        cases l with
        | nil =>
          cases t with
          | true =>
            simp (maxSteps := 1000000) (disch := first | exact dI | fail) only [hdJ, aB, push_cast, ↓reduceIte, qa, qb, qc, qd, qe, qf, qg, qh, qi]
            exact ⟨(true, []), hd_z (by simp (maxSteps := 1000000) (disch := first | exact dI | fail) only [exJ, aB, push_cast, ↓reduceIte, qa, qb, qc, qd, qe, qf, qg, qh, qi]), h2, h4⟩
          | false =>
            simp (maxSteps := 1000000) (disch := first | exact dI | fail) only [hdJ, aB, push_cast, ↓reduceIte, qa, qb, qc, qd, qe, qf, qg, qh, qi]
            exact ⟨(false, []), hd_z (by simp (maxSteps := 1000000) (disch := first | exact dI | fail) only [exJ, aB, push_cast, ↓reduceIte, qa, qb, qc, qd, qe, qf, qg, qh, qi]), h2, h4⟩
        | cons b r =>
          simp (maxSteps := 1000000) (disch := first | exact dI | fail) only [hdJ, push_cast, ↓reduceIte, qa, qb, qc, qd, qe, qf, qg, qh, qi]
          exact ⟨(t, b :: r), hd_z (by simp (maxSteps := 1000000) (disch := first | exact dI | fail) only [exJ, push_cast, ↓reduceIte, qa, qb, qc, qd, qe, qf, qg, qh, qi]), h2, h4⟩
    · rintro ⟨t, l⟩ ⟨h1, h2⟩
      simp only at h1 h2
      rw [if_neg (by rw [h2]; simp), ← h1] at hJ
      have hll : l.length ≤ 64 * 140003 := by
        rw [h1]
        exact Nat.le_trans (lineN_len sep _ 70000 hm) (Nat.mul_le_mul (by omega) (Nat.le_refl _))
      have hLn := lenBM m t l (by omega)
      have hSt := stringBM m t l (by omega)
      cases l with
      | nil =>
        rw [if_neg (by simp)] at hJ
        rw [hJ]
        cases t with
        | true =>
          simp only [bB, aB, stB] at hLn hSt
          simp (maxSteps := 1000000) (disch := first | exact dI | fail) only [exJ, aB, push_cast, ↓reduceIte, qa, qb, qc, qd, qe, qf, qg, qh, qi]
          refine ACall.lentK hLn [0] rfl (by simp (maxSteps := 1000000) (disch := first | exact dI | fail) only [push_cast, ↓reduceIte, qa, qb, qc, qd, qe, qf, qg, qh, qi]) (by simp (maxSteps := 1000000) (disch := first | exact dI | fail) only [push_cast, ↓reduceIte, qa, qb, qc, qd, qe, qf, qg, qh, qi]) ?_
          simp (maxSteps := 1000000) (disch := first | exact dI | fail) only [push_cast, ↓reduceIte, qa, qb, qc, qd, qe, qf, qg, qh, qi]
          refine ACall.lentK hSt [0] rfl (by simp (maxSteps := 1000000) (disch := first | exact dI | fail) only [push_cast, ↓reduceIte, qa, qb, qc, qd, qe, qf, qg, qh, qi]) (by simp (maxSteps := 1000000) (disch := first | exact dI | fail) only [push_cast, ↓reduceIte, qa, qb, qc, qd, qe, qf, qg, qh, qi]) ?_
          simp (maxSteps := 1000000) (disch := first | exact dI | fail) only [push_cast, ↓reduceIte, qa, qb, qc, qd, qe, qf, qg, qh, qi]
        | false =>
          simp only [bB, aB, stB] at hLn hSt
          simp (maxSteps := 1000000) (disch := first | exact dI | fail) only [exJ, aB, push_cast, ↓reduceIte, qa, qb, qc, qd, qe, qf, qg, qh, qi]
          refine ACall.lentK hLn [0] rfl (by simp (maxSteps := 1000000) (disch := first | exact dI | fail) only [push_cast, ↓reduceIte, qa, qb, qc, qd, qe, qf, qg, qh, qi]) (by simp (maxSteps := 1000000) (disch := first | exact dI | fail) only [push_cast, ↓reduceIte, qa, qb, qc, qd, qe, qf, qg, qh, qi]) ?_
          simp (maxSteps := 1000000) (disch := first | exact dI | fail) only [push_cast, ↓reduceIte, qa, qb, qc, qd, qe, qf, qg, qh, qi]
          refine ACall.lentK hSt [0] rfl (by simp (maxSteps := 1000000) (disch := first | exact dI | fail) only [push_cast, ↓reduceIte, qa, qb, qc, qd, qe, qf, qg, qh, qi]) (by simp (maxSteps := 1000000) (disch := first | exact dI | fail) only [push_cast, ↓reduceIte, qa, qb, qc, qd, qe, qf, qg, qh, qi]) ?_
          simp (maxSteps := 1000000) (disch := first | exact dI | fail) only [push_cast, ↓reduceIte, qa, qb, qc, qd, qe, qf, qg, qh, qi]
      | cons b r =>
        have hLn := lenBM m true (b :: r) (by omega)
        have hSt := stringBM m true (b :: r) (by omega)
        simp only [bB, aB, stB] at hLn hSt
        by_cases h65 : 65536 < (b :: r).length
        · rw [if_pos h65] at hJ
          rw [hJ]
          simp only [List.length_cons] at h65
          simp (maxSteps := 1000000) (disch := first | exact dI | fail) only [exJ, aB, push_cast, ↓reduceIte, qa, qb, qc, qd, qe, qf, qg, qh, qi]
          refine ACall.lentK hLn [0, 1] rfl (by simp (maxSteps := 1000000) (disch := first | exact dI | fail) only [push_cast, ↓reduceIte, qa, qb, qc, qd, qe, qf, qg, qh, qi]) (by simp (maxSteps := 1000000) (disch := first | exact dI | fail) only [push_cast, ↓reduceIte, qa, qb, qc, qd, qe, qf, qg, qh, qi]) ?_
          simp (maxSteps := 1000000) (disch := first | exact dI | fail) only [push_cast, ↓reduceIte, qa, qb, qc, qd, qe, qf, qg, qh, qi]
        · rw [if_neg h65] at hJ
          rw [hJ]
          simp only [List.length_cons] at h65
          simp (maxSteps := 1000000) (disch := first | exact dI | fail) only [exJ, aB, push_cast, ↓reduceIte, qa, qb, qc, qd, qe, qf, qg, qh, qi]
          refine ACall.lentK hLn [0, 1] rfl (by simp (maxSteps := 1000000) (disch := first | exact dI | fail) only [push_cast, ↓reduceIte, qa, qb, qc, qd, qe, qf, qg, qh, qi]) (by simp (maxSteps := 1000000) (disch := first | exact dI | fail) only [push_cast, ↓reduceIte, qa, qb, qc, qd, qe, qf, qg, qh, qi]) ?_
          simp (maxSteps := 1000000) (disch := first | exact dI | fail) only [push_cast, ↓reduceIte, qa, qb, qc, qd, qe, qf, qg, qh, qi]
          refine ACall.lentK hSt [0, 2] rfl (by simp (maxSteps := 1000000) (disch := first | exact dI | fail) only [push_cast, ↓reduceIte, qa, qb, qc, qd, qe, qf, qg, qh, qi]) (by simp (maxSteps := 1000000) (disch := first | exact dI | fail) only [push_cast, ↓reduceIte, qa, qb, qc, qd, qe, qf, qg, qh, qi]) ?_
          simp (maxSteps := 1000000) (disch := first | exact dI | fail) only [push_cast, ↓reduceIte, qa, qb, qc, qd, qe, qf, qg, qh, qi]
end Go.Proofs.YtbaaokocnegdoaaGreatDoor
