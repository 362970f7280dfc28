/- A part of the proof for DelimitedJoinsCardSaid. -/
import Derived.Test.YtbaaokocnegdoaaGreatDoorJoiV5
set_option maxRecDepth 100000
set_option linter.unusedVariables false
set_option linter.unusedSimpArgs false
namespace Go.Proofs.YtbaaokocnegdoaaGreatDoor
open Go Go.Ab
open Nat renaming reduceEqDiff → qa, reduceAdd → qb, reduceMul → qc, reduceLeDiff → qd, reduceLT → qe, reduceBEq → qf, reduceSub → qg
open Int renaming reduceToNat → qh, reduceNeg → qi
attribute [local irreducible] vc
def stepP (L : List UInt8) (sep : UInt8) (y : Nat × Sx) : Nat × Sx :=
  if y.1 = 0 then begS L y.2 else if y.1 = 1 then outS y.2 (plainN L sep y.2.pos) else if y.1 = 2 then outS y.2 (quotN L sep y.2.pos) else endS L y.2
def outP (L : List UInt8) (sep : UInt8) (y : Nat × Sx) : Res :=
  if y.1 = 0 then Ab.runN L sep y.2.pos y.2.cells y.2.places else if y.1 = 1 then contN L sep y.2.cells y.2.places (plainN L sep y.2.pos)
  else if y.1 = 2 then contN L sep y.2.cells y.2.places (quotN L sep y.2.pos) else if y.1 = 3 then endN L sep y.2.pos y.2.cells y.2.places
  else if y.2.e = 0 then .ok y.2.cells y.2.places else .err y.2.wrong y.2.e
def invP (L : List UInt8) (y : Nat × Sx) : Prop :=
  y.2.cells.length ≤ 64 ∧ y.2.places.length ≤ 64 ∧
  if y.1 = 0 then y.2.pos ≤ L.length ∧ y.2.e = 0 ∧ y.2.places.length = y.2.cells.length
  else if y.1 = 1 ∨ y.1 = 2 then y.2.pos ≤ L.length ∧ y.2.e = 0 ∧ y.2.places.length = y.2.cells.length + 1
  else if y.1 = 3 then y.2.pos ≤ L.length ∧ y.2.e = 0 ∧ y.2.places.length = y.2.cells.length
  else y.1 = 4
def muP (L : List UInt8) (y : Nat × Sx) : Nat :=
  if y.1 = 4 then 0 else 4 * (L.length + 1 - y.2.pos) + (if y.1 = 0 then 3 else if y.1 = 3 then 1 else 2)
theorem plainN_err {L : List UInt8} {sep : UInt8} {a o : Nat} {e : Int} (h : plainN L sep a = .err o e) : e ≠ 0 := by
  unfold plainN at h
  split at h <;> cases h
  decide
theorem quotN_err {L : List UInt8} {sep : UInt8} {a o : Nat} {e : Int} (h : quotN L sep a = .err o e) : e ≠ 0 := by
  unfold quotN at h
  cases hq : (scanQ (L.drop a)).map (qpre [] a) with
  | none => rw [hq] at h; cases h; decide
  | some p =>
    rw [hq] at h
    simp only [closeN] at h
    split at h
    · split at h <;> cases h
      decide
    · cases h
theorem step_out {L : List UInt8} {sep : UInt8} {y : Nat × Sx} (h : invP L y) (h4 : y.1 < 4) : outP L sep (stepP L sep y) = outP L sep y ∧ invP L (stepP L sep y) ∧ muP L (stepP L sep y) < muP L y := by
  obtain ⟨ph, p, C, Pl, wr, er⟩ := y
  obtain ⟨hc, hp, h⟩ := h
  simp only at hc hp h h4
  have key : ∀ o : Out, (∀ w e, o = .err w e → e ≠ 0) → (∀ c a, o = .ok c a → p ≤ a ∧ a ≤ L.length) → er = 0 → p ≤ L.length → Pl.length = C.length + 1 →
      outP L sep (outS ⟨p, C, Pl, wr, er⟩ o) = contN L sep C Pl o ∧ invP L (outS ⟨p, C, Pl, wr, er⟩ o) ∧ muP L (outS ⟨p, C, Pl, wr, er⟩ o) < 4 * (L.length + 1 - p) + 2 := by
    intro o h1 h2 h3 h5 h6
    cases o with
    | err w e => 
      have := h1 w e rfl
      simp [outS, outP, contN, invP, muP, this, hc, hp]
    | ok c a =>
      have := h2 c a rfl
      simp [outS, outP, contN, invP, muP, hc, hp, h3]
      omega
  obtain rfl | rfl | rfl | rfl : ph = 0 ∨ ph = 1 ∨ ph = 2 ∨ ph = 3 := by omega
  · simp only [if_true] at h
    obtain ⟨h1, h2, h3⟩ := h
    simp only [stepP, outP, if_true, begS]
    rw [Ab.runN_eq h1]
    by_cases h64 : C.length = 64
    · simp [h64, invP, muP]; omega
    · rw [if_neg h64, if_neg h64]
      unfold cellN
      by_cases hq : L[p]? = some 34
      · have hlt := (List.getElem?_eq_some_iff.1 hq).1
        rw [if_pos hq, if_pos hq]
        simp [invP, muP, h2, h3]; omega
      · rw [if_neg hq, if_neg hq]
        simp [invP, muP, h2, h3]; omega
  · simp at h
    obtain ⟨h1, h2, h3⟩ := h
    have := key (plainN L sep p) (fun w e => plainN_err) (fun c a hh => ⟨(plainN_ok h1 hh).1, (plainN_ok h1 hh).2.1⟩) h2 h1 h3
    simpa [stepP, outP, muP] using this
  · simp at h
    obtain ⟨h1, h2, h3⟩ := h
    have := key (quotN L sep p) (fun w e => quotN_err) (fun c a hh => ⟨(quotN_ok h1 hh).1, (quotN_ok h1 hh).2.1⟩) h2 h1 h3
    simpa [stepP, outP, muP] using this
  · simp at h
    obtain ⟨h1, h2, h3⟩ := h
    simp only [stepP, outP, endS, endN, muP]
    by_cases hl : L.length ≤ p
    · simp [hl, invP, h2, hc, hp]
    · simp [hl, invP, h2, h3, hc, hp]; omega
def fnP : Nat → Nat
  | 0 => 108
  | 1 => 161
  | 2 => 160
  | _ => 209
theorem step_ok (L : List UInt8) (sep : UInt8) (y : Nat × Sx) (hL : L.length ≤ 65536) (h : invP L y) (h4 : y.1 < 4) :
    Lent Tryz.prog tabG 1 (fnP y.1) [.ptr 0 0] (bX L sep y.1 y.2) (.pv (nextP (stepP L sep y).1)) (bX L sep (stepP L sep y).1 (stepP L sep y).2) := by
  obtain ⟨ph, x⟩ := y
  obtain ⟨hc, hp, h⟩ := h
  simp only at hc hp h h4
  obtain rfl | rfl | rfl | rfl : ph = 0 ∨ ph = 1 ∨ ph = 2 ∨ ph = 3 := by omega
  · simp only [if_true] at h
    exact begin_ok L sep x hL h.1 hc hp
  · simp at h
    exact plain_ok L sep x hL h.1 hc
  · simp at h
    exact quoted_ok L sep x hL h.1 hc
  · simp at h
    exact end_ok L sep x hL h.1
theorem posA_or (ph a : Nat) : posA ph a = .any ∨ posA ph a = .pv (.int .i64 (a : Int)) := by
  unfold posA; split
  · exact .inl rfl
  · exact .inr rfl
theorem posA_ne {ph a : Nat} (h : ¬ ph = 4) : posA ph a = .pv (.int .i64 (a : Int)) := if_neg h
theorem invP_le {L : List UInt8} {y : Nat × Sx} (h : invP L y) : y.1 ≤ 4 := by
  have := h.2.2
  split at this
  · omega
  · split at this
    · omega
    · split at this
      · omega
      · omega
def resV : Res → PV
  | .err o e => .tup [.nils, .nils, .int .i64 (o : Int), .int .i64 e]
  | .ok C Pl => .tup [.list (C.map celP), .list (Pl.map natP), .int .i64 0, .int .i64 0]
def splitN (L : List UInt8) (n : Int) : Res :=
  if sepB n = true then (if 65536 < L.length then .err 0 5 else Ab.runN L n.toNat.toUInt8 0 [] []) else .err 0 2
theorem split57 (L : List UInt8) (n : Int) : Pure Tryz.prog tabG 57 [.str L, .int .i64 n] (resV (splitN L n)) := by
  have hs := isSep47 n
  rw [sep_eq] at hs
  unfold splitN
  generalize hb : sepB n = b at *
  refine Pure.intro F57_ok (by simp [F57]) ?_
  cases b with
  | false =>
    rw [if_neg (by simp)]
    simp (disch := first | exact dI | fail) only [F57o0, F57o1, F57o2, F57o3, F57o4, F57o5, F57o6, F57o7, F57o8, F57b9, F57o10, F57o11, F57p11, F57o12, F57p12, F57c, F57, resV, push_cast, ↓reduceIte, qa, qb, qc, qd, qe, qf, qg, qh, qi]
    refine ACall.pure hs rfl ?_
    simp (disch := first | exact dI | fail) only [push_cast, ↓reduceIte, qa, qb, qc, qd, qe, qf, qg, qh, qi]
  | true =>
    have hn : 0 ≤ n ∧ n < 128 := by unfold sepB at hb; simp at hb; omega
    have hw := wrap_u8 hn.1 (by omega : n ≤ 255)
    by_cases hL : 65536 < L.length
    · simp only [if_true, hL]
      simp (disch := first | exact dI | fail) only [F57o0, F57o1, F57o2, F57o3, F57o4, F57o5, F57o6, F57o7, F57o8, F57b9, F57o10, F57o11, F57p11, F57o12, F57p12, F57c, F57, resV, push_cast, ↓reduceIte, qa, qb, qc, qd, qe, qf, qg, qh, qi]
      refine ACall.pure hs rfl ?_
      simp (disch := first | exact dI | fail) only [push_cast, ↓reduceIte, qa, qb, qc, qd, qe, qf, qg, qh, qi]
    · simp only [if_true, hL, if_false]
      obtain ⟨sep, hsep⟩ : ∃ sep, sep = n.toNat.toUInt8 := ⟨_, rfl⟩
      have hse : n = (sep.toNat : Int) := by rw [hsep]; simp; omega
      rw [← hsep]
      rw [hse] at hw
      simp (disch := first | exact dI | fail) only [F57o0, F57o1, F57o2, F57o3, F57o4, F57o5, F57o6, F57o7, F57o8, F57b9, F57o10, F57o11, F57p11, F57o12, F57p12, F57c, F57, hw, push_cast, ↓reduceIte, qa, qb, qc, qd, qe, qf, qg, qh, qi]
      refine ACall.pure hs rfl ?_
      simp (disch := first | exact dI | fail) only [hse, hw, push_cast, ↓reduceIte, qa, qb, qc, qd, qe, qf, qg, qh, qi]
      obtain ⟨R, hR⟩ : ∃ R, R = Ab.runN L sep 0 [] [] := ⟨_, rfl⟩
      rw [← hR]
      refine vc_over ([(8, 4, 66, 2), (8, 5, 3, 1)]) (fun y : Nat × Sx => [(9, .pv (nextP y.1))]) (fun y => [(0, .cells 158 true [.pv (.str L), .pv (.int .u8 (sep.toNat : Int)), posA y.1 y.2.pos, .olist 1 2 (y.2.cells.map celP), .olist 2 1 (y.2.places.map natP), .pv (.int .i64 (y.2.wrong : Int)), .pv (.int .i64 y.2.e)])]) (fun y => invP L y ∧ y.1 ≤ 4 ∧ R = outP L sep y) (fun y => muP L y) ((0, ⟨0, [], [], 0, 0⟩)) ?_; intro e0 σ0 n0 h0; simp (disch := first | exact dI | fail) only [push_cast, ↓reduceIte, qa, qb, qc, qd, qe, qf, qg, qh, qi] at h0; obtain ⟨rfl, rfl, rfl⟩ := h0; refine ⟨?_, ?_, ?_⟩
      · simp (disch := first | exact dI | fail) only [nextP, posA_0, push_cast, ↓reduceIte, qa, qb, qc, qd, qe, qf, qg, qh, qi]
      · exact ⟨by simp [invP], by simp, by simp [outP, hR]⟩
      · rintro ⟨ph, x⟩ ⟨h1, h2, h3⟩
        simp only at h2
        by_cases h4 : ph = 4
        · subst h4
          obtain ⟨p, C, Pl, wr, er⟩ := x
          have : R = if er = 0 then .ok C Pl else .err wr er := h3
          by_cases h0 : er = 0
          · subst h0
            rw [this, if_pos rfl]
            simp (disch := first | exact dI | fail) only [nextP, posA_4, resV, push_cast, ↓reduceIte, qa, qb, qc, qd, qe, qf, qg, qh, qi]
          · rw [this, if_neg h0]
            simp (disch := first | exact dI | fail) only [nextP, posA_4, resV, push_cast, ↓reduceIte, qa, qb, qc, qd, qe, qf, qg, qh, qi]
        · have hso := step_out (sep := sep) h1 (by simp only; omega)
          have hst := step_ok L sep (ph, x) (by omega) h1 (by simp only; omega)
          rw [← hso.1] at h3
          replace hso := hso.2
          generalize stepP L sep (ph, x) = z at *
          obtain ⟨ph', x'⟩ := z
          simp only at hst
          have hnx : ∃ f, nextP ph = .clo f [] [] ∧ f = fnP ph := by
            obtain rfl | rfl | rfl | rfl : ph = 0 ∨ ph = 1 ∨ ph = 2 ∨ ph = 3 := by omega
            all_goals exact ⟨_, rfl, rfl⟩
          obtain ⟨f, hf1, hf2⟩ := hnx
          rw [← hf2] at hst
          rw [bX, bX, posA_ne h4] at hst
          rcases posA_or ph' x'.pos with hz | hz
          · rw [hz] at hst
            simp (disch := first | exact dI | fail) only [hf1, posA_ne h4, push_cast, ↓reduceIte, qa, qb, qc, qd, qe, qf, qg, qh, qi]
            refine ACall.lentK hst [0, 1, 2] rfl (by simp (disch := first | exact dI | fail) only [push_cast, ↓reduceIte, qa, qb, qc, qd, qe, qf, qg, qh, qi]) (by simp (disch := first | exact dI | fail) only [push_cast, ↓reduceIte, qa, qb, qc, qd, qe, qf, qg, qh, qi]) ?_
            simp (disch := first | exact dI | fail) only [push_cast, ↓reduceIte, qa, qb, qc, qd, qe, qf, qg, qh, qi]
            exact ⟨(ph', x'), hd_z (by simp (disch := first | exact dI | fail) only [hz, push_cast, ↓reduceIte, qa, qb, qc, qd, qe, qf, qg, qh, qi]), ⟨hso.1, invP_le hso.1, h3⟩, hso.2⟩
          · rw [hz] at hst
            simp (disch := first | exact dI | fail) only [hf1, posA_ne h4, push_cast, ↓reduceIte, qa, qb, qc, qd, qe, qf, qg, qh, qi]
            refine ACall.lentK hst [0, 1, 2] rfl (by simp (disch := first | exact dI | fail) only [push_cast, ↓reduceIte, qa, qb, qc, qd, qe, qf, qg, qh, qi]) (by simp (disch := first | exact dI | fail) only [push_cast, ↓reduceIte, qa, qb, qc, qd, qe, qf, qg, qh, qi]) ?_
            simp (disch := first | exact dI | fail) only [push_cast, ↓reduceIte, qa, qb, qc, qd, qe, qf, qg, qh, qi]
            exact ⟨(ph', x'), hd_z (by simp (disch := first | exact dI | fail) only [hz, push_cast, ↓reduceIte, qa, qb, qc, qd, qe, qf, qg, qh, qi]), ⟨hso.1, invP_le hso.1, h3⟩, hso.2⟩
def resC : Res → PV
  | .err o e => .tup [.nils, .int .i64 (o : Int), .int .i64 e]
  | .ok C _ => .tup [.list (C.map celP), .int .i64 0, .int .i64 0]
theorem split28 (L : List UInt8) (n : Int) : Pure Tryz.prog tabG 28 [.str L, .int .i64 n] (resC (splitN L n)) := by
  have h := split57 L n
  generalize splitN L n = R at *
  refine Pure.intro F28_ok (by simp [F28]) ?_
  cases R with
  | err o e =>
    simp only [resV] at h
    simp only [resC]
    simp (disch := first | exact dI | fail) only [F28o0, F28o1, F28o2, F28c, F28, push_cast, ↓reduceIte, qa, qb, qc, qd, qe, qf, qg, qh, qi]
    refine ACall.pure h rfl ?_
    simp (disch := first | exact dI | fail) only [push_cast, ↓reduceIte, qa, qb, qc, qd, qe, qf, qg, qh, qi]
  | ok C Pl =>
    simp only [resV] at h
    simp only [resC]
    simp (disch := first | exact dI | fail) only [F28o0, F28o1, F28o2, F28c, F28, push_cast, ↓reduceIte, qa, qb, qc, qd, qe, qf, qg, qh, qi]
    refine ACall.pure h rfl ?_
    simp (disch := first | exact dI | fail) only [push_cast, ↓reduceIte, qa, qb, qc, qd, qe, qf, qg, qh, qi]
end Go.Proofs.YtbaaokocnegdoaaGreatDoor
