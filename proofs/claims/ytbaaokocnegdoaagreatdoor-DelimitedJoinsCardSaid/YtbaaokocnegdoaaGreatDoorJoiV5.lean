/- A part of the proof for DelimitedJoinsCardSaid. -/
import Derived.Test.YtbaaokocnegdoaaGreatDoorJoiV4
import Derived.Test.YtbaaokocnegdoaaGreatDoorJoiV1
set_option maxRecDepth 100000
set_option linter.unusedVariables false
set_option linter.unusedSimpArgs false
-- many steps
namespace Go.Proofs.YtbaaokocnegdoaaGreatDoor
open Go Go.Ab
open Nat renaming reduceEqDiff → qa, reduceAdd → qb, reduceMul → qc, reduceLeDiff → qd, reduceLT → qe, reduceBEq → qf, reduceSub → qg
open Int renaming reduceToNat → qh, reduceNeg → qi
attribute [local irreducible] vc
def xB (L : List UInt8) (sep : UInt8) (C : List Cel) (Pl : List Nat) (wr : Nat) (er : Int) (a : Nat) : Blk :=
  .cells 158 true [.pv (.str L), .pv (.int .u8 (sep.toNat : Int)), .pv (.int .i64 (a : Int)), .olist 2 2 (C.map celP), .olist 3 1 (Pl.map natP), .pv (.int .i64 (wr : Int)), .pv (.int .i64 er)]
def hdQ (L : List UInt8) (sep : UInt8) (C : List Cel) (Pl : List Nat) (wr : Nat) (er : Int) : List UInt8 × Nat → St
  | ([], a) => ⟨[(0, .ptr 0 0), (3, .ptr 1 0)], [(0, xB L sep C Pl wr er a), (1, .cells 89 true [.pv .nilp, .pv .nils]), (2, .tok 66 2), (3, .tok 3 1)], 4⟩
  | (b :: r, a) => ⟨[(0, .ptr 0 0), (3, .ptr 1 0)], [(0, xB L sep C Pl wr er a), (1, .cells 89 true [.ptr 1 0, .row 4 1 0 (r.length + 1)]), (2, .tok 66 2), (3, .tok 3 1), (4, .cells 5 false ((bytesP (b :: r)).map .pv))], 5⟩
def exQ (L : List UInt8) (sep : UInt8) (C : List Cel) (Pl : List Nat) (wr : Nat) (er : Int) : List UInt8 × Nat → St
  | ([], a) => ⟨[(0, .ptr 0 0), (3, .ptr 1 0)], [(0, xB L sep C Pl wr er a), (1, .cells 89 true [.ptr 1 0, .pv .nils]), (2, .tok 66 2), (3, .tok 3 1)], 4⟩
  | (b :: r, a) => ⟨[(0, .ptr 0 0), (3, .ptr 1 0)], [(0, xB L sep C Pl wr er a), (1, .cells 89 true [.ptr 1 0, .row 4 1 0 (r.length + 1)]), (2, .tok 66 2), (3, .tok 3 1), (4, .cells 5 false ((bytesP (b :: r)).map .pv))], 5⟩
set_option maxHeartbeats 2000000 in
theorem quoted_ok (L : List UInt8) (sep : UInt8) (x : Sx) (hL : L.length ≤ 65536) (hx : x.pos ≤ L.length) (hc : x.cells.length ≤ 64) :
    Lent Tryz.prog tabG 1 160 [.ptr 0 0] (bX L sep 2 x) (.pv (nextP (outS x (quotN L sep x.pos)).1)) (bX L sep (outS x (quotN L sep x.pos)).1 (outS x (quotN L sep x.pos)).2) := by
  obtain ⟨p, C, Pl, wr, er⟩ := x
  simp only at hx hc ⊢
  obtain ⟨T, hT⟩ : ∃ T, T = (scanQ (L.drop p)).map (qpre [] p) := ⟨_, rfl⟩
  have hQ : quotN L sep p = closeN L sep T := by rw [quotN, hT]
  rw [hQ]
  refine Lent.intro F160_ok (by simp [F160]) ?_
  simp (maxSteps := 1000000) (disch := first | exact dI | fail) only [F160o0, F160o1, F160o2, F160p2, F160o3, F160o4, F160o5, F160p5, F160o6, F160o7, F160p7, F160o8, F160o9, F160b10, F160o11, F160p11, F160o12, F160o13, F160p13, F160o14, F160c, F160, bX, posA_2, push_cast, ↓reduceIte, qa, qb, qc, qd, qe, qf, qg, qh, qi]
  refine vc_meetS (hdQ L sep C Pl wr er) (fun y => y.2 ≤ L.length ∧ y.1.length ≤ y.2 ∧ T = (scanQ (L.drop y.2)).map (qpre y.1 y.2)) (fun y => L.length - y.2) ([], p) [0, 3] (exQ L sep C Pl wr er) (fun y => y.2 ≤ L.length ∧ y.1.length ≤ y.2 ∧ T = some y) ?_ ?_ ?_ ?_
  · exact hd_z (by simp (maxSteps := 1000000) (disch := first | exact dI | fail) only [hdQ, xB, push_cast, ↓reduceIte, qa, qb, qc, qd, qe, qf, qg, qh, qi])
  · exact ⟨hx, by simp, hT⟩
  · rintro ⟨t, a⟩ ⟨h1, h2, h3⟩
    simp only at h1 h2 h3
    rcases fstB_cases 34 (L.drop a) 0 with ⟨hf, hn⟩ | ⟨m, hf, hm, hn⟩
    · have hq := scanQ_none hn
      rw [hq] at h3
      have hI := index73 (L.drop a) 34
      rw [show ((34 : Int).toNat.toUInt8) = 34 from rfl, hf] at hI
      have hF := fail_ok L sep ⟨a, C, Pl, wr, er⟩ L.length 29
      rw [bX, posA_0] at hF
      rw [h3, Option.map_none, closeN, outS]
      cases t with
      | nil =>
        simp (maxSteps := 1000000) (disch := first | exact dI | fail) only [hdQ, xB, List.take_length, push_cast, ↓reduceIte, qa, qb, qc, qd, qe, qf, qg, qh, qi]
        refine ACall.pure hI rfl ?_
        simp (maxSteps := 1000000) (disch := first | exact dI | fail) only [push_cast, ↓reduceIte, qa, qb, qc, qd, qe, qf, qg, qh, qi]
        refine ACall.lentK hF [0, 2, 3] rfl (by simp (maxSteps := 1000000) (disch := first | exact dI | fail) only [push_cast, ↓reduceIte, qa, qb, qc, qd, qe, qf, qg, qh, qi]) (by simp (maxSteps := 1000000) (disch := first | exact dI | fail) only [push_cast, ↓reduceIte, qa, qb, qc, qd, qe, qf, qg, qh, qi]) ?_
        simp (maxSteps := 1000000) (disch := first | exact dI | fail) only [bX, posA_4, push_cast, ↓reduceIte, qa, qb, qc, qd, qe, qf, qg, qh, qi]
        exact lent_z [] (by simp (maxSteps := 1000000) (disch := first | exact dI | fail) only [nextP, push_cast, ↓reduceIte, qa, qb, qc, qd, qe, qf, qg, qh, qi])
      | cons b r =>
        simp (maxSteps := 1000000) (disch := first | exact dI | fail) only [hdQ, xB, List.take_length, push_cast, ↓reduceIte, qa, qb, qc, qd, qe, qf, qg, qh, qi]
        refine ACall.pure hI rfl ?_
        simp (maxSteps := 1000000) (disch := first | exact dI | fail) only [push_cast, ↓reduceIte, qa, qb, qc, qd, qe, qf, qg, qh, qi]
        refine ACall.lentK hF [0, 2, 3] rfl (by simp (maxSteps := 1000000) (disch := first | exact dI | fail) only [push_cast, ↓reduceIte, qa, qb, qc, qd, qe, qf, qg, qh, qi]) (by simp (maxSteps := 1000000) (disch := first | exact dI | fail) only [push_cast, ↓reduceIte, qa, qb, qc, qd, qe, qf, qg, qh, qi]) ?_
        simp (maxSteps := 1000000) (disch := first | exact dI | fail) only [bX, posA_4, push_cast, ↓reduceIte, qa, qb, qc, qd, qe, qf, qg, qh, qi]
        exact lent_z [] (by simp (maxSteps := 1000000) (disch := first | exact dI | fail) only [nextP, push_cast, ↓reduceIte, qa, qb, qc, qd, qe, qf, qg, qh, qi])
    · rw [Nat.zero_add] at hf
      have hm1 : L[a + m]? = some 34 := by rw [← List.getElem?_drop]; exact hm
      have hm2 := (List.getElem?_eq_some_iff.1 hm1).1
      have hI := index73 (L.drop a) 34
      rw [show ((34 : Int).toNat.toUInt8) = 34 from rfl, hf] at hI
      obtain ⟨k, hk⟩ : ∃ k, k = (L.drop a).take m := ⟨_, rfl⟩
      have hkl : k.length = m := by rw [hk]; simp; omega
      have ek : List.drop a (List.take (a + m) L) = k := by rw [hk, List.drop_take]; congr 1; omega
      rw [scanQ_idx hm hn, ← hk] at h3
      obtain ⟨q, hq⟩ : ∃ q, q = a + m + 1 := ⟨_, rfl⟩
      have ec : (a : Int) + ((m : Int) + 1) = (q : Int) := by omega
      have etn : ((a : Int) + (m : Int)).toNat = a + m := by omega
      rw [List.drop_drop, show a + (m + 1) = q by omega] at h3
      have hT1 : L[q]? = some 34 → T = (scanQ (L.drop (q + 1))).map (qpre (t ++ k ++ [34]) (q + 1)) := by
        intro h
        rw [h3, quoM, if_pos (by simpa using h), List.drop_drop]
        cases scanQ (L.drop (q + 1)) with
        | none => rfl
        | some z => simp [qpre, qcons]; omega
      have hT2 : L[q]? ≠ some 34 → T = some (t ++ k, q) := by
        intro h
        rw [h3, quoM, if_neg (by simpa using h)]
        simp [qpre]; omega
      have hc3 : L[q]? = some 34 ∨ (∃ c3, L[q]? = some c3 ∧ c3 ≠ 34) ∨ L.length ≤ q := by
        by_cases h : q < L.length
        · by_cases h4 : L[q] = 34
          · exact .inl (by rw [List.getElem?_eq_getElem h, h4])
          · exact .inr (.inl ⟨_, List.getElem?_eq_getElem h, h4⟩)
        · exact .inr (.inr (by omega))
      clear h3 hn hm hm1
      cases t with
      | nil =>
        have hW := writeS false [] k (by simp) (by omega)
        cases k with
        | nil =>
          have hB := writeB true [] 34 (by simp)
          rw [show (((34 : UInt8).toNat : Nat) : Int) = 34 from rfl] at hB
          simp only [bB, aB, List.nil_append] at hW hB
          simp (maxSteps := 1000000) (disch := first | exact dI | fail) only [hdQ, xB, List.take_length, push_cast, ↓reduceIte, qa, qb, qc, qd, qe, qf, qg, qh, qi]
          refine ACall.pure hI rfl ?_
          simp (maxSteps := 1000000) (disch := first | exact dI | fail) only [etn, ek, push_cast, ↓reduceIte, qa, qb, qc, qd, qe, qf, qg, qh, qi]
          refine ACall.lentK hW [1] rfl (by simp (maxSteps := 1000000) (disch := first | exact dI | fail) only [push_cast, ↓reduceIte, qa, qb, qc, qd, qe, qf, qg, qh, qi]) (by simp (maxSteps := 1000000) (disch := first | exact dI | fail) only [push_cast, ↓reduceIte, qa, qb, qc, qd, qe, qf, qg, qh, qi]) ?_
          rcases hc3 with hc3 | ⟨c3, hc3, hc4⟩ | hc3
          · have hlt := (List.getElem?_eq_some_iff.1 hc3).1
            simp (maxSteps := 1000000) (disch := first | exact dI | fail) only [ec, hc3, byteO_some, push_cast, ↓reduceIte, qa, qb, qc, qd, qe, qf, qg, qh, qi]
            refine ACall.lentK hB [1] rfl (by simp (maxSteps := 1000000) (disch := first | exact dI | fail) only [push_cast, ↓reduceIte, qa, qb, qc, qd, qe, qf, qg, qh, qi]) (by simp (maxSteps := 1000000) (disch := first | exact dI | fail) only [push_cast, ↓reduceIte, qa, qb, qc, qd, qe, qf, qg, qh, qi]) ?_
            simp (maxSteps := 1000000) (disch := first | exact dI | fail) only [push_cast, ↓reduceIte, qa, qb, qc, qd, qe, qf, qg, qh, qi]
            exact ⟨([34], q + 1), hd_z (by simp (maxSteps := 1000000) (disch := first | exact dI | fail) only [hdQ, xB, push_cast, ↓reduceIte, qa, qb, qc, qd, qe, qf, qg, qh, qi]), ⟨by omega, by simp only [List.length_cons, List.length_append, List.length_nil] at *; omega, by rw [hT1 hc3]; simp⟩, by simp only; omega⟩
          · have hlt := (List.getElem?_eq_some_iff.1 hc3).1
            have hn4 := ne34 hc4
            simp (maxSteps := 1000000) (disch := first | exact dI | fail) only [ec, hc3, byteO_some, push_cast, ↓reduceIte, qa, qb, qc, qd, qe, qf, qg, qh, qi]
            exact ⟨([], q), hd_z (by simp (maxSteps := 1000000) (disch := first | exact dI | fail) only [exQ, xB, push_cast, ↓reduceIte, qa, qb, qc, qd, qe, qf, qg, qh, qi]), ⟨by omega, by simp only [List.length_cons, List.length_append, List.length_nil] at *; omega, by rw [hT2 (by rw [hc3]; simpa using hc4)]; simp⟩⟩
          · simp (maxSteps := 1000000) (disch := first | exact dI | fail) only [ec, push_cast, ↓reduceIte, qa, qb, qc, qd, qe, qf, qg, qh, qi]
            exact ⟨([], q), hd_z (by simp (maxSteps := 1000000) (disch := first | exact dI | fail) only [exQ, xB, push_cast, ↓reduceIte, qa, qb, qc, qd, qe, qf, qg, qh, qi]), ⟨by omega, by simp only [List.length_cons, List.length_append, List.length_nil] at *; omega, by rw [hT2 (by rw [List.getElem?_eq_none hc3]; simp)]; simp⟩⟩
        | cons c k =>
          have hB := writeB true (c :: k) 34 (by simp at hkl ⊢; omega)
          rw [show (((34 : UInt8).toNat : Nat) : Int) = 34 from rfl] at hB
          simp only [bB, aB, List.nil_append, List.cons_append] at hW hB
          simp (maxSteps := 1000000) (disch := first | exact dI | fail) only [hdQ, xB, List.take_length, push_cast, ↓reduceIte, qa, qb, qc, qd, qe, qf, qg, qh, qi]
          refine ACall.pure hI rfl ?_
          simp (maxSteps := 1000000) (disch := first | exact dI | fail) only [etn, ek, push_cast, ↓reduceIte, qa, qb, qc, qd, qe, qf, qg, qh, qi]
          refine ACall.lentK hW [1] rfl (by simp (maxSteps := 1000000) (disch := first | exact dI | fail) only [push_cast, ↓reduceIte, qa, qb, qc, qd, qe, qf, qg, qh, qi]) (by simp (maxSteps := 1000000) (disch := first | exact dI | fail) only [push_cast, ↓reduceIte, qa, qb, qc, qd, qe, qf, qg, qh, qi]) ?_
          rcases hc3 with hc3 | ⟨c3, hc3, hc4⟩ | hc3
          · have hlt := (List.getElem?_eq_some_iff.1 hc3).1
            simp (maxSteps := 1000000) (disch := first | exact dI | fail) only [ec, hc3, byteO_some, push_cast, ↓reduceIte, qa, qb, qc, qd, qe, qf, qg, qh, qi]
            refine ACall.lentK hB [1, 9] rfl (by simp (maxSteps := 1000000) (disch := first | exact dI | fail) only [push_cast, ↓reduceIte, qa, qb, qc, qd, qe, qf, qg, qh, qi]) (by simp (maxSteps := 1000000) (disch := first | exact dI | fail) only [push_cast, ↓reduceIte, qa, qb, qc, qd, qe, qf, qg, qh, qi]) ?_
            simp (maxSteps := 1000000) (disch := first | exact dI | fail) only [push_cast, ↓reduceIte, qa, qb, qc, qd, qe, qf, qg, qh, qi]
            exact ⟨(c :: (k ++ [34]), q + 1), hd_z (by simp (maxSteps := 1000000) (disch := first | exact dI | fail) only [hdQ, xB, push_cast, ↓reduceIte, qa, qb, qc, qd, qe, qf, qg, qh, qi]), ⟨by omega, by simp only [List.length_cons, List.length_append, List.length_nil] at *; omega, by rw [hT1 hc3]; simp⟩, by simp only; omega⟩
          · have hlt := (List.getElem?_eq_some_iff.1 hc3).1
            have hn4 := ne34 hc4
            simp (maxSteps := 1000000) (disch := first | exact dI | fail) only [ec, hc3, byteO_some, push_cast, ↓reduceIte, qa, qb, qc, qd, qe, qf, qg, qh, qi]
            exact ⟨(c :: k, q), hd_z (by simp (maxSteps := 1000000) (disch := first | exact dI | fail) only [exQ, xB, push_cast, ↓reduceIte, qa, qb, qc, qd, qe, qf, qg, qh, qi]), ⟨by omega, by simp only [List.length_cons, List.length_append, List.length_nil] at *; omega, by rw [hT2 (by rw [hc3]; simpa using hc4)]; simp⟩⟩
          · simp (maxSteps := 1000000) (disch := first | exact dI | fail) only [ec, push_cast, ↓reduceIte, qa, qb, qc, qd, qe, qf, qg, qh, qi]
            exact ⟨(c :: k, q), hd_z (by simp (maxSteps := 1000000) (disch := first | exact dI | fail) only [exQ, xB, push_cast, ↓reduceIte, qa, qb, qc, qd, qe, qf, qg, qh, qi]), ⟨by omega, by simp only [List.length_cons, List.length_append, List.length_nil] at *; omega, by rw [hT2 (by rw [List.getElem?_eq_none hc3]; simp)]; simp⟩⟩
      | cons b r =>
          have hW := writeS true (b :: r) k (by simp at h2 ⊢; omega) (by omega)
          have hB := writeB true (b :: (r ++ k)) 34 (by simp at h2 ⊢; omega)
          rw [show (((34 : UInt8).toNat : Nat) : Int) = 34 from rfl] at hB
          simp only [bB, aB, List.nil_append, List.cons_append] at hW hB
          simp (maxSteps := 1000000) (disch := first | exact dI | fail) only [hdQ, xB, List.take_length, push_cast, ↓reduceIte, qa, qb, qc, qd, qe, qf, qg, qh, qi]
          refine ACall.pure hI rfl ?_
          simp (maxSteps := 1000000) (disch := first | exact dI | fail) only [etn, ek, push_cast, ↓reduceIte, qa, qb, qc, qd, qe, qf, qg, qh, qi]
          refine ACall.lentK hW [1, 4] rfl (by simp (maxSteps := 1000000) (disch := first | exact dI | fail) only [push_cast, ↓reduceIte, qa, qb, qc, qd, qe, qf, qg, qh, qi]) (by simp (maxSteps := 1000000) (disch := first | exact dI | fail) only [push_cast, ↓reduceIte, qa, qb, qc, qd, qe, qf, qg, qh, qi]) ?_
          rcases hc3 with hc3 | ⟨c3, hc3, hc4⟩ | hc3
          · have hlt := (List.getElem?_eq_some_iff.1 hc3).1
            simp (maxSteps := 1000000) (disch := first | exact dI | fail) only [ec, hc3, byteO_some, push_cast, ↓reduceIte, qa, qb, qc, qd, qe, qf, qg, qh, qi]
            refine ACall.lentK hB [1, 10] rfl (by simp (maxSteps := 1000000) (disch := first | exact dI | fail) only [push_cast, ↓reduceIte, qa, qb, qc, qd, qe, qf, qg, qh, qi]) (by simp (maxSteps := 1000000) (disch := first | exact dI | fail) only [push_cast, ↓reduceIte, qa, qb, qc, qd, qe, qf, qg, qh, qi]) ?_
            simp (maxSteps := 1000000) (disch := first | exact dI | fail) only [push_cast, ↓reduceIte, qa, qb, qc, qd, qe, qf, qg, qh, qi]
            exact ⟨(b :: (r ++ k ++ [34]), q + 1), hd_z (by simp (maxSteps := 1000000) (disch := first | exact dI | fail) only [hdQ, xB, push_cast, ↓reduceIte, qa, qb, qc, qd, qe, qf, qg, qh, qi]), ⟨by omega, by simp only [List.length_cons, List.length_append, List.length_nil] at *; omega, by rw [hT1 hc3]; simp⟩, by simp only; omega⟩
          · have hlt := (List.getElem?_eq_some_iff.1 hc3).1
            have hn4 := ne34 hc4
            simp (maxSteps := 1000000) (disch := first | exact dI | fail) only [ec, hc3, byteO_some, push_cast, ↓reduceIte, qa, qb, qc, qd, qe, qf, qg, qh, qi]
            exact ⟨(b :: (r ++ k), q), hd_z (by simp (maxSteps := 1000000) (disch := first | exact dI | fail) only [exQ, xB, push_cast, ↓reduceIte, qa, qb, qc, qd, qe, qf, qg, qh, qi]), ⟨by omega, by simp only [List.length_cons, List.length_append, List.length_nil] at *; omega, by rw [hT2 (by rw [hc3]; simpa using hc4)]; simp⟩⟩
          · simp (maxSteps := 1000000) (disch := first | exact dI | fail) only [ec, push_cast, ↓reduceIte, qa, qb, qc, qd, qe, qf, qg, qh, qi]
            exact ⟨(b :: (r ++ k), q), hd_z (by simp (maxSteps := 1000000) (disch := first | exact dI | fail) only [exQ, xB, push_cast, ↓reduceIte, qa, qb, qc, qd, qe, qf, qg, qh, qi]), ⟨by omega, by simp only [List.length_cons, List.length_append, List.length_nil] at *; omega, by rw [hT2 (by rw [List.getElem?_eq_none hc3]; simp)]; simp⟩⟩
  · rintro ⟨t, a⟩ ⟨h1, h2, h3⟩
    simp only at h1 h2
    have hc3 : (∃ c3, L[a]? = some c3 ∧ True) ∨ L.length ≤ a := by
      by_cases h : a < L.length
      · exact .inl ⟨_, List.getElem?_eq_getElem h, trivial⟩
      · exact .inr (by omega)
    have hS := stringB true t (by omega)
    cases t with
    | nil =>
      simp only [bB, aB, stB] at hS
      rcases hc3 with ⟨c3, hc3, hc4⟩ | hc3
      · have hlt := (List.getElem?_eq_some_iff.1 hc3).1
        by_cases hs : c3 = sep
        · subst hs
          have hp : closeN L c3 T = .ok ([], true) a := by rw [h3]; simp [closeN, hc3]
          rw [hp, outS]
          simp (maxSteps := 1000000) (disch := first | exact dI | fail) only [exQ, xB, hc3, byteO_some, push_cast, ↓reduceIte, qa, qb, qc, qd, qe, qf, qg, qh, qi]
          refine callDL_lentK hS [1] rfl (by simp (maxSteps := 1000000) (disch := first | exact dI | fail) only [push_cast, ↓reduceIte, qa, qb, qc, qd, qe, qf, qg, qh, qi]) (by simp (maxSteps := 1000000) (disch := first | exact dI | fail) only [push_cast, ↓reduceIte, qa, qb, qc, qd, qe, qf, qg, qh, qi]) ?_
          simp (maxSteps := 1000000) (disch := first | exact dI | fail) only [stB, push_cast, ↓reduceIte, qa, qb, qc, qd, qe, qf, qg, qh, qi]
          exact lent_z [] (by simp (maxSteps := 1000000) (disch := first | exact dI | fail) only [nextP, posA_3, celP, List.map_append, push_cast, ↓reduceIte, qa, qb, qc, qd, qe, qf, qg, qh, qi])
        · have hne : ¬ ((c3.toNat : Int) = (sep.toNat : Int)) := fun h => hs ((u8n c3 sep).1 h)
          have hp : closeN L sep T = .err a 13 := by rw [h3]; simp [closeN, hc3, hs]
          have hF := fail_ok L sep ⟨a, C, Pl, wr, er⟩ a 13
          rw [bX, posA_0] at hF
          rw [hp, outS]
          simp (maxSteps := 1000000) (disch := first | exact dI | fail) only [exQ, xB, hc3, byteO_some, push_cast, ↓reduceIte, qa, qb, qc, qd, qe, qf, qg, qh, qi]
          refine ACall.lentK hF [0, 2, 3] rfl (by simp (maxSteps := 1000000) (disch := first | exact dI | fail) only [push_cast, ↓reduceIte, qa, qb, qc, qd, qe, qf, qg, qh, qi]) (by simp (maxSteps := 1000000) (disch := first | exact dI | fail) only [push_cast, ↓reduceIte, qa, qb, qc, qd, qe, qf, qg, qh, qi]) ?_
          simp (maxSteps := 1000000) (disch := first | exact dI | fail) only [bX, posA_4, push_cast, ↓reduceIte, qa, qb, qc, qd, qe, qf, qg, qh, qi]
          exact lent_z [] (by simp (maxSteps := 1000000) (disch := first | exact dI | fail) only [nextP, push_cast, ↓reduceIte, qa, qb, qc, qd, qe, qf, qg, qh, qi])
      · have hge : L[a]? = none := List.getElem?_eq_none hc3
        have hp : closeN L sep T = .ok ([], true) a := by rw [h3]; simp [closeN, hge]
        rw [hp, outS]
        simp (maxSteps := 1000000) (disch := first | exact dI | fail) only [exQ, xB, push_cast, ↓reduceIte, qa, qb, qc, qd, qe, qf, qg, qh, qi]
        refine callDL_lentK hS [1] rfl (by simp (maxSteps := 1000000) (disch := first | exact dI | fail) only [push_cast, ↓reduceIte, qa, qb, qc, qd, qe, qf, qg, qh, qi]) (by simp (maxSteps := 1000000) (disch := first | exact dI | fail) only [push_cast, ↓reduceIte, qa, qb, qc, qd, qe, qf, qg, qh, qi]) ?_
        simp (maxSteps := 1000000) (disch := first | exact dI | fail) only [stB, push_cast, ↓reduceIte, qa, qb, qc, qd, qe, qf, qg, qh, qi]
        exact lent_z [] (by simp (maxSteps := 1000000) (disch := first | exact dI | fail) only [nextP, posA_3, celP, List.map_append, push_cast, ↓reduceIte, qa, qb, qc, qd, qe, qf, qg, qh, qi])
    | cons b r =>
      simp only [bB, aB, stB] at hS
      rcases hc3 with ⟨c3, hc3, hc4⟩ | hc3
      · have hlt := (List.getElem?_eq_some_iff.1 hc3).1
        by_cases hs : c3 = sep
        · subst hs
          have hp : closeN L c3 T = .ok (b :: r, true) a := by rw [h3]; simp [closeN, hc3]
          rw [hp, outS]
          simp (maxSteps := 1000000) (disch := first | exact dI | fail) only [exQ, xB, hc3, byteO_some, push_cast, ↓reduceIte, qa, qb, qc, qd, qe, qf, qg, qh, qi]
          refine callDL_lentK hS [1, 4] rfl (by simp (maxSteps := 1000000) (disch := first | exact dI | fail) only [push_cast, ↓reduceIte, qa, qb, qc, qd, qe, qf, qg, qh, qi]) (by simp (maxSteps := 1000000) (disch := first | exact dI | fail) only [push_cast, ↓reduceIte, qa, qb, qc, qd, qe, qf, qg, qh, qi]) ?_
          simp (maxSteps := 1000000) (disch := first | exact dI | fail) only [stB, push_cast, ↓reduceIte, qa, qb, qc, qd, qe, qf, qg, qh, qi]
          exact lent_z [] (by simp (maxSteps := 1000000) (disch := first | exact dI | fail) only [nextP, posA_3, celP, List.map_append, push_cast, ↓reduceIte, qa, qb, qc, qd, qe, qf, qg, qh, qi])
        · have hne : ¬ ((c3.toNat : Int) = (sep.toNat : Int)) := fun h => hs ((u8n c3 sep).1 h)
          have hp : closeN L sep T = .err a 13 := by rw [h3]; simp [closeN, hc3, hs]
          have hF := fail_ok L sep ⟨a, C, Pl, wr, er⟩ a 13
          rw [bX, posA_0] at hF
          rw [hp, outS]
          simp (maxSteps := 1000000) (disch := first | exact dI | fail) only [exQ, xB, hc3, byteO_some, push_cast, ↓reduceIte, qa, qb, qc, qd, qe, qf, qg, qh, qi]
          refine ACall.lentK hF [0, 2, 3] rfl (by simp (maxSteps := 1000000) (disch := first | exact dI | fail) only [push_cast, ↓reduceIte, qa, qb, qc, qd, qe, qf, qg, qh, qi]) (by simp (maxSteps := 1000000) (disch := first | exact dI | fail) only [push_cast, ↓reduceIte, qa, qb, qc, qd, qe, qf, qg, qh, qi]) ?_
          simp (maxSteps := 1000000) (disch := first | exact dI | fail) only [bX, posA_4, push_cast, ↓reduceIte, qa, qb, qc, qd, qe, qf, qg, qh, qi]
          exact lent_z [] (by simp (maxSteps := 1000000) (disch := first | exact dI | fail) only [nextP, push_cast, ↓reduceIte, qa, qb, qc, qd, qe, qf, qg, qh, qi])
      · have hge : L[a]? = none := List.getElem?_eq_none hc3
        have hp : closeN L sep T = .ok (b :: r, true) a := by rw [h3]; simp [closeN, hge]
        rw [hp, outS]
        simp (maxSteps := 1000000) (disch := first | exact dI | fail) only [exQ, xB, push_cast, ↓reduceIte, qa, qb, qc, qd, qe, qf, qg, qh, qi]
        refine callDL_lentK hS [1, 4] rfl (by simp (maxSteps := 1000000) (disch := first | exact dI | fail) only [push_cast, ↓reduceIte, qa, qb, qc, qd, qe, qf, qg, qh, qi]) (by simp (maxSteps := 1000000) (disch := first | exact dI | fail) only [push_cast, ↓reduceIte, qa, qb, qc, qd, qe, qf, qg, qh, qi]) ?_
        simp (maxSteps := 1000000) (disch := first | exact dI | fail) only [stB, push_cast, ↓reduceIte, qa, qb, qc, qd, qe, qf, qg, qh, qi]
        exact lent_z [] (by simp (maxSteps := 1000000) (disch := first | exact dI | fail) only [nextP, posA_3, celP, List.map_append, push_cast, ↓reduceIte, qa, qb, qc, qd, qe, qf, qg, qh, qi])
end Go.Proofs.YtbaaokocnegdoaaGreatDoor
