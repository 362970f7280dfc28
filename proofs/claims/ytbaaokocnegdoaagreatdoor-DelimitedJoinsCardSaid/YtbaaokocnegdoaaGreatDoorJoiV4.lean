/- A part of the proof for DelimitedJoinsCardSaid. -/
import Derived.Test.YtbaaokocnegdoaaGreatDoorJoiV3
set_option maxRecDepth 100000
set_option linter.unusedVariables false
set_option linter.unusedSimpArgs false
namespace Go.Proofs.YtbaaokocnegdoaaGreatDoor
open Go Go.Ab
open Nat renaming reduceEqDiff → qa, reduceAdd → qb, reduceMul → qc, reduceLeDiff → qd, reduceLT → qe, reduceBEq → qf, reduceSub → qg
open Int renaming reduceToNat → qh, reduceNeg → qi
attribute [local irreducible] vc
structure Sx where
  pos : Nat
  cells : List Cel
  places : List Nat
  wrong : Nat
  e : Int
def celP (c : Cel) : PV := .agg [.str c.1, .bool c.2]
def natP (n : Nat) : PV := .int .i64 (n : Int)
def posA (ph a : Nat) : AV := if ph = 4 then .any else .pv (.int .i64 (a : Int))
def bX (L : List UInt8) (sep : UInt8) (ph : Nat) (x : Sx) : List Blk :=
  [.cells 158 true [.pv (.str L), .pv (.int .u8 (sep.toNat : Int)), posA ph x.pos, .olist 1 2 (x.cells.map celP), .olist 2 1 (x.places.map natP), .pv (.int .i64 (x.wrong : Int)), .pv (.int .i64 x.e)], .tok 66 2, .tok 3 1]
def nextP : Nat → PV
  | 0 => .clo 108 [] []
  | 1 => .clo 161 [] []
  | 2 => .clo 160 [] []
  | 3 => .clo 209 [] []
  | _ => .nilf
theorem posA_4 (a : Nat) : posA 4 a = .any := rfl
theorem posA_0 (a : Nat) : posA 0 a = .pv (.int .i64 (a : Int)) := rfl
theorem posA_1 (a : Nat) : posA 1 a = .pv (.int .i64 (a : Int)) := rfl
theorem posA_2 (a : Nat) : posA 2 a = .pv (.int .i64 (a : Int)) := rfl
theorem posA_3 (a : Nat) : posA 3 a = .pv (.int .i64 (a : Int)) := rfl
theorem fail_ok (L : List UInt8) (sep : UInt8) (x : Sx) (o : Nat) (e : Int) : Lent Tryz.prog tabG 1 159 [.ptr 0 0, .pv (.int .i64 (o : Int)), .pv (.int .i64 e)] (bX L sep 0 x) (.pv .nilf) (bX L sep 4 ⟨x.pos, x.cells, x.places, o, e⟩) := by
  refine Lent.intro F159_ok (by simp [F159]) ?_
  simp (disch := first | exact dI | fail) only [F159o0, F159o1, F159o2, F159c, F159, bX, posA_0, posA_4, push_cast, ↓reduceIte, qa, qb, qc, qd, qe, qf, qg, qh, qi]
  exact lent_z [] (by simp (disch := first | exact dI | fail) only [push_cast, ↓reduceIte, qa, qb, qc, qd, qe, qf, qg, qh, qi])
def begS (L : List UInt8) (x : Sx) : Nat × Sx :=
  if x.cells.length = 64 then (4, ⟨x.pos, x.cells, x.places, x.pos, 9⟩)
  else if L[x.pos]? = some 34 then (2, ⟨x.pos + 1, x.cells, x.places ++ [x.pos], x.wrong, x.e⟩)
  else (1, ⟨x.pos, x.cells, x.places ++ [x.pos], x.wrong, x.e⟩)
theorem u8n (c d : UInt8) : ((c.toNat : Int) = (d.toNat : Int)) ↔ c = d := ⟨fun h => UInt8.toNat_inj.1 (by omega), fun h => h ▸ rfl⟩
theorem ne34 {c : UInt8} (h : c ≠ 34) : ¬ ((c.toNat : Int) = 34) := fun e => h (UInt8.toNat_inj.1 (by simpa using (by omega : c.toNat = 34)))
theorem ne13 {c : UInt8} (h : c ≠ 13) : ¬ ((c.toNat : Int) = 13) := fun e => h (UInt8.toNat_inj.1 (by simpa using (by omega : c.toNat = 13)))
theorem ne10 {c : UInt8} (h : c ≠ 10) : ¬ ((c.toNat : Int) = 10) := fun e => h (UInt8.toNat_inj.1 (by simpa using (by omega : c.toNat = 10)))
theorem begin_ok (L : List UInt8) (sep : UInt8) (x : Sx) (hL : L.length ≤ 65536) (hx : x.pos ≤ L.length) (hc : x.cells.length ≤ 64) (hp : x.places.length ≤ 64) :
    Lent Tryz.prog tabG 1 108 [.ptr 0 0] (bX L sep 0 x) (.pv (nextP (begS L x).1)) (bX L sep (begS L x).1 (begS L x).2) := by
  by_cases h64 : x.cells.length = 64
  · have hF := fail_ok L sep x x.pos 9
    rw [show begS L x = (4, ⟨x.pos, x.cells, x.places, x.pos, 9⟩) from if_pos h64]
    refine Lent.intro F108_ok (by simp [F108]) ?_
    rw [bX, posA_0] at hF
    simp (disch := first | exact dI | fail) only [F108o0, F108o1, F108o2, F108o3, F108p3, F108o4, F108p4, F108o5, F108o6, F108o7, F108c, F108, bX, posA_0, push_cast, ↓reduceIte, qa, qb, qc, qd, qe, qf, qg, qh, qi]
    refine ACall.lentK hF [0, 1, 2] rfl (by simp (disch := first | exact dI | fail) only [push_cast, ↓reduceIte, qa, qb, qc, qd, qe, qf, qg, qh, qi]) (by simp (disch := first | exact dI | fail) only [push_cast, ↓reduceIte, qa, qb, qc, qd, qe, qf, qg, qh, qi]) ?_
    simp (disch := first | exact dI | fail) only [bX, posA_4, push_cast, ↓reduceIte, qa, qb, qc, qd, qe, qf, qg, qh, qi]
    exact lent_z [] (by simp (disch := first | exact dI | fail) only [nextP, push_cast, ↓reduceIte, qa, qb, qc, qd, qe, qf, qg, qh, qi])
  · by_cases hlt : x.pos < L.length
    · obtain ⟨c, hcc⟩ : ∃ c, L[x.pos]? = some c := ⟨_, List.getElem?_eq_getElem hlt⟩
      by_cases h34 : c = 34
      · subst h34
        rw [show begS L x = (2, ⟨x.pos + 1, x.cells, x.places ++ [x.pos], x.wrong, x.e⟩) by unfold begS; rw [if_neg h64, if_pos hcc]]
        refine Lent.intro F108_ok (by simp [F108]) ?_
        simp (disch := first | exact dI | fail) only [F108o0, F108o1, F108o2, F108o3, F108p3, F108o4, F108p4, F108o5, F108o6, F108o7, F108c, F108, bX, posA_0, hcc, byteO_some, push_cast, ↓reduceIte, qa, qb, qc, qd, qe, qf, qg, qh, qi]
        exact lent_z [] (by simp (disch := first | exact dI | fail) only [nextP, posA_2, natP, List.map_append, push_cast, ↓reduceIte, qa, qb, qc, qd, qe, qf, qg, qh, qi])
      · have hne : ¬ ((c.toNat : Int) = 34) := fun h => h34 (UInt8.toNat_inj.1 (by simpa using (by omega : c.toNat = 34)))
        rw [show begS L x = (1, ⟨x.pos, x.cells, x.places ++ [x.pos], x.wrong, x.e⟩) by unfold begS; rw [if_neg h64, if_neg (by rw [hcc]; simpa using h34)]]
        refine Lent.intro F108_ok (by simp [F108]) ?_
        simp (disch := first | exact dI | fail) only [F108o0, F108o1, F108o2, F108o3, F108p3, F108o4, F108p4, F108o5, F108o6, F108o7, F108c, F108, bX, posA_0, hcc, byteO_some, push_cast, ↓reduceIte, qa, qb, qc, qd, qe, qf, qg, qh, qi]
        exact lent_z [] (by simp (disch := first | exact dI | fail) only [nextP, posA_1, natP, List.map_append, push_cast, ↓reduceIte, qa, qb, qc, qd, qe, qf, qg, qh, qi])
    · rw [show begS L x = (1, ⟨x.pos, x.cells, x.places ++ [x.pos], x.wrong, x.e⟩) by unfold begS; rw [if_neg h64, if_neg (by rw [List.getElem?_eq_none (by omega)]; simp)]]
      refine Lent.intro F108_ok (by simp [F108]) ?_
      simp (disch := first | exact dI | fail) only [F108o0, F108o1, F108o2, F108o3, F108p3, F108o4, F108p4, F108o5, F108o6, F108o7, F108c, F108, bX, posA_0, push_cast, ↓reduceIte, qa, qb, qc, qd, qe, qf, qg, qh, qi]
      exact lent_z [] (by simp (disch := first | exact dI | fail) only [nextP, posA_1, natP, List.map_append, push_cast, ↓reduceIte, qa, qb, qc, qd, qe, qf, qg, qh, qi])
def endS (L : List UInt8) (x : Sx) : Nat × Sx :=
  if L.length ≤ x.pos then (4, x) else (0, ⟨x.pos + 1, x.cells, x.places, x.wrong, x.e⟩)
theorem end_ok (L : List UInt8) (sep : UInt8) (x : Sx) (hL : L.length ≤ 65536) (hx : x.pos ≤ L.length) :
    Lent Tryz.prog tabG 1 209 [.ptr 0 0] (bX L sep 3 x) (.pv (nextP (endS L x).1)) (bX L sep (endS L x).1 (endS L x).2) := by
  by_cases h : L.length ≤ x.pos
  · rw [show endS L x = (4, x) from if_pos h]
    refine Lent.intro F209_ok (by simp [F209]) ?_
    simp (disch := first | exact dI | fail) only [F209o0, F209o1, F209p1, F209o2, F209o3, F209o4, F209c, F209, bX, posA_3, push_cast, ↓reduceIte, qa, qb, qc, qd, qe, qf, qg, qh, qi]
    exact lent_z [] (by simp (disch := first | exact dI | fail) only [nextP, posA_4, push_cast, ↓reduceIte, qa, qb, qc, qd, qe, qf, qg, qh, qi])
  · rw [show endS L x = (0, ⟨x.pos + 1, x.cells, x.places, x.wrong, x.e⟩) from if_neg h]
    refine Lent.intro F209_ok (by simp [F209]) ?_
    simp (disch := first | exact dI | fail) only [F209o0, F209o1, F209p1, F209o2, F209o3, F209o4, F209c, F209, bX, posA_3, push_cast, ↓reduceIte, qa, qb, qc, qd, qe, qf, qg, qh, qi]
    exact lent_z [] (by simp (disch := first | exact dI | fail) only [nextP, posA_0, push_cast, ↓reduceIte, qa, qb, qc, qd, qe, qf, qg, qh, qi])
def outS (x : Sx) : Out → Nat × Sx
  | .err o e => (4, ⟨x.pos, x.cells, x.places, o, e⟩)
  | .ok c a => (3, ⟨a, x.cells ++ [c], x.places, x.wrong, x.e⟩)
theorem plain_ok (L : List UInt8) (sep : UInt8) (x : Sx) (hL : L.length ≤ 65536) (hx : x.pos ≤ L.length) (hc : x.cells.length ≤ 64) :
    Lent Tryz.prog tabG 1 161 [.ptr 0 0] (bX L sep 1 x) (.pv (nextP (outS x (plainN L sep x.pos)).1)) (bX L sep (outS x (plainN L sep x.pos)).1 (outS x (plainN L sep x.pos)).2) := by
  obtain ⟨p, C, Pl, wr, er⟩ := x
  simp only at hx hc ⊢
  refine Lent.intro F161_ok (by simp [F161]) ?_
  simp (disch := first | exact dI | fail) only [F161o0, F161o1, F161o2, F161p2, F161o3, F161p3, F161o4, F161o5, F161o6, F161b7, F161o8, F161p8, F161o9, F161c, F161, bX, posA_1, push_cast, ↓reduceIte, qa, qb, qc, qd, qe, qf, qg, qh, qi]
  refine vc_over ([]) (fun m : Nat => []) (fun m => [(0, .cells 158 true [.pv (.str L), .pv (.int .u8 (sep.toNat : Int)), .pv (.int .i64 (m : Int)), .olist 1 2 (C.map celP), .olist 2 1 (Pl.map natP), .pv (.int .i64 (wr : Int)), .pv (.int .i64 er)])]) (fun m => p ≤ m ∧ m ≤ L.length ∧ scanP sep (L.drop p) = (m - p + (scanP sep (L.drop m)).1, (scanP sep (L.drop m)).2)) (fun m => L.length - m) (p) ?_; intro e0 σ0 n0 h0; simp (disch := first | exact dI | fail) only [push_cast, ↓reduceIte, qa, qb, qc, qd, qe, qf, qg, qh, qi] at h0; obtain ⟨rfl, rfl, rfl⟩ := h0; refine ⟨?_, ?_, ?_⟩
  · simp (disch := first | exact dI | fail) only [push_cast, ↓reduceIte, qa, qb, qc, qd, qe, qf, qg, qh, qi]
  · exact ⟨Nat.le_refl _, hx, by simp⟩
  · rintro m ⟨h1, h2, h3⟩
    by_cases hm : m < L.length
    · obtain ⟨c, hcc⟩ : ∃ c, L[m]? = some c := ⟨_, List.getElem?_eq_getElem hm⟩
      have hd := drop_at hcc
      by_cases hs : c = sep
      · subst hs
        have hp : plainN L c p = .ok ((L.drop p).take (m - p), false) m := by
          unfold plainN; rw [h3, hd]; simp [scanP]; omega
        rw [hp, outS]
        simp (disch := first | exact dI | fail) only [hcc, byteO_some, push_cast, ↓reduceIte, qa, qb, qc, qd, qe, qf, qg, qh, qi]
        exact lent_z [] (by simp (disch := first | exact dI | fail) only [nextP, posA_3, celP, List.map_append, List.drop_take, push_cast, ↓reduceIte, qa, qb, qc, qd, qe, qf, qg, qh, qi])
      · have hne : ¬ ((c.toNat : Int) = (sep.toNat : Int)) := fun h => hs ((u8n c sep).1 h)
        by_cases hb : bad c = true
        · have hp : plainN L sep p = .err m 6 := by
            unfold plainN; rw [h3, hd]; simp [scanP, hs, hb]; omega
          have hF := fail_ok L sep ⟨m, C, Pl, wr, er⟩ m 6
          rw [bX, posA_0] at hF
          rw [hp, outS]
          by_cases b1 : c = 34
          · subst b1
            simp (disch := first | exact dI | fail) only [hcc, byteO_some, push_cast, ↓reduceIte, qa, qb, qc, qd, qe, qf, qg, qh, qi]
            refine ACall.lentK hF [0, 1, 2] rfl (by simp (disch := first | exact dI | fail) only [push_cast, ↓reduceIte, qa, qb, qc, qd, qe, qf, qg, qh, qi]) (by simp (disch := first | exact dI | fail) only [push_cast, ↓reduceIte, qa, qb, qc, qd, qe, qf, qg, qh, qi]) ?_
            simp (disch := first | exact dI | fail) only [bX, posA_4, push_cast, ↓reduceIte, qa, qb, qc, qd, qe, qf, qg, qh, qi]
            exact lent_z [] (by simp (disch := first | exact dI | fail) only [nextP, push_cast, ↓reduceIte, qa, qb, qc, qd, qe, qf, qg, qh, qi])
          · have n1 := ne34 b1
            by_cases b2 : c = 13
            · subst b2
              simp (disch := first | exact dI | fail) only [hcc, byteO_some, push_cast, ↓reduceIte, qa, qb, qc, qd, qe, qf, qg, qh, qi]
              refine ACall.lentK hF [0, 1, 2] rfl (by simp (disch := first | exact dI | fail) only [push_cast, ↓reduceIte, qa, qb, qc, qd, qe, qf, qg, qh, qi]) (by simp (disch := first | exact dI | fail) only [push_cast, ↓reduceIte, qa, qb, qc, qd, qe, qf, qg, qh, qi]) ?_
              simp (disch := first | exact dI | fail) only [bX, posA_4, push_cast, ↓reduceIte, qa, qb, qc, qd, qe, qf, qg, qh, qi]
              exact lent_z [] (by simp (disch := first | exact dI | fail) only [nextP, push_cast, ↓reduceIte, qa, qb, qc, qd, qe, qf, qg, qh, qi])
            · have n2 := ne13 b2
              have b3 : c = 10 := by simpa [bad, b1, b2] using hb
              subst b3
              simp (disch := first | exact dI | fail) only [hcc, byteO_some, push_cast, ↓reduceIte, qa, qb, qc, qd, qe, qf, qg, qh, qi]
              refine ACall.lentK hF [0, 1, 2] rfl (by simp (disch := first | exact dI | fail) only [push_cast, ↓reduceIte, qa, qb, qc, qd, qe, qf, qg, qh, qi]) (by simp (disch := first | exact dI | fail) only [push_cast, ↓reduceIte, qa, qb, qc, qd, qe, qf, qg, qh, qi]) ?_
              simp (disch := first | exact dI | fail) only [bX, posA_4, push_cast, ↓reduceIte, qa, qb, qc, qd, qe, qf, qg, qh, qi]
              exact lent_z [] (by simp (disch := first | exact dI | fail) only [nextP, push_cast, ↓reduceIte, qa, qb, qc, qd, qe, qf, qg, qh, qi])
        · have hn : scanP sep (L.drop p) = (m + 1 - p + (scanP sep (L.drop (m + 1))).1, (scanP sep (L.drop (m + 1))).2) := by
            rw [h3, hd]; simp [scanP, hs, hb]; omega
          have n1 : ¬ ((c.toNat : Int) = 34) := ne34 (by rintro rfl; exact hb rfl)
          have n2 : ¬ ((c.toNat : Int) = 13) := ne13 (by rintro rfl; exact hb rfl)
          have n3 : ¬ ((c.toNat : Int) = 10) := ne10 (by rintro rfl; exact hb rfl)
          simp (disch := first | exact dI | fail) only [hcc, byteO_some, push_cast, ↓reduceIte, qa, qb, qc, qd, qe, qf, qg, qh, qi]
          exact ⟨m + 1, hd_z (by simp (disch := first | exact dI | fail) only [push_cast, ↓reduceIte, qa, qb, qc, qd, qe, qf, qg, qh, qi]), ⟨by omega, by omega, hn⟩, by omega⟩
    · have hd : L.drop m = [] := List.drop_eq_nil_of_le (by omega)
      have hp : plainN L sep p = .ok ((L.drop p).take (m - p), false) m := by
        unfold plainN; rw [h3, hd]; simp [scanP]; omega
      rw [hp, outS]
      simp (disch := first | exact dI | fail) only [push_cast, ↓reduceIte, qa, qb, qc, qd, qe, qf, qg, qh, qi]
      exact lent_z [] (by simp (disch := first | exact dI | fail) only [nextP, posA_3, celP, List.map_append, List.drop_take, push_cast, ↓reduceIte, qa, qb, qc, qd, qe, qf, qg, qh, qi])
end Go.Proofs.YtbaaokocnegdoaaGreatDoor
