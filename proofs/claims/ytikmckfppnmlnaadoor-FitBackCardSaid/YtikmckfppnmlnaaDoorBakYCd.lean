/- A part of the proof for FitBackCardSaid. -/
import Derived.Test.YtikmckfppnmlnaaDoorBakYCa
set_option maxRecDepth 100000
set_option linter.unusedVariables false
set_option linter.unusedSimpArgs false
namespace Go.Proofs.YtikmckfppnmlnaaDoor
open Go Go.Ab
open Nat renaming reduceEqDiff → qa, reduceAdd → qb, reduceMul → qc, reduceLeDiff → qd, reduceLT → qe, reduceBEq → qf, reduceSub → qg
open Int renaming reduceToNat → qh, reduceNeg → qi
attribute [local irreducible] vc
theorem rSliceL_any {r sz n i : Nat} {k : IntKind} (hs : 0 < sz) (h : i ≤ n) : ∃ z, rSliceL sz (.row r sz 0 n) (some (.pv (.int k (i : Int)))) none = some z := by
  by_cases hi : i < n
  · exact ⟨_, rSliceL_lo rfl hi hs rfl rfl⟩
  · have : i = n := by omega
    subst this
    by_cases h0 : i = 0
    · subst h0; exact ⟨_, rSliceL_row0 hs⟩
    · exact ⟨_, by simp [rSliceL, rBound, hs, h0]; rfl⟩
theorem rSliceL_nil0 (sz : Nat) (k : IntKind) : rSliceL sz (.pv .nils) (some (.pv (.int k 0))) none = some (.pv .nils) := by
  simp [rSliceL, rBound]
theorem namesL_any (p : List PV) (n : Nat) : AV.namesL (p.map AV.pv ++ List.replicate n .any) = [] := by
  induction p with
  | nil =>
    induction n with
    | zero => rfl
    | succ n ih => simpa [List.replicate_succ, AV.namesL, AV.names] using ih
  | cons a r ih => simpa [AV.namesL, AV.names] using ih
theorem renL_any (f : Nat → Option Nat) (p : List PV) (n : Nat) : AV.renL f (p.map AV.pv ++ List.replicate n .any) = p.map AV.pv ++ List.replicate n .any := by
  induction p with
  | nil =>
    induction n with
    | zero => rfl
    | succ n ih => simpa [List.replicate_succ, AV.renL, AV.ren] using ih
  | cons a r ih => simpa [AV.renL, AV.ren] using ih
set_option maxHeartbeats 4000000 in
theorem insert103 (l : List Fld) (x : Fld) (i : Nat) (hi : i ≤ l.length) (hl : l.length ≤ 1000) :
    Lent Tryd.prog tabG 0 103 [.row 0 7 0 l.length, .pv (.int .i64 i), .olist 1 7 [x.pv]] [.cells 127 false ((rowP l).map .pv), .tok 127 7] (.row 0 7 0 (l.length + 1)) [.cells 127 false ((rowP (insAt l i x)).map .pv)] := by
  have hfl := flat_row x
  have hxl : ((rowP [x]).map AV.pv).length = 7 := by rw [row_one]; exact cellF_len x
  have hx1 : ((rowP [x]).map AV.pv).all AV.one = true := by rw [← rowF_map]; exact rowF_one [x]
  have hcl := Fld.cells_len x
  refine Lent.full (by omega) ?_ ?_
  · intro h0 _
    have hnil : l = [] := List.eq_nil_of_length_eq_zero h0
    subst hnil
    have hi0 : i = 0 := by simpa using hi
    subst hi0
    have e : insAt [] 0 x = [x] := rfl
    rw [e]
    refine Lent.intro F103_ok (by simp [F103]) ?_
    simp (disch := first | exact dI | fail) only [F103o0, F103o1, F103o2, F103o3, F103o4, F103o5, F103o6, F103o7, F103o8, F103o9, F103o10, F103o11, F103p11, F103o12, F103o13, F103o14, F103o15, F103p15, F103o16, F103o17, F103o18, F103o19, F103o20, F103c, F103, rSliceL_nil0, hfl, push_cast, ↓reduceIte, qa, qb, qc, qd, qe, qf, qg, qh, qi]
    exact lent_z [] (by simp (disch := first | exact dI | fail) only [push_cast, ↓reduceIte, qa, qb, qc, qd, qe, qf, qg, qh, qi])
  · intro cap hc hL
    have hrl := rowP_len l
    rw [List.length_map, hrl] at hL
    obtain ⟨N, hN⟩ : ∃ N, cap * 7 - ((rowP l).map AV.pv).length = N := ⟨_, rfl⟩
    rw [hN]
    rw [List.length_map, hrl] at hN
    by_cases hin : i = l.length
    · subst hin
      have hj := insAt_end l x
      have htk : ((rowP l).map AV.pv ++ List.replicate N AV.any).take (l.length * 7) = (rowP l).map .pv := List.take_left' (by rw [List.length_map, hrl])
      obtain ⟨L, hLL⟩ : ∃ L, (rowP l).map AV.pv ++ List.replicate N AV.any = L := ⟨_, rfl⟩
      have hLn : L.length = cap * 7 := by rw [← hLL]; simp only [List.length_append, List.length_map, List.length_replicate, hrl]; omega
      rw [hLL] at htk ⊢
      obtain ⟨z, hz⟩ := rSliceL_any (r := 0) (sz := 7) (n := l.length) (i := l.length) (k := .i64) (by omega) (Nat.le_refl _)
      refine Lent.intro F103_ok (by simp [F103]) ?_
      simp (disch := first | exact dI | fail) only [F103o0, F103o1, F103o2, F103o3, F103o4, F103o5, F103o6, F103o7, F103o8, F103o9, F103o10, F103o11, F103p11, F103o12, F103o13, F103o14, F103o15, F103p15, F103o16, F103o17, F103o18, F103o19, F103o20, F103c, F103, hz, htk, hfl, hj, push_cast, ↓reduceIte, qa, qb, qc, qd, qe, qf, qg, qh, qi]
      exact lent_z [] (by simp (disch := first | exact dI | fail) only [push_cast, ↓reduceIte, qa, qb, qc, qd, qe, qf, qg, qh, qi])
    · have hlt : i < l.length := by omega
      have hne : ¬ (i : Int) = l.length := by omega
      have hAl : (rowF (l.take i)).length = i * 7 := by rw [rowF_len, List.length_take, Nat.min_eq_left (by omega)]
      have hBl : (rowF (l.drop i)).length = (l.length - i) * 7 := by rw [rowF_len, List.length_drop]
      have hA1 := rowF_one (l.take i)
      have hB1 := rowF_one (l.drop i)
      have hrow := insAt_row l i x
      rw [← row_one] at hrow
      have hcut : (rowP l).map AV.pv ++ List.replicate N AV.any = rowF (l.take i) ++ (rowF (l.drop i) ++ List.replicate N AV.any) := by rw [← rowF_map]; exact cutR i
      rw [hcut]
      obtain ⟨L, hLL⟩ : ∃ L, rowF (l.take i) ++ (rowF (l.drop i) ++ List.replicate N AV.any) = L := ⟨_, rfl⟩
      have hLn : L.length = cap * 7 := by rw [← hLL]; simp only [List.length_append, hAl, hBl, List.length_replicate]; omega
      generalize rowP (insAt l i x) = R at *
      generalize rowF (l.take i) = A at *
      generalize rowF (l.drop i) = B at *
      rw [hLL]
      obtain ⟨z, hz⟩ := rSliceL_any (r := 0) (sz := 7) (n := l.length) (i := i) (k := .i64) (by omega) hi
      have hcap := capB_ok (sz := 7) (T := 127) (by omega) hLn
      have hX1 : ((rowP [x]).map AV.pv).take 7 = (rowP [x]).map AV.pv := List.take_of_length_le (by omega)
      have hBt : (L.drop (i * 7)).take ((l.length - i) * 7) = B := by
        rw [← hLL, ← hAl, List.drop_left, ← hBl, List.take_left]
      by_cases hroom : l.length + 1 ≤ cap
      · -- in place
        have hroomI : (l.length : Int) + 1 ≤ cap := by omega
        obtain ⟨L1, hL1⟩ : ∃ L1, L.take ((i + 1) * 7) ++ ((L.drop (i * 7)).take ((l.length + 1 - i) * 7)).take ((l.length - i) * 7) ++ L.drop ((i + 1) * 7 + (l.length - i) * 7) = L1 := ⟨_, rfl⟩
        have hsh : L1.length = L.length ∧ L1.take (i * 7) ++ (rowP [x]).map AV.pv ++ L1.drop (i * 7 + 7) = A ++ ((rowP [x]).map AV.pv ++ (B ++ (List.replicate N AV.any).drop 7)) := by
          rw [← hLL]
          refine shift_eq hAl hBl hxl (by rw [List.length_replicate]; omega) ?_
          rw [hLL, ← hL1, show (i + 1) * 7 = i * 7 + 7 by omega, show (l.length + 1 - i) * 7 = (l.length - i) * 7 + 7 by omega]
        obtain ⟨hL1n, hL2⟩ := hsh
        rw [← List.append_assoc _ B, ← List.append_assoc A, ← hrow, List.drop_replicate] at hL2
        have h1 := reslB_ok (sz := 7) (r := 0) (T := 127) (n := l.length + 1) (h := (l.length : Int) + 1) (l := L) (by omega) (by omega) (by omega)
        have h2 := rSliceL_lo (sz := 7) (r := 0) (off := 0) (n := l.length + 1) (i := i + 1) (m := l.length - i) (o := (i + 1) * 7) (k := .i64) (a := (i : Int) + 1) (by omega) (by omega) (by omega) (by omega) (by omega)
        have h3 := rSliceL_lo (sz := 7) (r := 0) (off := 0) (n := l.length + 1) (i := i) (m := l.length + 1 - i) (o := i * 7) (k := .i64) (a := (i : Int)) rfl (by omega) (by omega) rfl (by omega)
        have h4 := apartB_ok (r := 1) (q := 0) (e := 127) (n := 7) (T := 127) (l := [x.pv]) (k := L) (by omega) (by omega) (by simp)
        have h5 := srcB_ok (sz := 7) (off := i * 7) (len := l.length + 1 - i) (T := 127) (f := true) (l := L) (by omega)
        have h6 := copyR_ok (sz := 7) (r := 0) (off := (i + 1) * 7) (len := l.length - i) (T := 127) (m := l.length + 1 - i) (n := l.length - i) (f := true) (l := L) (cs := (L.drop (i * 7)).take ((l.length + 1 - i) * 7)) (k := L1) (by omega) (by omega) (by
          rw [List.take_take, Nat.min_eq_left (by omega), hBt]; exact hB1) hL1
        have h7 := copyR_ok (sz := 7) (r := 0) (off := i * 7) (len := l.length + 1 - i) (T := 127) (m := 1) (n := 1) (f := true) (l := L1) (cs := (rowP [x]).map AV.pv) (k := R.map AV.pv ++ List.replicate (N - 7) AV.any) (by omega) (by omega) (by rw [hX1]; exact hx1) (by rw [Nat.one_mul, hX1]; exact hL2)
        have hnm : AV.namesL (R.map AV.pv ++ List.replicate (N - 7) AV.any) = [] := namesL_any _ _
        refine Lent.intro F103_ok (by simp [F103]) ?_
        simp (disch := first | exact dI | fail) only [F103o0, F103o1, F103o2, F103o3, F103o4, F103o5, F103o6, F103o7, F103o8, F103o9, F103o10, F103o11, F103p11, F103o12, F103o13, F103o14, F103o15, F103p15, F103o16, F103o17, F103o18, F103o19, F103o20, F103c, F103, Int.zero_add, hz, hcap, h1, h2, h3, h4, h5, h6, h7, hfl, push_cast, ↓reduceIte, qa, qb, qc, qd, qe, qf, qg, qh, qi]
        exact lent_z [] (by simp (disch := first | exact dI | fail) only [hnm, renL_any, push_cast, ↓reduceIte, qa, qb, qc, qd, qe, qf, qg, qh, qi])
      · -- into a new row
        have hcl2 : l.length = cap := by omega
        have hroomI : ¬ (l.length : Int) + 1 ≤ cap := by omega
        have hroomJ : (cap : Int) < (l.length : Int) + 1 := by omega
        obtain ⟨Zs, hZs⟩ : ∃ Zs : List AV, (List.replicate (l.length + 1 - i) [PV.str [], PV.int .i64 0, PV.int .i64 0, PV.int .i64 0, PV.str [], PV.nils, PV.nils]).flatten.map AV.pv = Zs := ⟨_, rfl⟩
        have hZl : Zs.length = (l.length - i) * 7 + 7 := by
          rw [← hZs, List.length_map, List.length_flatten]
          simp; omega
        have hAt : L.take (i * 7) = A := by rw [← hLL, ← hAl, List.take_left]
        obtain ⟨M1, hM1⟩ : ∃ M1, (A ++ Zs).take (i * 7) ++ (rowP [x]).map AV.pv ++ (A ++ Zs).drop (i * 7 + 7) = M1 := ⟨_, rfl⟩
        obtain ⟨hM1n, hM2⟩ := grow_eq hAl hBl hxl hZl hM1
        rw [← hrow] at hM2
        have h2 := rSliceL_rowhi (sz := 7) (r := 0) (off := 0) (n := l.length) (k := .i64) (h := (i : Int)) (by omega) (by omega) (by omega)
        rw [Int.toNat_natCast] at h2
        have h1 := appzB_ok (e := 127) (sz := 7) (by_ := 104) (new := 3) (len := i) (T := 127) (n := l.length + 1 - i) (m := l.length + 1) (k := (l.length : Int) + 1 - (i : Int)) (l := L) (j := A ++ Zs) (zs := [PV.str [], PV.int .i64 0, PV.int .i64 0, PV.int .i64 0, PV.str [], PV.nils, PV.nils]) (by omega) (by omega) (by omega) (by omega) (by omega) rfl rfl (room_ok (by omega) (by omega)) (by rw [hAt, hZs])
        have h3 := rSliceL_lo (sz := 7) (r := 3) (off := 0) (n := l.length + 1) (i := i) (m := l.length + 1 - i) (o := i * 7) (k := .i64) (a := (i : Int)) rfl (by omega) (by omega) rfl (by omega)
        have h4 := copyR_ok (sz := 7) (r := 3) (off := i * 7) (len := l.length + 1 - i) (T := 127) (m := 1) (n := 1) (f := false) (l := A ++ Zs) (cs := (rowP [x]).map AV.pv) (k := M1) (by omega) (by simp only [List.length_append, hAl, hZl]; omega) (by rw [hX1]; exact hx1) (by rw [Nat.one_mul, hX1]; exact hM1)
        have h5 := rSliceL_lo (sz := 7) (r := 3) (off := 0) (n := l.length + 1) (i := i + 1) (m := l.length - i) (o := (i + 1) * 7) (k := .i64) (a := (i : Int) + 1) (by omega) (by omega) (by omega) (by omega) (by omega)
        have h6 := rSliceL_lo (sz := 7) (r := 0) (off := 0) (n := l.length) (i := i) (m := l.length - i) (o := i * 7) (k := .i64) (a := (i : Int)) rfl (by omega) (by omega) rfl (by omega)
        have h7 := srcB_ok (sz := 7) (off := i * 7) (len := l.length - i) (T := 127) (f := true) (l := L) (by omega)
        rw [hBt] at h7
        have hBl2 : B.take ((l.length - i) * 7) = B := List.take_of_length_le (by omega)
        have h8 := copyR_ok (sz := 7) (r := 3) (off := (i + 1) * 7) (len := l.length - i) (T := 127) (m := l.length - i) (n := l.length - i) (f := false) (l := M1) (cs := B) (k := R.map AV.pv) (by omega) (by omega) (by rw [hBl2]; exact hB1) (by rw [hBl2, show (i + 1) * 7 = i * 7 + 7 by omega]; exact hM2)
        refine Lent.intro F103_ok (by simp [F103]) ?_
        simp (disch := first | exact dI | fail) only [F103o0, F103o1, F103o2, F103o3, F103o4, F103o5, F103o6, F103o7, F103o8, F103o9, F103o10, F103o11, F103p11, F103o12, F103o13, F103o14, F103o15, F103p15, F103o16, F103o17, F103o18, F103o19, F103o20, F103c, F103, Int.zero_add, hcap, h1, h2, h3, h4, h5, h6, h7, h8, hfl, push_cast, ↓reduceIte, qa, qb, qc, qd, qe, qf, qg, qh, qi]
        exact lent_z [] (by simp (disch := first | exact dI | fail) only [push_cast, ↓reduceIte, qa, qb, qc, qd, qe, qf, qg, qh, qi])
end Go.Proofs.YtikmckfppnmlnaaDoor
