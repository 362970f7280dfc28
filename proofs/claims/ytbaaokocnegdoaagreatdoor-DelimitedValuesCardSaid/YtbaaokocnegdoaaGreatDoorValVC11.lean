/- A part of the proof for DelimitedValuesCardSaid. -/
import Derived.Test.YtbaaokocnegdoaaGreatDoorValVC9
set_option maxRecDepth 100000
set_option linter.unusedVariables false
set_option linter.unusedSimpArgs false
-- many steps
namespace Go.Proofs.YtbaaokocnegdoaaGreatDoor
open Go Go.Ab
attribute [local irreducible] vc
def timeR (y m d h mi s ms : Int) : Int × Int := if (dayR y m d).2 ≠ 0 ∨ 23 < h ∨ 59 < mi ∨ 59 < s then (0, 17) else ((dayR y m d).1 * 86400000 + (((60 * h + mi) * 60 + s) * 1000 + ms), 0)
def tailT (r : List UInt8) : Option Int :=
 if preB [46] r = true then (match numP 3 (r.drop 1) with
  | some p => if p.1 = 0 ∨ p.2 ≠ [90] then none else some p.1
  | none => none) else if r = [90] then some 0 else none
def msT : List (List UInt8) := [[], [45], [45], [84], [58], [58]]
def ksT : List Nat := [4, 2, 2, 2, 2, 2]
def parseT (s : List UInt8) : Int × Int :=
 match numsP msT ksT s with
 | some ([y, m, d, h, mi, sec], r) => (match tailT r with
   | some ms => timeR y m d h mi sec ms
   | none => (0, 13))
 | _ => (0, 13)
theorem dayR_range {y m d : Int} (h : (dayR y m d).2 = 0) : -719162 ≤ (dayR y m d).1 ∧ (dayR y m d).1 ≤ 2932896 := by
 unfold dayR at h ⊢
 split
 ·rename_i hd
  have := day_range (dayR_ok hd).1
  simp only
  omega
 ·rename_i hd
  rw [if_neg hd] at h; simp at h
theorem join78 {d r : Int} (h1 : -719162 ≤ d ∧ d ≤ 2932896) (h2 : 0 ≤ r ∧ r ≤ 86399999) : Pure Tryz.prog tabG 78 [.int .i64 d, .int .i64 r] (.tup [.int .i64 (d * 86400000 + r), .int .i64 0]) := by
 have hi1 := in125_t h1
 have hi2 := in125_t h2
 refine Pure.intro F78_ok (by simp [F78]) ?_
 simp (maxSteps:=9^7) (disch:=first|exact dI|fail) only [F78, push_cast, seval]
 refine ACall.pure hi1 rfl ?_
 simp (maxSteps:=9^7) (disch:=first|exact dI|fail) only [push_cast, seval]
 refine ACall.pure hi2 rfl ?_
 simp (maxSteps:=9^7) (disch:=first|exact dI|fail) only [push_cast, seval]
theorem two_le {l : List UInt8} (h : (l.take 2).all isD = true) : 0 ≤ digV 0 (l.take 2) ∧ digV 0 (l.take 2) ≤ 99 := by
 have := digV_bound _ 0 (by omega) h
 have hp : 10 ^ (l.take 2).length ≤ 10 ^ 2 := Nat.pow_le_pow_right (by omega) (by simp; omega)
 omega
theorem three_le {l : List UInt8} (h : (l.take 3).all isD = true) : 0 ≤ digV 0 (l.take 3) ∧ digV 0 (l.take 3) ≤ 999 := by
 have := digV_bound _ 0 (by omega) h
 have hp : 10 ^ (l.take 3).length ≤ 10 ^ 3 := Nat.pow_le_pow_right (by omega) (by simp; omega)
 omega
theorem rE3 (sz : Nat) (l : List PV) : rElem sz l 3 = onElem sz l 3 l[3]? := rfl
theorem rE4 (sz : Nat) (l : List PV) : rElem sz l 4 = onElem sz l 4 l[4]? := rfl
theorem rE5 (sz : Nat) (l : List PV) : rElem sz l 5 = onElem sz l 5 l[5]? := rfl
set_option maxHeartbeats 1000000 in
theorem parseTime36 (s : List UInt8) : Pure Tryz.prog tabG 36 [.str s] (.tup [.int .i64 (parseT s).1, .int .i64 (parseT s).2]) := by
 have hn := numbers74 s msT ksT rfl (by simp [msT]) (by simp [ksT])
 unfold parseT
 cases hv : numsP msT ksT s with
 | none =>
   rw [hv] at hn
   simp only [numsV, msT, ksT, List.map_cons, List.map_nil, natP] at hn
   refine Pure.intro F36_ok (by simp [F36]) ?_
   simp (maxSteps:=9^7) (disch:=first|exact dI|fail) only [F36, push_cast, seval]
   refine ACall.pure hn rfl ?_
   simp (maxSteps:=9^7) (disch:=first|exact dI|fail) only [push_cast, seval]
 | some p =>
   have hl := numsP_len hv
   obtain ⟨l, r⟩ := p
   simp only [msT] at hl
   obtain ⟨y, m, d, h, mi, sec, rfl⟩ : ∃ y m d h mi sec, l = [y, m, d, h, mi, sec] := by
    match l, hl with
    | [y, m, d, h, mi, sec], _ => exact ⟨y, m, d, h, mi, sec, rfl⟩
   have hv' := hv
   simp only [msT, ksT] at hv'
   obtain ⟨_, _, _, n1⟩ := nums_cons hv'
   obtain ⟨_, _, _, n2⟩ := nums_cons n1
   obtain ⟨_, _, _, n3⟩ := nums_cons n2
   obtain ⟨_, g4, v4, n4⟩ := nums_cons n3
   obtain ⟨_, g5, v5, n5⟩ := nums_cons n4
   obtain ⟨_, g6, v6, n6⟩ := nums_cons n5
   have b4 := two_le g4
   have b5 := two_le g5
   have b6 := two_le g6
   rw [← v4] at b4
   rw [← v5] at b5
   rw [← v6] at b6
   clear g4 g5 g6 v4 v5 v6 n1 n2 n3 n4 n5 n6 hv'
   rw [hv] at hn
   simp only [numsV, msT, ksT, List.map_cons, List.map_nil, natP] at hn
   have hc := cutPre76 r [46]
   have hd := days75 y m d
   have hrg := fun h => dayR_range (y := y) (m := m) (d := d) h
   have hee := dayR_e y m d
   have main : ∀ ms : Int, 0 ≤ ms → ms ≤ 999 → True := fun _ _ _ => trivial
   simp only
   cases hb : preB [46] r with
   | true =>
     rw [hb] at hc
     simp only [if_true, List.length_cons, List.length_nil, Nat.zero_add] at hc
     have h3 := number77 (r.drop 1) 3 (by omega)
     unfold tailT
     rw [hb, if_pos rfl]
     cases hq : numP 3 (r.drop 1) with
     | none =>
       rw [hq] at h3
       simp only [numV] at h3
       refine Pure.intro F36_ok (by simp [F36]) ?_
       simp (maxSteps:=9^7) (disch:=first|exact dI|fail) only [F36, push_cast, seval]
       refine ACall.pure hn rfl ?_
       simp (maxSteps:=9^7) (disch:=first|exact dI|fail) only [push_cast, seval]
       refine ACall.pure hc rfl ?_
       simp (maxSteps:=9^7) (disch:=first|exact dI|fail) only [push_cast, seval]
       refine ACall.pure h3 rfl ?_
       simp (maxSteps:=9^7) (disch:=first|exact dI|fail) only [push_cast, seval]
     | some q =>
       rw [hq] at h3
       simp only [numV] at h3
       obtain ⟨ms, q⟩ := q
       simp only at h3 ⊢
       have hms : 0 ≤ ms ∧ ms ≤ 999 := by
        unfold numP at hq
        split at hq
        ·rename_i hh
         cases hq
         exact three_le hh.2
        ·cases hq
       by_cases hm0 : ms = 0
       ·rw [if_pos (Or.inl hm0)]
        subst hm0
        refine Pure.intro F36_ok (by simp [F36]) ?_
        simp (maxSteps:=9^7) (disch:=first|exact dI|fail) only [F36, push_cast, seval]
        refine ACall.pure hn rfl ?_
        simp (maxSteps:=9^7) (disch:=first|exact dI|fail) only [push_cast, seval]
        refine ACall.pure hc rfl ?_
        simp (maxSteps:=9^7) (disch:=first|exact dI|fail) only [push_cast, seval]
        refine ACall.pure h3 rfl ?_
        simp (maxSteps:=9^7) (disch:=first|exact dI|fail) only [push_cast, seval]
       ·by_cases hq90 : q = [90]
        ·subst hq90
         rw [if_neg (by simp [hm0])]
         simp only
         unfold timeR
         generalize dayR y m d = R at *
         obtain ⟨R1, R2⟩ := R
         simp only at hd hrg hee ⊢
         rcases hee with hz | hz
         ·have hrg' := hrg hz
          subst hz
          by_cases c1 : 23 < h
          ·rw [if_pos (Or.inr (Or.inl c1))]
           refine Pure.intro F36_ok (by simp [F36]) ?_
           simp (maxSteps:=9^7) (disch:=first|exact dI|fail) only [F36, push_cast, seval]
           refine ACall.pure hn rfl ?_
           simp (maxSteps:=9^7) (disch:=first|exact dI|fail) only [push_cast, seval]
           refine ACall.pure hc rfl ?_
           simp (maxSteps:=9^7) (disch:=first|exact dI|fail) only [push_cast, seval]
           refine ACall.pure h3 rfl ?_
           simp (maxSteps:=9^7) (disch:=first|exact dI|fail) only [rElem_zero, rE1, rE2, rE3, rE4, rE5, push_cast, seval]
           refine callDL_pure hd rfl ?_
           simp (maxSteps:=9^7) (disch:=first|exact dI|fail) only [rElem_zero, rE1, rE2, rE3, rE4, rE5, push_cast, seval]
          by_cases c2 : 59 < mi
          ·rw [if_pos (Or.inr (Or.inr (Or.inl c2)))]
           refine Pure.intro F36_ok (by simp [F36]) ?_
           simp (maxSteps:=9^7) (disch:=first|exact dI|fail) only [F36, push_cast, seval]
           refine ACall.pure hn rfl ?_
           simp (maxSteps:=9^7) (disch:=first|exact dI|fail) only [push_cast, seval]
           refine ACall.pure hc rfl ?_
           simp (maxSteps:=9^7) (disch:=first|exact dI|fail) only [push_cast, seval]
           refine ACall.pure h3 rfl ?_
           simp (maxSteps:=9^7) (disch:=first|exact dI|fail) only [rElem_zero, rE1, rE2, rE3, rE4, rE5, push_cast, seval]
           refine callDL_pure hd rfl ?_
           simp (maxSteps:=9^7) (disch:=first|exact dI|fail) only [rElem_zero, rE1, rE2, rE3, rE4, rE5, push_cast, seval]
          by_cases c3 : 59 < sec
          ·rw [if_pos (Or.inr (Or.inr (Or.inr c3)))]
           refine Pure.intro F36_ok (by simp [F36]) ?_
           simp (maxSteps:=9^7) (disch:=first|exact dI|fail) only [F36, push_cast, seval]
           refine ACall.pure hn rfl ?_
           simp (maxSteps:=9^7) (disch:=first|exact dI|fail) only [push_cast, seval]
           refine ACall.pure hc rfl ?_
           simp (maxSteps:=9^7) (disch:=first|exact dI|fail) only [push_cast, seval]
           refine ACall.pure h3 rfl ?_
           simp (maxSteps:=9^7) (disch:=first|exact dI|fail) only [rElem_zero, rE1, rE2, rE3, rE4, rE5, push_cast, seval]
           refine callDL_pure hd rfl ?_
           simp (maxSteps:=9^7) (disch:=first|exact dI|fail) only [rElem_zero, rE1, rE2, rE3, rE4, rE5, push_cast, seval]
          rw [if_neg (by simp; omega)]
          have hj := join78 hrg' (r := ((60 * h + mi) * 60 + sec) * 1000 + ms) (by omega)
          refine Pure.intro F36_ok (by simp [F36]) ?_
          simp (maxSteps:=9^7) (disch:=first|exact dI|fail) only [F36, push_cast, seval]
          refine ACall.pure hn rfl ?_
          simp (maxSteps:=9^7) (disch:=first|exact dI|fail) only [push_cast, seval]
          refine ACall.pure hc rfl ?_
          simp (maxSteps:=9^7) (disch:=first|exact dI|fail) only [push_cast, seval]
          refine ACall.pure h3 rfl ?_
          simp (maxSteps:=9^7) (disch:=first|exact dI|fail) only [rElem_zero, rE1, rE2, rE3, rE4, rE5, push_cast, seval]
          refine callDL_pure hd rfl ?_
          simp (maxSteps:=9^7) (disch:=first|exact dI|fail) only [rElem_zero, rE1, rE2, rE3, rE4, rE5, push_cast, seval]
          refine callDL_pure hj rfl ?_
          simp (maxSteps:=9^7) (disch:=first|exact dI|fail) only [push_cast, seval]
         ·subst hz
          rw [if_pos (Or.inl (by decide))]
          refine Pure.intro F36_ok (by simp [F36]) ?_
          simp (maxSteps:=9^7) (disch:=first|exact dI|fail) only [F36, push_cast, seval]
          refine ACall.pure hn rfl ?_
          simp (maxSteps:=9^7) (disch:=first|exact dI|fail) only [push_cast, seval]
          refine ACall.pure hc rfl ?_
          simp (maxSteps:=9^7) (disch:=first|exact dI|fail) only [push_cast, seval]
          refine ACall.pure h3 rfl ?_
          simp (maxSteps:=9^7) (disch:=first|exact dI|fail) only [rElem_zero, rE1, rE2, rE3, rE4, rE5, push_cast, seval]
          refine callDL_pure hd rfl ?_
          simp (maxSteps:=9^7) (disch:=first|exact dI|fail) only [rElem_zero, rE1, rE2, rE3, rE4, rE5, push_cast, seval]
        ·rw [if_pos (Or.inr hq90)]
         have hqd : (!decide (q = [90])) = true := by simp [hq90]
         refine Pure.intro F36_ok (by simp [F36]) ?_
         simp (maxSteps:=9^7) (disch:=first|exact dI|fail) only [F36, push_cast, seval]
         refine ACall.pure hn rfl ?_
         simp (maxSteps:=9^7) (disch:=first|exact dI|fail) only [push_cast, seval]
         refine ACall.pure hc rfl ?_
         simp (maxSteps:=9^7) (disch:=first|exact dI|fail) only [push_cast, seval]
         refine ACall.pure h3 rfl ?_
         simp (maxSteps:=9^7) (disch:=first|exact dI|fail) only [hqd, push_cast, seval]
   | false =>
     rw [hb] at hc
     simp only [Bool.false_eq_true, if_false] at hc
     unfold tailT
     rw [hb, if_neg (by simp)]
     by_cases hr90 : r = [90]
     ·subst hr90
      rw [if_pos rfl]
      simp only
      unfold timeR
      generalize dayR y m d = R at *
      obtain ⟨R1, R2⟩ := R
      simp only at hd hrg hee ⊢
      rcases hee with hz | hz
      ·have hrg' := hrg hz
       subst hz
       by_cases c1 : 23 < h
       ·rw [if_pos (Or.inr (Or.inl c1))]
        refine Pure.intro F36_ok (by simp [F36]) ?_
        simp (maxSteps:=9^7) (disch:=first|exact dI|fail) only [F36, push_cast, seval]
        refine ACall.pure hn rfl ?_
        simp (maxSteps:=9^7) (disch:=first|exact dI|fail) only [push_cast, seval]
        refine ACall.pure hc rfl ?_
        simp (maxSteps:=9^7) (disch:=first|exact dI|fail) only [rElem_zero, rE1, rE2, rE3, rE4, rE5, push_cast, seval]
        refine callDL_pure hd rfl ?_
        simp (maxSteps:=9^7) (disch:=first|exact dI|fail) only [rElem_zero, rE1, rE2, rE3, rE4, rE5, push_cast, seval]
       by_cases c2 : 59 < mi
       ·rw [if_pos (Or.inr (Or.inr (Or.inl c2)))]
        refine Pure.intro F36_ok (by simp [F36]) ?_
        simp (maxSteps:=9^7) (disch:=first|exact dI|fail) only [F36, push_cast, seval]
        refine ACall.pure hn rfl ?_
        simp (maxSteps:=9^7) (disch:=first|exact dI|fail) only [push_cast, seval]
        refine ACall.pure hc rfl ?_
        simp (maxSteps:=9^7) (disch:=first|exact dI|fail) only [rElem_zero, rE1, rE2, rE3, rE4, rE5, push_cast, seval]
        refine callDL_pure hd rfl ?_
        simp (maxSteps:=9^7) (disch:=first|exact dI|fail) only [rElem_zero, rE1, rE2, rE3, rE4, rE5, push_cast, seval]
       by_cases c3 : 59 < sec
       ·rw [if_pos (Or.inr (Or.inr (Or.inr c3)))]
        refine Pure.intro F36_ok (by simp [F36]) ?_
        simp (maxSteps:=9^7) (disch:=first|exact dI|fail) only [F36, push_cast, seval]
        refine ACall.pure hn rfl ?_
        simp (maxSteps:=9^7) (disch:=first|exact dI|fail) only [push_cast, seval]
        refine ACall.pure hc rfl ?_
        simp (maxSteps:=9^7) (disch:=first|exact dI|fail) only [rElem_zero, rE1, rE2, rE3, rE4, rE5, push_cast, seval]
        refine callDL_pure hd rfl ?_
        simp (maxSteps:=9^7) (disch:=first|exact dI|fail) only [rElem_zero, rE1, rE2, rE3, rE4, rE5, push_cast, seval]
       rw [if_neg (by simp; omega)]
       have hj := join78 hrg' (r := ((60 * h + mi) * 60 + sec) * 1000 + 0) (by omega)
       refine Pure.intro F36_ok (by simp [F36]) ?_
       simp (maxSteps:=9^7) (disch:=first|exact dI|fail) only [F36, push_cast, seval]
       refine ACall.pure hn rfl ?_
       simp (maxSteps:=9^7) (disch:=first|exact dI|fail) only [push_cast, seval]
       refine ACall.pure hc rfl ?_
       simp (maxSteps:=9^7) (disch:=first|exact dI|fail) only [rElem_zero, rE1, rE2, rE3, rE4, rE5, push_cast, seval]
       refine callDL_pure hd rfl ?_
       simp (maxSteps:=9^7) (disch:=first|exact dI|fail) only [rElem_zero, rE1, rE2, rE3, rE4, rE5, push_cast, seval]
       refine callDL_pure hj rfl ?_
       simp (maxSteps:=9^7) (disch:=first|exact dI|fail) only [push_cast, seval]
      ·subst hz
       rw [if_pos (Or.inl (by decide))]
       refine Pure.intro F36_ok (by simp [F36]) ?_
       simp (maxSteps:=9^7) (disch:=first|exact dI|fail) only [F36, push_cast, seval]
       refine ACall.pure hn rfl ?_
       simp (maxSteps:=9^7) (disch:=first|exact dI|fail) only [push_cast, seval]
       refine ACall.pure hc rfl ?_
       simp (maxSteps:=9^7) (disch:=first|exact dI|fail) only [rElem_zero, rE1, rE2, rE3, rE4, rE5, push_cast, seval]
       refine callDL_pure hd rfl ?_
       simp (maxSteps:=9^7) (disch:=first|exact dI|fail) only [rElem_zero, rE1, rE2, rE3, rE4, rE5, push_cast, seval]
     ·rw [if_neg hr90]
      have hrd : (!decide (r = [90])) = true := by simp [hr90]
      refine Pure.intro F36_ok (by simp [F36]) ?_
      simp (maxSteps:=9^7) (disch:=first|exact dI|fail) only [F36, push_cast, seval]
      refine ACall.pure hn rfl ?_
      simp (maxSteps:=9^7) (disch:=first|exact dI|fail) only [push_cast, seval]
      refine ACall.pure hc rfl ?_
      simp (maxSteps:=9^7) (disch:=first|exact dI|fail) only [hrd, push_cast, seval]
end Go.Proofs.YtbaaokocnegdoaaGreatDoor
