/- A part of the proof for DelimitedValuesCardSaid. -/
import Derived.Test.YtbaaokocnegdoaaGreatDoorValVC12
set_option maxRecDepth 100000
set_option linter.unusedVariables false
set_option linter.unusedSimpArgs false
-- many steps
namespace Go.Proofs.YtbaaokocnegdoaaGreatDoor
open Go Go.Ab
attribute [local irreducible] vc
set_option maxHeartbeats 1000000 in
theorem parseTime84 (s : List UInt8) : Pure Tryz.prog tabG 84 [.str s] (.tup [.int .i64 (parseT s).1, .int .i64 (parseT s).2]) := by
 have hf1 := form135 s pat24 (by decide)
 have hf2 := form135 s pat20 (by decide)
 have i1 := form_nums msT ksT s [46, 48, 48, 48, 90] rfl (by simp [msT])
 have i2 := form_nums msT ksT s [90] rfl (by simp [msT])
 rw [← pat24_eq] at i1
 rw [← pat20_eq] at i2
 unfold parseT
 cases hv : numsP msT ksT s with
 | none =>
   have g1 : formB s pat24 = false := by
    cases hb : formB s pat24 with
    | false => rfl
    | true => obtain ⟨p, hp, _⟩ := i1.1 hb; rw [hv] at hp; cases hp
   have g2 : formB s pat20 = false := by
    cases hb : formB s pat20 with
    | false => rfl
    | true => obtain ⟨p, hp, _⟩ := i2.1 hb; rw [hv] at hp; cases hp
   rw [g1] at hf1
   rw [g2] at hf2
   simp only [pat24] at hf1
   simp only [pat20] at hf2
   refine Pure.intro F84_ok (by simp [F84]) ?_
   simp (maxSteps:=9^7) (disch:=first|exact dI|fail) only [F84, push_cast, seval]
   refine ACall.pure hf1 rfl ?_
   simp (maxSteps:=9^7) (disch:=first|exact dI|fail) only [push_cast, seval]
   refine ACall.pure hf2 rfl ?_
   simp (maxSteps:=9^7) (disch:=first|exact dI|fail) only [push_cast, seval]
 | some p =>
   obtain ⟨l, r⟩ := p
   obtain ⟨y, m, d, h, mi, sec, rfl, hr, N⟩ := numsT hv
   have g1 : formB s pat24 = formB r [46, 48, 48, 48, 90] := by
    rw [Bool.eq_iff_iff, i1, hv]
    constructor
    ·rintro ⟨p, hp, h2⟩; cases hp; exact h2
    ·intro h2; exact ⟨_, rfl, h2⟩
   have g2 : formB s pat20 = decide (r = [90]) := by
    rw [Bool.eq_iff_iff, i2, hv, ← formB_one]
    constructor
    ·rintro ⟨p, hp, h2⟩; cases hp; exact h2
    ·intro h2; exact ⟨_, rfl, h2⟩
   have hlen := N.len
   have hsl : List.drop 20 (List.take 23 s) = (r.drop 1).take 3 := by rw [hr, List.drop_drop, List.drop_take]
   have e1 : List.drop 11 (List.take 13 s) = (s.drop 11).take 2 := by rw [List.drop_take]
   have e2 : List.drop 14 (List.take 16 s) = (s.drop 14).take 2 := by rw [List.drop_take]
   have e3 : List.drop 17 (List.take 19 s) = (s.drop 17).take 2 := by rw [List.drop_take]
   have n1 := num137 ((s.drop 11).take 2) (by rw [List.length_take]; omega) N.h1
   have n2 := num137 ((s.drop 14).take 2) (by rw [List.length_take]; omega) N.m1
   have n3 := num137 ((s.drop 17).take 2) (by rw [List.length_take]; omega) N.s1
   have b1 := two_le N.h1
   have b2 := two_le N.m1
   have b3 := two_le N.s1
   rw [← N.h2] at n1 b1
   rw [← N.m2] at n2 b2
   rw [← N.s2] at n3 b3
   have hd := rparse83 (s.take 10)
   rw [N.day] at hd
   have hrg := fun h => dayR_range (y := y) (m := m) (d := d) h
   have hee := dayR_e y m d
   simp only
   rw [tailT_eq]
   rw [g1] at hf1
   rw [g2] at hf2
   simp only [pat24] at hf1
   simp only [pat20] at hf2
   have hr19 : r.length = s.length - 19 := by rw [hr, List.length_drop]
   clear i1 i2 g1 g2 N hv hr
   by_cases hA : formB r [46, 48, 48, 48, 90] = true ∧ (r.drop 1).take 3 ≠ [48, 48, 48]
   ·rw [if_pos hA]
    have hl5 : r.length = 5 := formB_len hA.1
    have hall : ((r.drop 1).take 3).all isD = true := by
     have h1 := hA.1
     rw [show ([46, 48, 48, 48, 90] : List UInt8) = [46] ++ (List.replicate 3 48 ++ [90]) from rfl, formB_mark _ _ _ (by simp), formB_dig, Bool.and_eq_true, Bool.and_eq_true] at h1
     exact (of_decide_eq_true h1.2.1).2
    have n0 := num137 ((r.drop 1).take 3) (by rw [List.length_take]; omega) hall
    have b0 := three_le hall
    have hne : (!decide ((r.drop 1).take 3 = [48, 48, 48])) = true := by simp only [decide_eq_false hA.2, Bool.not_false]
    have hne' : (r.drop 1).take 3 ≠ [48, 48, 48] := hA.2
    rw [hA.1] at hf1
    generalize ((r.drop 1).take 3) = q at *
    generalize digV 0 q = ms at *
    simp only
    unfold timeR
    generalize dayR y m d = R at *
    obtain ⟨R1, R2⟩ := R
    simp only at hd hrg hee ⊢
    clear hA hall
    rcases hee with hz | hz
    ·have hrg2 := hrg hz
     subst hz
     by_cases c1 : 23 < h
     ·rw [if_pos (Or.inr (Or.inl c1))]
      refine Pure.intro F84_ok (by simp [F84]) ?_
      simp (maxSteps:=9^7) (disch:=first|exact dI|fail) only [F84, push_cast, seval]
      refine ACall.pure hf1 rfl ?_
      simp (maxSteps:=9^7) (disch:=first|exact dI|fail) only [hsl, hne, push_cast, seval]
      refine ACall.pure n0 rfl ?_
      simp (maxSteps:=9^7) (disch:=first|exact dI|fail) only [push_cast, seval]
      refine ACall.pure hd rfl ?_
      simp (maxSteps:=9^7) (disch:=first|exact dI|fail) only [e1, e2, e3, push_cast, seval]
      refine callDL_pure n1 rfl ?_
      simp (maxSteps:=9^7) (disch:=first|exact dI|fail) only [e1, e2, e3, push_cast, seval]
      refine callDL_pure n2 rfl ?_
      simp (maxSteps:=9^7) (disch:=first|exact dI|fail) only [e1, e2, e3, push_cast, seval]
      refine ACall.pure n3 rfl ?_
      simp (maxSteps:=9^7) (disch:=first|exact dI|fail) only [e1, e2, e3, push_cast, seval]
     by_cases c2 : 59 < mi
     ·rw [if_pos (Or.inr (Or.inr (Or.inl c2)))]
      refine Pure.intro F84_ok (by simp [F84]) ?_
      simp (maxSteps:=9^7) (disch:=first|exact dI|fail) only [F84, push_cast, seval]
      refine ACall.pure hf1 rfl ?_
      simp (maxSteps:=9^7) (disch:=first|exact dI|fail) only [hsl, hne, push_cast, seval]
      refine ACall.pure n0 rfl ?_
      simp (maxSteps:=9^7) (disch:=first|exact dI|fail) only [push_cast, seval]
      refine ACall.pure hd rfl ?_
      simp (maxSteps:=9^7) (disch:=first|exact dI|fail) only [e1, e2, e3, push_cast, seval]
      refine callDL_pure n1 rfl ?_
      simp (maxSteps:=9^7) (disch:=first|exact dI|fail) only [e1, e2, e3, push_cast, seval]
      refine callDL_pure n2 rfl ?_
      simp (maxSteps:=9^7) (disch:=first|exact dI|fail) only [e1, e2, e3, push_cast, seval]
      refine ACall.pure n3 rfl ?_
      simp (maxSteps:=9^7) (disch:=first|exact dI|fail) only [e1, e2, e3, push_cast, seval]
     by_cases c3 : 59 < sec
     ·rw [if_pos (Or.inr (Or.inr (Or.inr c3)))]
      refine Pure.intro F84_ok (by simp [F84]) ?_
      simp (maxSteps:=9^7) (disch:=first|exact dI|fail) only [F84, push_cast, seval]
      refine ACall.pure hf1 rfl ?_
      simp (maxSteps:=9^7) (disch:=first|exact dI|fail) only [hsl, hne, push_cast, seval]
      refine ACall.pure n0 rfl ?_
      simp (maxSteps:=9^7) (disch:=first|exact dI|fail) only [push_cast, seval]
      refine ACall.pure hd rfl ?_
      simp (maxSteps:=9^7) (disch:=first|exact dI|fail) only [e1, e2, e3, push_cast, seval]
      refine callDL_pure n1 rfl ?_
      simp (maxSteps:=9^7) (disch:=first|exact dI|fail) only [e1, e2, e3, push_cast, seval]
      refine callDL_pure n2 rfl ?_
      simp (maxSteps:=9^7) (disch:=first|exact dI|fail) only [e1, e2, e3, push_cast, seval]
      refine ACall.pure n3 rfl ?_
      simp (maxSteps:=9^7) (disch:=first|exact dI|fail) only [e1, e2, e3, push_cast, seval]
     rw [if_neg (by simp; omega)]
     have he : (R1 * 86400000 + (((60 * h + mi) * 60 + sec) * 1000 + ms)) = R1 * 86400000 + h * 3600000 + mi * 60000 + sec * 1000 + ms := by omega
     rw [he]
     refine Pure.intro F84_ok (by simp [F84]) ?_
     simp (maxSteps:=9^7) (disch:=first|exact dI|fail) only [F84, push_cast, seval]
     refine ACall.pure hf1 rfl ?_
     simp (maxSteps:=9^7) (disch:=first|exact dI|fail) only [hsl, hne, push_cast, seval]
     refine ACall.pure n0 rfl ?_
     simp (maxSteps:=9^7) (disch:=first|exact dI|fail) only [push_cast, seval]
     refine ACall.pure hd rfl ?_
     simp (maxSteps:=9^7) (disch:=first|exact dI|fail) only [e1, e2, e3, push_cast, seval]
     refine callDL_pure n1 rfl ?_
     simp (maxSteps:=9^7) (disch:=first|exact dI|fail) only [e1, e2, e3, push_cast, seval]
     refine callDL_pure n2 rfl ?_
     simp (maxSteps:=9^7) (disch:=first|exact dI|fail) only [e1, e2, e3, push_cast, seval]
     refine ACall.pure n3 rfl ?_
     simp (maxSteps:=9^7) (disch:=first|exact dI|fail) only [e1, e2, e3, push_cast, seval]
    ·subst hz
     rw [if_pos (Or.inl (by decide))]
     refine Pure.intro F84_ok (by simp [F84]) ?_
     simp (maxSteps:=9^7) (disch:=first|exact dI|fail) only [F84, push_cast, seval]
     refine ACall.pure hf1 rfl ?_
     simp (maxSteps:=9^7) (disch:=first|exact dI|fail) only [hsl, hne, push_cast, seval]
     refine ACall.pure n0 rfl ?_
     simp (maxSteps:=9^7) (disch:=first|exact dI|fail) only [push_cast, seval]
     refine ACall.pure hd rfl ?_
     simp (maxSteps:=9^7) (disch:=first|exact dI|fail) only [e1, e2, e3, push_cast, seval]
     refine callDL_pure n1 rfl ?_
     simp (maxSteps:=9^7) (disch:=first|exact dI|fail) only [e1, e2, e3, push_cast, seval]
     refine callDL_pure n2 rfl ?_
     simp (maxSteps:=9^7) (disch:=first|exact dI|fail) only [e1, e2, e3, push_cast, seval]
     refine ACall.pure n3 rfl ?_
     simp (maxSteps:=9^7) (disch:=first|exact dI|fail) only [e1, e2, e3, push_cast, seval]
   ·rw [if_neg hA]
    by_cases hr90 : r = [90]
    ·subst hr90
     rw [if_pos rfl]
     rw [show formB [90] [46, 48, 48, 48, 90] = false from rfl] at hf1
     rw [decide_eq_true rfl] at hf2
     simp only [List.length_cons, List.length_nil] at hr19
     simp only
     unfold timeR
     generalize dayR y m d = R at *
     obtain ⟨R1, R2⟩ := R
     simp only at hd hrg hee ⊢
     rcases hee with hz | hz
     ·have hrg2 := hrg hz
      subst hz
      by_cases c1 : 23 < h
      ·rw [if_pos (Or.inr (Or.inl c1))]
       refine Pure.intro F84_ok (by simp [F84]) ?_
       simp (maxSteps:=9^7) (disch:=first|exact dI|fail) only [F84, push_cast, seval]
       refine ACall.pure hf1 rfl ?_
       simp (maxSteps:=9^7) (disch:=first|exact dI|fail) only [push_cast, seval]
       refine ACall.pure hf2 rfl ?_
       simp (maxSteps:=9^7) (disch:=first|exact dI|fail) only [push_cast, seval]
       refine ACall.pure hd rfl ?_
       simp (maxSteps:=9^7) (disch:=first|exact dI|fail) only [e1, e2, e3, push_cast, seval]
       refine callDL_pure n1 rfl ?_
       simp (maxSteps:=9^7) (disch:=first|exact dI|fail) only [e1, e2, e3, push_cast, seval]
       refine callDL_pure n2 rfl ?_
       simp (maxSteps:=9^7) (disch:=first|exact dI|fail) only [e1, e2, e3, push_cast, seval]
       refine ACall.pure n3 rfl ?_
       simp (maxSteps:=9^7) (disch:=first|exact dI|fail) only [e1, e2, e3, push_cast, seval]
      by_cases c2 : 59 < mi
      ·rw [if_pos (Or.inr (Or.inr (Or.inl c2)))]
       refine Pure.intro F84_ok (by simp [F84]) ?_
       simp (maxSteps:=9^7) (disch:=first|exact dI|fail) only [F84, push_cast, seval]
       refine ACall.pure hf1 rfl ?_
       simp (maxSteps:=9^7) (disch:=first|exact dI|fail) only [push_cast, seval]
       refine ACall.pure hf2 rfl ?_
       simp (maxSteps:=9^7) (disch:=first|exact dI|fail) only [push_cast, seval]
       refine ACall.pure hd rfl ?_
       simp (maxSteps:=9^7) (disch:=first|exact dI|fail) only [e1, e2, e3, push_cast, seval]
       refine callDL_pure n1 rfl ?_
       simp (maxSteps:=9^7) (disch:=first|exact dI|fail) only [e1, e2, e3, push_cast, seval]
       refine callDL_pure n2 rfl ?_
       simp (maxSteps:=9^7) (disch:=first|exact dI|fail) only [e1, e2, e3, push_cast, seval]
       refine ACall.pure n3 rfl ?_
       simp (maxSteps:=9^7) (disch:=first|exact dI|fail) only [e1, e2, e3, push_cast, seval]
      by_cases c3 : 59 < sec
      ·rw [if_pos (Or.inr (Or.inr (Or.inr c3)))]
       refine Pure.intro F84_ok (by simp [F84]) ?_
       simp (maxSteps:=9^7) (disch:=first|exact dI|fail) only [F84, push_cast, seval]
       refine ACall.pure hf1 rfl ?_
       simp (maxSteps:=9^7) (disch:=first|exact dI|fail) only [push_cast, seval]
       refine ACall.pure hf2 rfl ?_
       simp (maxSteps:=9^7) (disch:=first|exact dI|fail) only [push_cast, seval]
       refine ACall.pure hd rfl ?_
       simp (maxSteps:=9^7) (disch:=first|exact dI|fail) only [e1, e2, e3, push_cast, seval]
       refine callDL_pure n1 rfl ?_
       simp (maxSteps:=9^7) (disch:=first|exact dI|fail) only [e1, e2, e3, push_cast, seval]
       refine callDL_pure n2 rfl ?_
       simp (maxSteps:=9^7) (disch:=first|exact dI|fail) only [e1, e2, e3, push_cast, seval]
       refine ACall.pure n3 rfl ?_
       simp (maxSteps:=9^7) (disch:=first|exact dI|fail) only [e1, e2, e3, push_cast, seval]
      rw [if_neg (by simp; omega)]
      have he : (R1 * 86400000 + (((60 * h + mi) * 60 + sec) * 1000 + 0)) = R1 * 86400000 + h * 3600000 + mi * 60000 + sec * 1000 + 0 := by omega
      rw [he]
      refine Pure.intro F84_ok (by simp [F84]) ?_
      simp (maxSteps:=9^7) (disch:=first|exact dI|fail) only [F84, push_cast, seval]
      refine ACall.pure hf1 rfl ?_
      simp (maxSteps:=9^7) (disch:=first|exact dI|fail) only [push_cast, seval]
      refine ACall.pure hf2 rfl ?_
      simp (maxSteps:=9^7) (disch:=first|exact dI|fail) only [push_cast, seval]
      refine ACall.pure hd rfl ?_
      simp (maxSteps:=9^7) (disch:=first|exact dI|fail) only [e1, e2, e3, push_cast, seval]
      refine callDL_pure n1 rfl ?_
      simp (maxSteps:=9^7) (disch:=first|exact dI|fail) only [e1, e2, e3, push_cast, seval]
      refine callDL_pure n2 rfl ?_
      simp (maxSteps:=9^7) (disch:=first|exact dI|fail) only [e1, e2, e3, push_cast, seval]
      refine ACall.pure n3 rfl ?_
      simp (maxSteps:=9^7) (disch:=first|exact dI|fail) only [e1, e2, e3, push_cast, seval]
     ·subst hz
      rw [if_pos (Or.inl (by decide))]
      refine Pure.intro F84_ok (by simp [F84]) ?_
      simp (maxSteps:=9^7) (disch:=first|exact dI|fail) only [F84, push_cast, seval]
      refine ACall.pure hf1 rfl ?_
      simp (maxSteps:=9^7) (disch:=first|exact dI|fail) only [push_cast, seval]
      refine ACall.pure hf2 rfl ?_
      simp (maxSteps:=9^7) (disch:=first|exact dI|fail) only [push_cast, seval]
      refine ACall.pure hd rfl ?_
      simp (maxSteps:=9^7) (disch:=first|exact dI|fail) only [e1, e2, e3, push_cast, seval]
      refine callDL_pure n1 rfl ?_
      simp (maxSteps:=9^7) (disch:=first|exact dI|fail) only [e1, e2, e3, push_cast, seval]
      refine callDL_pure n2 rfl ?_
      simp (maxSteps:=9^7) (disch:=first|exact dI|fail) only [e1, e2, e3, push_cast, seval]
      refine ACall.pure n3 rfl ?_
      simp (maxSteps:=9^7) (disch:=first|exact dI|fail) only [e1, e2, e3, push_cast, seval]
    ·rw [if_neg hr90]
     rw [decide_eq_false hr90] at hf2
     cases hb : formB r [46, 48, 48, 48, 90] with
     | false =>
       rw [hb] at hf1
       refine Pure.intro F84_ok (by simp [F84]) ?_
       simp (maxSteps:=9^7) (disch:=first|exact dI|fail) only [F84, push_cast, seval]
       refine ACall.pure hf1 rfl ?_
       simp (maxSteps:=9^7) (disch:=first|exact dI|fail) only [push_cast, seval]
       refine ACall.pure hf2 rfl ?_
       simp (maxSteps:=9^7) (disch:=first|exact dI|fail) only [push_cast, seval]
     | true =>
       have hl5 : r.length = 5 := formB_len hb
       have hq : (r.drop 1).take 3 = [48, 48, 48] := by
        rw [hb] at hA
        exact Decidable.of_not_not fun h => hA ⟨rfl, h⟩
       rw [hb] at hf1
       refine Pure.intro F84_ok (by simp [F84]) ?_
       simp (maxSteps:=9^7) (disch:=first|exact dI|fail) only [F84, push_cast, seval]
       refine ACall.pure hf1 rfl ?_
       simp (maxSteps:=9^7) (disch:=first|exact dI|fail) only [hsl, hq, push_cast, seval]
       refine ACall.pure hf2 rfl ?_
       simp (maxSteps:=9^7) (disch:=first|exact dI|fail) only [push_cast, seval]
end Go.Proofs.YtbaaokocnegdoaaGreatDoor
