/- A part of the proof for DelimitedValuesCardSaid. -/
import Derived.Test.YtbaaokocnegdoaaGreatDoorValVC18
set_option maxRecDepth 100000
set_option linter.unusedVariables false
set_option linter.unusedSimpArgs false
-- many steps
namespace Go.Proofs.YtbaaokocnegdoaaGreatDoor
open Go Go.Ab
attribute [local irreducible] vc
def rdS : Bool → Nat → Nat → List UInt8 → Nat × Nat
 | _, v, c, [] => (v, c)
 | p, v, c, b :: r => if isD b = true then rdS (p || decide (b = 46)) (10 * v + (b.toNat - 48)) (if (p || decide (b = 46)) = true then c + 1 else c) r else rdS (p || decide (b = 46)) v c r
def sgI (s : List UInt8) (v : Nat) : Int := if s.head? = some 45 then -(v : Int) else v
def parseN (s : List UInt8) : (Int × Nat) × Int :=
 if s = [] then ((0, 0), 4) else if 17 < s.length then ((0, 0), 5) else
  if IsN (sgI s (rdS false 0 0 s).1) (rdS false 0 0 s).2 ∧ decT (sgI s (rdS false 0 0 s).1) (rdS false 0 0 s).2 = s then ((sgI s (rdS false 0 0 s).1, (rdS false 0 0 s).2), 0) else ((0, 0), 13)
theorem decT_len {n : Int} {sc : Nat} (h : IsN n sc) : (decT n sc).length ≤ 17 := by
 obtain ⟨h1, h2, h3⟩ := h
 have hdl := dl_spec (a := n.natAbs) (by simp; omega)
 have := txtI_len n.natAbs sc (max (dl n.natAbs) (sc + 1))
 rw [decT_txt]
 split <;> simp <;> omega
set_option maxHeartbeats 1000000 in
theorem parse81 (s : List UInt8) : Pure Tryz.prog tabG 81 [.str s] (.tup [.agg [.int .i64 (parseN s).1.1, .int .i64 ((parseN s).1.2 : Int)], .int .i64 (parseN s).2]) := by
 unfold parseN
 by_cases h0 : s = []
 ·subst h0
  rw [if_pos rfl]
  refine Pure.intro F81_ok (by simp [F81]) ?_
  simp (maxSteps:=9^7) (disch:=first|exact dI|fail) only [F81, push_cast, seval]
 rw [if_neg h0]
 have h0b : decide (s = []) = false := decide_eq_false h0
 by_cases hl : 17 < s.length
 ·rw [if_pos hl]
  have hlI : (17 : Int) < (s.length : Int) := by omega
  refine Pure.intro F81_ok (by simp [F81]) ?_
  simp (maxSteps:=9^7) (disch:=first|exact dI|fail) only [F81, h0b, push_cast, seval]
 rw [if_neg hl]
 have hlI : ¬ (17 : Int) < (s.length : Int) := by omega
 obtain ⟨R, hR⟩ : ∃ R, R = rdS false 0 0 s := ⟨_, rfl⟩
 rw [← hR]
 refine Pure.intro F81_ok (by simp [F81]) ?_
 simp (maxSteps:=9^7) (disch:=first|exact dI|fail) only [F81, h0b, push_cast, seval]
 refine vc_over ([]) (fun y : Nat × Bool × Nat × Nat => [(5, .pv (.bool y.2.1)), (6, .pv (.int .i64 (y.1 : Int)))]) (fun y => [(1, .cells 71 true [.pv (.int .i64 (y.2.2.1 : Int)), .pv (.int .i64 (y.2.2.2 : Int))])]) (fun y => y.1 ≤ s.length ∧ R = rdS y.2.1 y.2.2.1 y.2.2.2 (s.drop y.1) ∧ y.2.2.1 + 1 ≤ 10 ^ y.1 ∧ y.2.2.2 ≤ y.1) (fun y => s.length - y.1) ((0, false, 0, 0)) ?_; intro e0 σ0 n0 h0; simp (maxSteps:=9^7) (disch:=first|exact dI|fail) only [push_cast, seval] at h0; obtain ⟨rfl, rfl, rfl⟩ := h0; refine ⟨?_, ?_, ?_⟩
 ·simp (maxSteps:=9^7) (disch:=first|exact dI|fail) only [push_cast, seval]
 ·exact ⟨by simp, by simp [hR], by simp, by simp⟩
 rintro ⟨i, p, v, c⟩ ⟨h1, h2, h3, h4⟩
 simp only at h1 h2 h3 h4
 have hpw : 10 ^ i ≤ 10 ^ 17 := Nat.pow_le_pow_right (by omega) (by omega)
 by_cases hlt : i < s.length
 ·obtain ⟨b, hb⟩ : ∃ b, s[i]? = some b := ⟨_, List.getElem?_eq_getElem hlt⟩
  rw [drop_at hb, rdS] at h2
  have hp1 : 10 ^ (i + 1) = 10 * 10 ^ i := by rw [Nat.pow_succ]; omega
  by_cases h46 : b = 46
  ·subst h46
   rw [if_neg (by decide)] at h2
   have hn : ¬ (48 : Int) ≤ ((46 : UInt8).toNat : Int) := by decide
   simp (maxSteps:=9^7) (disch:=first|exact dI|fail) only [hb, byteO_some, push_cast, seval]
   exact ⟨(i + 1, true, v, c), hd_z (by simp (maxSteps:=9^7) (disch:=first|exact dI|fail) only [push_cast, seval]), ⟨by simp only; omega, by simpa using h2, by simp only; omega, by simp only; omega⟩, by simp only; omega⟩
  ·have e46 : (p || decide (b = 46)) = p := by simp [h46]
   have n46 : ¬ (b.toNat : Int) = 46 := fun h => h46 (UInt8.toNat_inj.1 (by simpa using (by omega : b.toNat = 46)))
   rw [e46] at h2
   by_cases hD : isD b = true
   ·rw [if_pos hD] at h2
    have hbd := isD_bound hD
    have g1 : (48 : Int) ≤ (b.toNat : Int) := by omega
    have g2 : (b.toNat : Int) ≤ 57 := by omega
    have hv : ((b.toNat - 48 : Nat) : Int) = (b.toNat : Int) - 48 := by omega
    have hw : IntKind.i64.wrap ((b.toNat : Int) - 48) = (b.toNat : Int) - 48 := wrap_i64 (by omega) (by omega)
    cases p with
    | true =>
      rw [if_pos rfl] at h2
      simp (maxSteps:=9^7) (disch:=first|exact dI|fail) only [hb, byteO_some, hw, push_cast, seval]
      exact ⟨(i + 1, true, 10 * v + (b.toNat - 48), c + 1), hd_z (by simp (maxSteps:=9^7) (disch:=first|exact dI|fail) only [hv, push_cast, seval]), ⟨by simp only; omega, h2, by simp only; omega, by simp only; omega⟩, by simp only; omega⟩
    | false =>
      rw [if_neg (by simp)] at h2
      simp (maxSteps:=9^7) (disch:=first|exact dI|fail) only [hb, byteO_some, hw, push_cast, seval]
      exact ⟨(i + 1, false, 10 * v + (b.toNat - 48), c), hd_z (by simp (maxSteps:=9^7) (disch:=first|exact dI|fail) only [hv, push_cast, seval]), ⟨by simp only; omega, h2, by simp only; omega, by simp only; omega⟩, by simp only; omega⟩
   ·rw [if_neg hD] at h2
    by_cases g1 : (48 : Int) ≤ (b.toNat : Int)
    ·have g2 : ¬ (b.toNat : Int) ≤ 57 := fun h => hD (by simp [isD]; omega)
     simp (maxSteps:=9^7) (disch:=first|exact dI|fail) only [hb, byteO_some, push_cast, seval]
     exact ⟨(i + 1, p, v, c), hd_z (by simp (maxSteps:=9^7) (disch:=first|exact dI|fail) only [push_cast, seval]), ⟨by simp only; omega, h2, by simp only; omega, by simp only; omega⟩, by simp only; omega⟩
    ·simp (maxSteps:=9^7) (disch:=first|exact dI|fail) only [hb, byteO_some, push_cast, seval]
     exact ⟨(i + 1, p, v, c), hd_z (by simp (maxSteps:=9^7) (disch:=first|exact dI|fail) only [push_cast, seval]), ⟨by simp only; omega, h2, by simp only; omega, by simp only; omega⟩, by simp only; omega⟩
 ·have hi : i = s.length := by omega
  rw [List.drop_eq_nil_of_le (by omega)] at h2
  simp only [rdS] at h2
  subst h2
  simp only
  have hp := Int.ofNat_le.2 hpw
  obtain ⟨b, hb⟩ : ∃ b, s[0]? = some b := ⟨_, List.getElem?_eq_getElem (by cases s; exact absurd rfl h0; simp)⟩
  have hh : s.head? = some b := by rw [List.head?_eq_getElem?, hb]
  have hv18 : v < 1000000000000000000 := by omega
  clear h1 h3 hpw hp
  unfold sgI
  rw [hh]
  have fin : ∀ n : Int, True := fun _ => trivial
  by_cases h45 : b = 45
  ·subst h45
   rw [if_pos rfl]
   have his := is102 (-(v : Int)) c
   have ez : (0 : Int) - (v : Int) = -(v : Int) := by omega
   generalize -(v : Int) = n at *
   by_cases hn : IsN n c
   ·have ht := text103 hn
    have htl := decT_len hn
    rw [decide_eq_true hn] at his
    generalize decT n c = T at *
    by_cases hT : T = s
    ·rw [if_pos ⟨hn, hT⟩]
     subst hT
     simp (maxSteps:=9^7) (disch:=first|exact dI|fail) only [hb, byteO_some, ez, push_cast, seval]
     refine ACall.pure his rfl ?_
     simp (maxSteps:=9^7) (disch:=first|exact dI|fail) only [push_cast, seval]
     refine ACall.pure ht rfl ?_
     simp (maxSteps:=9^7) (disch:=first|exact dI|fail) only [push_cast, seval]
    ·rw [if_neg (fun h => hT h.2)]
     have hTb : (!decide (T = s)) = true := by simp [hT]
     simp (maxSteps:=9^7) (disch:=first|exact dI|fail) only [hb, byteO_some, ez, push_cast, seval]
     refine ACall.pure his rfl ?_
     simp (maxSteps:=9^7) (disch:=first|exact dI|fail) only [push_cast, seval]
     refine ACall.pure ht rfl ?_
     simp (maxSteps:=9^7) (disch:=first|exact dI|fail) only [hTb, push_cast, seval]
   ·rw [if_neg (fun h => hn h.1)]
    rw [decide_eq_false hn] at his
    simp (maxSteps:=9^7) (disch:=first|exact dI|fail) only [hb, byteO_some, ez, push_cast, seval]
    refine ACall.pure his rfl ?_
    simp (maxSteps:=9^7) (disch:=first|exact dI|fail) only [push_cast, seval]
  ·rw [if_neg (show ¬ some b = some 45 by simp [h45])]
   have n45 : ¬ (b.toNat : Int) = 45 := fun h => h45 (UInt8.toNat_inj.1 (by simpa using (by omega : b.toNat = 45)))
   have his := is102 (v : Int) c
   generalize (v : Int) = n at *
   by_cases hn : IsN n c
   ·have ht := text103 hn
    have htl := decT_len hn
    rw [decide_eq_true hn] at his
    generalize decT n c = T at *
    by_cases hT : T = s
    ·rw [if_pos ⟨hn, hT⟩]
     subst hT
     simp (maxSteps:=9^7) (disch:=first|exact dI|fail) only [hb, byteO_some, push_cast, seval]
     refine ACall.pure his rfl ?_
     simp (maxSteps:=9^7) (disch:=first|exact dI|fail) only [push_cast, seval]
     refine ACall.pure ht rfl ?_
     simp (maxSteps:=9^7) (disch:=first|exact dI|fail) only [push_cast, seval]
    ·rw [if_neg (fun h => hT h.2)]
     have hTb : (!decide (T = s)) = true := by simp [hT]
     simp (maxSteps:=9^7) (disch:=first|exact dI|fail) only [hb, byteO_some, push_cast, seval]
     refine ACall.pure his rfl ?_
     simp (maxSteps:=9^7) (disch:=first|exact dI|fail) only [push_cast, seval]
     refine ACall.pure ht rfl ?_
     simp (maxSteps:=9^7) (disch:=first|exact dI|fail) only [hTb, push_cast, seval]
   ·rw [if_neg (fun h => hn h.1)]
    rw [decide_eq_false hn] at his
    simp (maxSteps:=9^7) (disch:=first|exact dI|fail) only [hb, byteO_some, push_cast, seval]
    refine ACall.pure his rfl ?_
    simp (maxSteps:=9^7) (disch:=first|exact dI|fail) only [push_cast, seval]
end Go.Proofs.YtbaaokocnegdoaaGreatDoor
