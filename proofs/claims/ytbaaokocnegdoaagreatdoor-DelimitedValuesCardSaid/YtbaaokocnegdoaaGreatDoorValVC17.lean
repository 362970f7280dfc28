/- A part of the proof for DelimitedValuesCardSaid. -/
import Derived.Test.YtbaaokocnegdoaaGreatDoorValVC14
set_option maxRecDepth 100000
set_option linter.unusedVariables false
set_option linter.unusedSimpArgs false
-- many steps
namespace Go.Proofs.YtbaaokocnegdoaaGreatDoor
open Go Go.Ab
attribute [local irreducible] vc
def IsN (n : Int) (sc : Nat) : Prop := -999999999999999 ≤ n ∧ n ≤ 999999999999999 ∧ sc ≤ 12
instance (n : Int) (sc : Nat) : Decidable (IsN n sc) := by unfold IsN; infer_instance
def dl (a : Nat) : Nat := (digits 20 a).length
theorem dig_lt : ∀ (f a : Nat), a < 10 ^ f → 0 < f → 1 ≤ (digits f a).length ∧ a < 10 ^ (digits f a).length
 | 0, a, _, h => absurd h (by omega)
 | f + 1, a, hf, _ => by
   rw [digits]
   by_cases h : a < 10
   ·rw [if_pos h]; simp; omega
   ·rw [if_neg h]
    have hf' : a / 10 < 10 ^ f := by rw [Nat.pow_succ] at hf; exact Nat.div_lt_of_lt_mul (by rw [Nat.mul_comm]; exact hf)
    have h0 : 0 < f := by
     cases f with
     | zero => simp at hf; omega
     | succ f => omega
    have ih := dig_lt f (a / 10) hf' h0
    rw [List.length_append, List.length_cons, List.length_nil, Nat.pow_succ]
    omega
theorem dl_spec {a : Nat} (h : a < 10 ^ 15) : 1 ≤ dl a ∧ dl a ≤ 15 ∧ a < 10 ^ dl a := by
 have h20 : a < 10 ^ 20 := Nat.lt_of_lt_of_le h (Nat.pow_le_pow_right (by omega) (by omega))
 have h1 := dig_lt 20 a h20 (by omega)
 have h2 := congrArg List.length (digits_numT 14 20 a h20 h (by omega))
 rw [List.length_append, List.length_replicate, numT_len] at h2
 unfold dl
 exact ⟨h1.1, by omega, h1.2⟩
theorem digits_at {a K : Nat} (h : a < 10 ^ 15) (hK : dl a ≤ K) : List.replicate (K - dl a) 48 ++ digits 20 a = numT K a := by
 have h20 : a < 10 ^ 20 := Nat.lt_of_lt_of_le h (Nat.pow_le_pow_right (by omega) (by omega))
 have hs := dl_spec h
 obtain ⟨k, rfl⟩ : ∃ k, K = k + 1 := ⟨K - 1, by omega⟩
 exact digits_numT k 20 a h20 (Nat.lt_of_lt_of_le hs.2.2 (Nat.pow_le_pow_right (by omega) hK)) (by omega)
theorem numT_split (i : Nat) : ∀ (j a : Nat), numT (i + j) a = numT i (a / 10 ^ j) ++ numT j a
 | 0, a => by simp [numT]
 | j + 1, a => by
   rw [← Nat.add_assoc, numT, numT_split i j (a / 10), numT, List.append_assoc, Nat.div_div_eq_div_mul, Nat.pow_succ, Nat.mul_comm 10]
def decT (n : Int) (sc : Nat) : List UInt8 :=
 (if n < 0 then [45] else []) ++ (numT (max (dl n.natAbs) (sc + 1) - sc) (n.natAbs / 10 ^ sc) ++ (if sc = 0 then [] else 46 :: numT sc n.natAbs))
theorem abs88 {n : Int} (h : -9223372036854775808 < n) (h2 : n ≤ 9223372036854775807) : Pure Tryz.prog tabG 88 [.int .i64 n] (.int .i64 (n.natAbs : Int)) := by
 have e : max n (0 - n) = (n.natAbs : Int) := by omega
 refine Pure.intro F88_ok (by simp [F88]) ?_
 simp (maxSteps:=9^7) (disch:=first|exact dI|fail) only [F88, e, push_cast, seval]
theorem check86 {n : Int} (h : -9223372036854775808 < n) (h2 : n ≤ 9223372036854775807) (sc : Nat) : Pure Tryz.prog tabG 86 [.agg [.int .i64 n, .int .i64 (sc : Int)]] (.int .i64 (if IsN n sc then 0 else 2)) := by
 have ha := abs88 h h2
 by_cases h1 : (999999999999999 : Int) < (n.natAbs : Int)
 ·rw [if_neg (by unfold IsN; omega)]
  refine Pure.intro F86_ok (by simp [F86]) ?_
  simp (maxSteps:=9^7) (disch:=first|exact dI|fail) only [F86, push_cast, seval]
  refine ACall.pure ha rfl ?_
  simp (maxSteps:=9^7) (disch:=first|exact dI|fail) only [push_cast, seval]
 have h2 : ¬ n < -999999999999999 := by omega
 have h3 : ¬ (sc : Int) < 0 := by omega
 by_cases h4 : (12 : Int) < (sc : Int)
 ·rw [if_neg (by unfold IsN; omega)]
  refine Pure.intro F86_ok (by simp [F86]) ?_
  simp (maxSteps:=9^7) (disch:=first|exact dI|fail) only [F86, push_cast, seval]
  refine ACall.pure ha rfl ?_
  simp (maxSteps:=9^7) (disch:=first|exact dI|fail) only [push_cast, seval]
 ·rw [if_pos (by unfold IsN; omega)]
  refine Pure.intro F86_ok (by simp [F86]) ?_
  simp (maxSteps:=9^7) (disch:=first|exact dI|fail) only [F86, push_cast, seval]
  refine ACall.pure ha rfl ?_
  simp (maxSteps:=9^7) (disch:=first|exact dI|fail) only [push_cast, seval]
theorem text42_no {n : Int} (h : -9223372036854775808 < n) (h2 : n ≤ 9223372036854775807) {sc : Nat} (hn : ¬ IsN n sc) : Pure Tryz.prog tabG 42 [.agg [.int .i64 n, .int .i64 (sc : Int)]] (.tup [.str [], .int .i64 2]) := by
 have hc := check86 h h2 sc
 rw [if_neg hn] at hc
 refine Pure.intro F42_ok (by simp [F42]) ?_
 simp (maxSteps:=9^7) (disch:=first|exact dI|fail) only [F42, push_cast, seval]
 refine ACall.pure hc rfl ?_
 simp (maxSteps:=9^7) (disch:=first|exact dI|fail) only [push_cast, seval]
theorem text42 {n : Int} {sc : Nat} (hn : IsN n sc) : Pure Tryz.prog tabG 42 [.agg [.int .i64 n, .int .i64 (sc : Int)]] (.tup [.str (decT n sc), .int .i64 0]) := by
 obtain ⟨hn1, hn2, hn3⟩ := hn
 have hc := check86 (n := n) (by omega) (by omega) sc
 rw [if_pos ⟨hn1, hn2, hn3⟩] at hc
 have ha := abs88 (n := n) (by omega) (by omega)
 have hi := itoa_ok (n.natAbs : Int) (by omega) (by omega)
 have hlt : n.natAbs < 10 ^ 15 := by simp; omega
 have hdl := dl_spec hlt
 have hL := digits_at hlt (K := max (dl n.natAbs) (sc + 1)) (by omega)
 have hL2 := numT_split (max (dl n.natAbs) (sc + 1) - sc) sc n.natAbs
 rw [show max (dl n.natAbs) (sc + 1) - sc + sc = max (dl n.natAbs) (sc + 1) by omega] at hL2
 have hr := repeat89 (sc + 1 - dl n.natAbs) (by omega)
 rw [show max (dl n.natAbs) (sc + 1) - dl n.natAbs = sc + 1 - dl n.natAbs by omega] at hL
 have e1 : itoaT (n.natAbs : Int) = digits 20 n.natAbs := by unfold itoaT; rw [if_neg (by omega), Int.toNat_natCast]
 rw [e1] at hi
 have l1 := numT_len (max (dl n.natAbs) (sc + 1) - sc) (n.natAbs / 10 ^ sc)
 have l2 := numT_len sc n.natAbs
 have l0 : (digits 20 n.natAbs).length = dl n.natAbs := rfl
 have lZ : (List.replicate (sc + 1 - dl n.natAbs) (48 : UInt8)).length = sc + 1 - dl n.natAbs := by simp
 unfold decT
 rw [hL2] at hL
 have hm : max (0 : Int) ((sc : Int) + 1 - ((dl n.natAbs : Nat) : Int)) = ((sc + 1 - dl n.natAbs : Nat) : Int) := by omega
 rw [← hm] at hr
 generalize numT (max (dl n.natAbs) (sc + 1) - sc) (n.natAbs / 10 ^ sc) = A at *
 generalize numT sc n.natAbs = B at *
 generalize digits 20 n.natAbs = D at *
 generalize dl n.natAbs = k at *
 generalize List.replicate (sc + 1 - k) (48 : UInt8) = Z at *
 have lA : 1 ≤ A.length := by omega
 clear hL2 e1 hlt
 by_cases hs : sc = 0
 ·subst hs
  rw [if_pos rfl, List.append_nil]
  have hB : B = [] := List.length_eq_zero_iff.1 l2
  have hDA : D = A := by
   have hz : Z = [] := by
    have := congrArg List.length hL
    simp only [List.length_append] at this
    exact List.length_eq_zero_iff.1 (by omega)
   rw [hz, hB] at hL
   simpa using hL
  subst hDA
  by_cases hneg : n < 0
  ·rw [if_pos hneg]
   refine Pure.intro F42_ok (by simp [F42]) ?_
   simp (maxSteps:=9^7) (disch:=first|exact dI|fail) only [F42, push_cast, seval]
   refine ACall.pure hc rfl ?_
   simp (maxSteps:=9^7) (disch:=first|exact dI|fail) only [push_cast, seval]
   refine ACall.pure ha rfl ?_
   simp (maxSteps:=9^7) (disch:=first|exact dI|fail) only [push_cast, seval]
   refine ACall.pure hi rfl ?_
   simp (maxSteps:=9^7) (disch:=first|exact dI|fail) only [push_cast, seval]
  ·rw [if_neg hneg]
   refine Pure.intro F42_ok (by simp [F42]) ?_
   simp (maxSteps:=9^7) (disch:=first|exact dI|fail) only [F42, push_cast, seval]
   refine ACall.pure hc rfl ?_
   simp (maxSteps:=9^7) (disch:=first|exact dI|fail) only [push_cast, seval]
   refine ACall.pure ha rfl ?_
   simp (maxSteps:=9^7) (disch:=first|exact dI|fail) only [push_cast, seval]
   refine ACall.pure hi rfl ?_
   simp (maxSteps:=9^7) (disch:=first|exact dI|fail) only [push_cast, seval]
 ·rw [if_neg hs]
  have hsI : (0 : Int) < (sc : Int) := by omega
  have el : ((A.length : Int) + (B.length : Int)) - (sc : Int) = (A.length : Int) := by omega
  have et : (((A ++ B).length : Int) - (sc : Int)).toNat = A.length := by rw [List.length_append]; omega
  have t1 : (A ++ B).take A.length = A := by simp
  have t2 : (A ++ B).drop A.length = B := by simp
  by_cases hneg : n < 0
  ·rw [if_pos hneg]
   refine Pure.intro F42_ok (by simp [F42]) ?_
   simp (maxSteps:=9^7) (disch:=first|exact dI|fail) only [F42, push_cast, seval]
   refine ACall.pure hc rfl ?_
   simp (maxSteps:=9^7) (disch:=first|exact dI|fail) only [push_cast, seval]
   refine ACall.pure ha rfl ?_
   simp (maxSteps:=9^7) (disch:=first|exact dI|fail) only [push_cast, seval]
   refine ACall.pure hi rfl ?_
   simp (maxSteps:=9^7) (disch:=first|exact dI|fail) only [l0, push_cast, seval]
   refine ACall.pure hr rfl ?_
   simp (maxSteps:=9^7) (disch:=first|exact dI|fail) only [hL, el, t1, t2, push_cast, seval]
   rw [et, List.take_length, t1, t2]
  ·rw [if_neg hneg]
   refine Pure.intro F42_ok (by simp [F42]) ?_
   simp (maxSteps:=9^7) (disch:=first|exact dI|fail) only [F42, push_cast, seval]
   refine ACall.pure hc rfl ?_
   simp (maxSteps:=9^7) (disch:=first|exact dI|fail) only [push_cast, seval]
   refine ACall.pure ha rfl ?_
   simp (maxSteps:=9^7) (disch:=first|exact dI|fail) only [push_cast, seval]
   refine ACall.pure hi rfl ?_
   simp (maxSteps:=9^7) (disch:=first|exact dI|fail) only [l0, push_cast, seval]
   refine ACall.pure hr rfl ?_
   simp (maxSteps:=9^7) (disch:=first|exact dI|fail) only [hL, el, t1, t2, push_cast, seval]
   rw [et, List.take_length, t1, t2]
end Go.Proofs.YtbaaokocnegdoaaGreatDoor
