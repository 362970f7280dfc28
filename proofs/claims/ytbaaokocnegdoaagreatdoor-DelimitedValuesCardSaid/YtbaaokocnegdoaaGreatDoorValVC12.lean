/- A part of the proof for DelimitedValuesCardSaid. -/
import Derived.Test.YtbaaokocnegdoaaGreatDoorValVC11
set_option maxRecDepth 100000
set_option linter.unusedVariables false
set_option linter.unusedSimpArgs false
-- many steps
namespace Go.Proofs.YtbaaokocnegdoaaGreatDoor
open Go Go.Ab
attribute [local irreducible] vc
theorem formB_one (r : List UInt8) : formB r [90] = decide (r = [90]) := by
 match r with
 | [] => rfl
 | [c] => simp [formB, okC]
 | c :: d :: r => simp [formB]
theorem digV_zero {l : List UInt8} (hl : l.length = 3) (hd : l.all isD = true) : digV 0 l = 0 ↔ l = [48, 48, 48] := by
 match l, hl with
 | [a, b, c], _ =>
   simp only [List.all_cons, List.all_nil, Bool.and_true, Bool.and_eq_true] at hd
   have ha := isD_bound hd.1
   have hb := isD_bound hd.2.1
   have hc := isD_bound hd.2.2
   simp only [digV]
   constructor
   ·intro h
    have e1 : a = 48 := UInt8.toNat_inj.1 (by simpa using (by omega : a.toNat = 48))
    have e2 : b = 48 := UInt8.toNat_inj.1 (by simpa using (by omega : b.toNat = 48))
    have e3 : c = 48 := UInt8.toNat_inj.1 (by simpa using (by omega : c.toNat = 48))
    rw [e1, e2, e3]
   ·intro h
    cases h
    rfl
def pat24 : List UInt8 := [48, 48, 48, 48, 45, 48, 48, 45, 48, 48, 84, 48, 48, 58, 48, 48, 58, 48, 48, 46, 48, 48, 48, 90]
def pat20 : List UInt8 := [48, 48, 48, 48, 45, 48, 48, 45, 48, 48, 84, 48, 48, 58, 48, 48, 58, 48, 48, 90]
theorem pat24_eq : pat24 = pat msT ksT ++ [46, 48, 48, 48, 90] := rfl
theorem pat20_eq : pat20 = pat msT ksT ++ [90] := rfl
theorem tailT_eq (r : List UInt8) : tailT r = if formB r [46, 48, 48, 48, 90] = true ∧ (r.drop 1).take 3 ≠ [48, 48, 48] then some (digV 0 ((r.drop 1).take 3)) else if r = [90] then some 0 else none := by
 have e : formB r [46, 48, 48, 48, 90] = (preB [46] r && (decide (3 ≤ (r.drop 1).length ∧ ((r.drop 1).take 3).all isD = true) && decide ((r.drop 1).drop 3 = [90]))) := by
  rw [show ([46, 48, 48, 48, 90] : List UInt8) = [46] ++ (List.replicate 3 48 ++ [90]) from rfl, formB_mark _ _ _ (by simp), formB_dig, formB_one]
  rfl
 rw [e]
 unfold tailT
 cases hb : preB [46] r with
 | false => simp
 | true =>
   have hr : r ≠ [90] := by intro h; subst h; simp [preB] at hb
   rw [if_pos rfl, Bool.true_and, if_neg hr]
   unfold numP
   by_cases hd : 3 ≤ (r.drop 1).length ∧ ((r.drop 1).take 3).all isD = true
   ·rw [if_pos hd, decide_eq_true hd, Bool.true_and]
    have hz := digV_zero (l := (r.drop 1).take 3) (by rw [List.length_take]; omega) hd.2
    simp only
    by_cases h1 : (r.drop 1).drop 3 = [90]
    ·rw [decide_eq_true h1]
     by_cases h2 : (r.drop 1).take 3 = [48, 48, 48]
     ·rw [if_pos (Or.inl (hz.2 h2)), if_neg fun h => h.2 h2]
     ·rw [if_neg (by rintro (h | h); exact h2 (hz.1 h); exact h h1), if_pos ⟨rfl, h2⟩]
    ·rw [if_pos (Or.inr h1), decide_eq_false h1, if_neg (by simp)]
   ·rw [if_neg hd, decide_eq_false hd]
    simp
theorem nums_pre {m : List UInt8} {ms : List (List UInt8)} {k : Nat} {ks : List Nat} {s : List UInt8} {p : List Int × List UInt8} (h : numsP (m :: ms) (k :: ks) s = some p) : preB m s = true := by
 simp only [numsP] at h
 split at h
 ·rename_i hc; exact hc
 ·cases h
structure NumsT (s : List UInt8) (y m d h mi sec : Int) : Prop where
 len : 19 ≤ s.length
 day : parseD (s.take 10) = dayR y m d
 h1 : ((s.drop 11).take 2).all isD = true
 h2 : h = digV 0 ((s.drop 11).take 2)
 m1 : ((s.drop 14).take 2).all isD = true
 m2 : mi = digV 0 ((s.drop 14).take 2)
 s1 : ((s.drop 17).take 2).all isD = true
 s2 : sec = digV 0 ((s.drop 17).take 2)
theorem numsT {s : List UInt8} {l : List Int} {r : List UInt8} (hv : numsP msT ksT s = some (l, r)) : ∃ y m d h mi sec, l = [y, m, d, h, mi, sec] ∧ r = s.drop 19 ∧ NumsT s y m d h mi sec := by
 have hl := numsP_len hv
 simp only [msT] at hl
 obtain ⟨y, m, d, h, mi, sec, rfl⟩ : ∃ y m d h mi sec, l = [y, m, d, h, mi, sec] := by
  match l, hl with
  | [y, m, d, h, mi, sec], _ => exact ⟨y, m, d, h, mi, sec, rfl⟩
 simp only [msT, ksT] at hv
 obtain ⟨a1, a2, a3, n1⟩ := nums_cons hv
 obtain ⟨b1, b2, b3, n2⟩ := nums_cons n1
 obtain ⟨c1, c2, c3, n3⟩ := nums_cons n2
 obtain ⟨d1, d2, d3, n4⟩ := nums_cons n3
 obtain ⟨e1, e2, e3, n5⟩ := nums_cons n4
 obtain ⟨f1, f2, f3, n6⟩ := nums_cons n5
 simp only [List.length_nil, List.length_cons, List.drop_zero, List.drop_drop, Nat.reduceAdd, List.length_drop] at a1 a2 a3 b1 b2 b3 c1 c2 c3 d1 d2 d3 e1 e2 e3 f1 f2 f3 n6
 have hr : r = s.drop 19 := by
  simp only [numsP, Option.some.injEq, Prod.mk.injEq] at n6
  exact n6.2.symm
 refine ⟨y, m, d, h, mi, sec, rfl, hr, ⟨by omega, ?_, d2, d3, e2, e3, f2, f3⟩⟩
 have hp1 := nums_pre n1
 have hp2 := nums_pre n2
 simp only [List.length_nil, List.drop_zero, List.length_cons, List.drop_drop, Nat.reduceAdd] at hp1 hp2
 have pt : ∀ k, k + 1 ≤ 10 → preB [45] (s.drop k) = true → preB [45] ((s.take 10).drop k) = true := by
  intro k hk hp
  simp only [preB, List.length_cons, List.length_nil, decide_eq_true_eq, List.length_drop, List.length_take] at hp ⊢
  refine ⟨?_, by omega⟩
  rw [List.drop_take, List.take_take, show min (0 + 1) (10 - k) = 0 + 1 by omega]
  exact hp.1
 have tt : ∀ k, k + 2 ≤ 10 → ((s.take 10).drop k).take 2 = (s.drop k).take 2 := by
  intro k hk
  rw [List.drop_take, List.take_take, show min 2 (10 - k) = 2 by omega]
 have w0 : numP 4 (s.take 10) = some (y, (s.take 10).drop 4) := by
  unfold numP
  have e4 : (s.take 10).take 4 = s.take 4 := by rw [List.take_take]; rfl
  rw [e4, if_pos ⟨by rw [List.length_take]; omega, a2⟩, a3]
 have w1 : numP 2 ((s.take 10).drop 5) = some (m, (s.take 10).drop 7) := by
  unfold numP
  rw [tt 5 (by omega), if_pos ⟨by rw [List.length_drop, List.length_take]; omega, b2⟩, b3, List.drop_drop]
 have w2 : numP 2 ((s.take 10).drop 8) = some (d, []) := by
  unfold numP
  rw [tt 8 (by omega), if_pos ⟨by rw [List.length_drop, List.length_take]; omega, c2⟩, c3, List.drop_drop, show List.drop (8 + 2) (s.take 10) = [] from List.drop_eq_nil_of_le (by rw [List.length_take]; omega)]
 have : numsP [[], [45], [45]] [4, 2, 2] (s.take 10) = some ([y, m, d], []) := by
  simp only [numsP, preB_nil, if_true, List.length_nil, List.drop_zero, w0, pt 4 (by omega) hp1, List.length_cons, Nat.zero_add, List.drop_drop, Nat.reduceAdd, w1, pt 7 (by omega) hp2, w2, Option.map_some]
 unfold parseD
 rw [this]
end Go.Proofs.YtbaaokocnegdoaaGreatDoor
