/- A part of the proof for DelimitedValuesCardSaid. -/
import Derived.Test.YtbaaokocnegdoaaGreatDoorValVC6
set_option maxRecDepth 100000
set_option linter.unusedVariables false
set_option linter.unusedSimpArgs false
-- many steps
namespace Go.Proofs.YtbaaokocnegdoaaGreatDoor
open Go Go.Ab
attribute [local irreducible] vc
def okC (c x : UInt8) : Bool := if x = 48 then isD c else decide (c = x)
def formB : List UInt8 → List UInt8 → Bool
 | [], [] => true
 | c :: s, x :: p => okC c x && formB s p
 | _, _ => false
theorem formB_len : ∀ {s p : List UInt8}, formB s p = true → s.length = p.length
 | [], [], _ => rfl
 | c :: s, x :: p, h => by simp only [formB, Bool.and_eq_true] at h; simp [formB_len h.2]
 | [], x :: p, h => by simp [formB] at h
 | c :: s, [], h => by simp [formB] at h
theorem formB_ne : ∀ {s p : List UInt8}, s.length ≠ p.length → formB s p = false := fun h => by
 cases hb : formB _ _ with
 | false => rfl
 | true => exact absurd (formB_len hb) h
theorem form135 (s p : List UInt8) (hp : p.length ≤ 1000) : Pure Tryz.prog tabG 135 [.str s, .str p] (.bool (formB s p)) := by
 refine Pure.intro F135_ok (by simp [F135]) ?_
 by_cases hl : s.length = p.length
 ·obtain ⟨R, hR⟩ : ∃ R, R = formB s p := ⟨_, rfl⟩
  rw [← hR]
  simp (maxSteps:=9^7) (disch:=first|exact dI|fail) only [F135, push_cast, seval]
  refine vc_over ([]) (fun i : Nat => [(5, .pv (.int .i64 (i : Int)))]) (fun _ => []) (fun i => i ≤ s.length ∧ R = formB (s.drop i) (p.drop i)) (fun i => s.length - i) (0) ?_; intro e0 σ0 n0 h0; simp (maxSteps:=9^7) (disch:=first|exact dI|fail) only [push_cast, seval] at h0; obtain ⟨rfl, rfl, rfl⟩ := h0; refine ⟨?_, ?_, ?_⟩
  ·simp (maxSteps:=9^7) (disch:=first|exact dI|fail) only [push_cast, seval]
  ·exact ⟨by omega, by simpa using hR⟩
  rintro i ⟨hi, hf⟩
  by_cases hlt : i < s.length
  ·obtain ⟨c, hc⟩ : ∃ c, s[i]? = some c := ⟨_, List.getElem?_eq_getElem hlt⟩
   obtain ⟨x, hx⟩ : ∃ x, p[i]? = some x := ⟨_, List.getElem?_eq_getElem (by omega)⟩
   rw [drop_at hc, drop_at hx] at hf
   simp only [formB] at hf
   by_cases h48 : x = 48
   ·subst h48
    by_cases h1 : c.toNat < 48
    ·have hok : okC c 48 = false := by simp [okC, isD]; omega
     rw [hok, Bool.false_and] at hf
     subst hf
     have h1I : (c.toNat : Int) < 48 := by omega
     simp (maxSteps:=9^7) (disch:=first|exact dI|fail) only [hc, hx, byteO_some, push_cast, seval]
    ·by_cases h2 : 57 < c.toNat
     ·have hok : okC c 48 = false := by simp [okC, isD]; omega
      rw [hok, Bool.false_and] at hf
      subst hf
      have h1I : ¬ (c.toNat : Int) < 48 := by omega
      have h2I : (57 : Int) < (c.toNat : Int) := by omega
      simp (maxSteps:=9^7) (disch:=first|exact dI|fail) only [hc, hx, byteO_some, push_cast, seval]
     ·have hok : okC c 48 = true := by simp [okC, isD]; omega
      rw [hok, Bool.true_and] at hf
      have h1I : ¬ (c.toNat : Int) < 48 := by omega
      have h2I : ¬ (57 : Int) < (c.toNat : Int) := by omega
      simp (maxSteps:=9^7) (disch:=first|exact dI|fail) only [hc, hx, byteO_some, push_cast, seval]
      exact ⟨i + 1, hd_z (by simp (maxSteps:=9^7) (disch:=first|exact dI|fail) only [push_cast, seval]), ⟨by omega, hf⟩, by omega⟩
   ·have n48 : ¬ (x.toNat : Int) = 48 := fun h => h48 (UInt8.toNat_inj.1 (by simpa using (by omega : x.toNat = 48)))
    by_cases hcx : c = x
    ·subst hcx
     have hok : okC c c = true := by simp [okC, h48]
     rw [hok, Bool.true_and] at hf
     simp (maxSteps:=9^7) (disch:=first|exact dI|fail) only [hc, hx, byteO_some, n48, push_cast, seval]
     exact ⟨i + 1, hd_z (by simp (maxSteps:=9^7) (disch:=first|exact dI|fail) only [push_cast, seval]), ⟨by omega, hf⟩, by omega⟩
    ·have hok : okC c x = false := by simp [okC, h48, hcx]
     rw [hok, Bool.false_and] at hf
     subst hf
     have ncx : ¬ ((c.toNat : Int) = (x.toNat : Int)) := fun h => hcx ((u8n c x).1 h)
     simp (maxSteps:=9^7) (disch:=first|exact dI|fail) only [hc, hx, byteO_some, n48, ncx, push_cast, seval]
  ·rw [List.drop_eq_nil_of_le (by omega), List.drop_eq_nil_of_le (by omega)] at hf
   have : R = true := hf
   subst this
   simp (maxSteps:=9^7) (disch:=first|exact dI|fail) only [push_cast, seval]
 ·rw [formB_ne hl]
  have hlI : ¬ (s.length : Int) = (p.length : Int) := by omega
  simp (maxSteps:=9^7) (disch:=first|exact dI|fail) only [F135, push_cast, seval]
theorem num137 (l : List UInt8) (hl : l.length ≤ 9) (hd : l.all isD = true) : Pure Tryz.prog tabG 137 [.str l] (.int .i64 (digV 0 l)) := by
 refine Pure.intro F137_ok (by simp [F137]) ?_
 simp (maxSteps:=9^7) (disch:=first|exact dI|fail) only [F137, push_cast, seval]
 refine vc_over ([]) (fun i : Nat => [(3, .pv (.int .i64 (digV 0 (l.take i)))), (4, .pv (.int .i64 (i : Int)))]) (fun _ => []) (fun i => i ≤ l.length) (fun i => l.length - i) (0) ?_; intro e0 σ0 n0 h0; simp (maxSteps:=9^7) (disch:=first|exact dI|fail) only [push_cast, seval] at h0; obtain ⟨rfl, rfl, rfl⟩ := h0; refine ⟨?_, ?_, ?_⟩
 ·simp (maxSteps:=9^7) (disch:=first|exact dI|fail) only [push_cast, seval]
  rfl
 ·omega
 intro i hi
 have hdi : (l.take i).all isD = true := by
  rw [List.all_eq_true] at hd ⊢
  exact fun x hx => hd x (List.mem_of_mem_take hx)
 have hdl := dig_le hdi (by simp; omega)
 by_cases hlt : i < l.length
 ·obtain ⟨c, hc⟩ : ∃ c, l[i]? = some c := ⟨_, List.getElem?_eq_getElem hlt⟩
  have hb := isD_bound (List.all_eq_true.1 hd c (List.mem_of_getElem? hc))
  have hw2 := wrap_i64 (n := (c.toNat : Int) - 48) (by omega) (by omega)
  have hdv : digV 0 (l.take (i + 1)) = 10 * digV 0 (l.take i) + ((c.toNat : Int) - 48) := by rw [take_snoc hc, digV_app]
  simp (maxSteps:=9^7) (disch:=first|exact dI|fail) only [hc, byteO_some, hw2, push_cast, seval]
  exact ⟨i + 1, hd_z (by simp (maxSteps:=9^7) (disch:=first|exact dI|fail) only [hdv, push_cast, seval]), by omega, by omega⟩
 ·have he : l.take i = l := List.take_of_length_le (by omega)
  simp (maxSteps:=9^7) (disch:=first|exact dI|fail) only [he, push_cast, seval]
end Go.Proofs.YtbaaokocnegdoaaGreatDoor
set_option maxRecDepth 100000
set_option linter.unusedVariables false
set_option linter.unusedSimpArgs false
-- many steps
namespace Go.Proofs.YtbaaokocnegdoaaGreatDoor
open Go Go.Ab
attribute [local irreducible] vc
def pat : List (List UInt8) → List Nat → List UInt8
 | m :: ms, k :: ks => m ++ (List.replicate k 48 ++ pat ms ks)
 | _, _ => []
theorem preB_nil (s : List UInt8) : preB [] s = true := by simp [preB]
theorem preB_cons (x c : UInt8) (m s : List UInt8) : preB (x :: m) (c :: s) = (decide (c = x) && preB m s) := by
 simp only [preB, List.length_cons, List.take_succ_cons, List.cons.injEq, Nat.add_le_add_iff_right]
 by_cases h : c = x <;> simp [h]
theorem preB_end (x : UInt8) (m : List UInt8) : preB (x :: m) [] = false := by simp [preB]
theorem formB_mark : ∀ (m s p : List UInt8), (∀ x, x ∈ m → x ≠ 48) → formB s (m ++ p) = (preB m s && formB (s.drop m.length) p)
 | [], s, p, _ => by simp [preB_nil]
 | x :: m, [], p, _ => by simp [preB_end, formB]
 | x :: m, c :: s, p, h => by
   have ih := formB_mark m s p fun y hy => h y (by simp [hy])
   have hx : x ≠ 48 := h x (by simp)
   simp only [List.cons_append, formB, ih, preB_cons, List.length_cons, List.drop_succ_cons, okC, if_neg hx, Bool.and_assoc]
theorem formB_dig : ∀ (k : Nat) (s p : List UInt8), formB s (List.replicate k 48 ++ p) = (decide (k ≤ s.length ∧ (s.take k).all isD = true) && formB (s.drop k) p)
 | 0, s, p => by simp
 | k + 1, [], p => by simp [List.replicate_succ, formB]
 | k + 1, c :: s, p => by
   have ih := formB_dig k s p
   simp only [List.replicate_succ, List.cons_append, formB, ih, List.drop_succ_cons, List.take_succ_cons, List.all_cons, List.length_cons, Nat.add_le_add_iff_right, okC, if_true]
   cases isD c <;> simp
theorem form_nums : ∀ (ms : List (List UInt8)) (ks : List Nat) (s q : List UInt8), ms.length = ks.length → (∀ m, m ∈ ms → ∀ x, x ∈ m → x ≠ 48) →
  (formB s (pat ms ks ++ q) = true ↔ ∃ p, numsP ms ks s = some p ∧ formB p.2 q = true)
 | [], [], s, q, _, _ => by simp [pat, numsP]
 | [], _ :: _, s, q, h, _ => by simp at h
 | _ :: _, [], s, q, h, _ => by simp at h
 | m :: ms, k :: ks, s, q, h, hm => by
   have ih := form_nums ms ks ((s.drop m.length).drop k) q (by simpa using h) fun m' h' => hm m' (by simp [h'])
   have e : pat (m :: ms) (k :: ks) ++ q = m ++ (List.replicate k 48 ++ (pat ms ks ++ q)) := by simp [pat]
   rw [e, formB_mark m s _ (hm m (by simp)), formB_dig]
   simp only [numsP, numP]
   cases hp : preB m s with
   | false => simp
   | true =>
     by_cases hd : k ≤ (s.drop m.length).length ∧ ((s.drop m.length).take k).all isD = true
     ·rw [if_pos rfl, if_pos hd, decide_eq_true hd, Bool.true_and, Bool.true_and, ih]
      constructor
      ·rintro ⟨p, h1, h2⟩
       exact ⟨(digV 0 ((s.drop m.length).take k) :: p.1, p.2), by simp only [Option.map_eq_some_iff]; exact ⟨p, h1, rfl⟩, h2⟩
      ·rintro ⟨p, h1, h2⟩
       simp only [Option.map_eq_some_iff] at h1
       obtain ⟨a, ha, rfl⟩ := h1
       exact ⟨a, ha, h2⟩
     ·rw [if_pos rfl, if_neg hd, decide_eq_false hd]
      simp
theorem nums_cons {m : List UInt8} {ms : List (List UInt8)} {k : Nat} {ks : List Nat} {s : List UInt8} {v : Int} {l : List Int} {r : List UInt8} (h : numsP (m :: ms) (k :: ks) s = some (v :: l, r)) :
  k ≤ (s.drop m.length).length ∧ ((s.drop m.length).take k).all isD = true ∧ v = digV 0 ((s.drop m.length).take k) ∧ numsP ms ks ((s.drop m.length).drop k) = some (l, r) := by
 simp only [numsP] at h
 split at h
 ·unfold numP at h
  split at h
  ·rename_i hc
   split at hc
   ·rename_i hd
    cases hc
    simp only [Option.map_eq_some_iff] at h
    obtain ⟨a, ha, he⟩ := h
    cases he
    exact ⟨hd.1, hd.2, rfl, ha⟩
   ·cases hc
  ·cases h
 ·cases h
def patD : List UInt8 := [48, 48, 48, 48, 45, 48, 48, 45, 48, 48]
theorem patD_eq : patD = pat [[], [45], [45]] [4, 2, 2] ++ [] := rfl
theorem rparse83 (s : List UInt8) : Pure Tryz.prog tabG 83 [.str s] (.tup [.int .i64 (parseD s).1, .int .i64 (parseD s).2]) := by
 have hf := form135 s patD (by decide)
 have hiff := form_nums [[], [45], [45]] [4, 2, 2] s [] rfl (by simp)
 rw [← patD_eq] at hiff
 cases hb : formB s patD with
 | false =>
   rw [hb] at hf hiff
   have hp : parseD s = (0, 13) := by
    unfold parseD
    split
    ·rename_i hn
     have := hiff.2 ⟨_, hn, rfl⟩
     cases this
    ·rfl
   rw [hp]
   refine Pure.intro F83_ok (by simp [F83]) ?_
   simp only [patD] at hf
   simp (maxSteps:=9^7) (disch:=first|exact dI|fail) only [F83, push_cast, seval]
   refine ACall.pure hf rfl ?_
   simp (maxSteps:=9^7) (disch:=first|exact dI|fail) only [push_cast, seval]
 | true =>
   have hlen := formB_len hb
   rw [hb] at hf hiff
   obtain ⟨⟨l, r⟩, hn, hr⟩ := hiff.1 rfl
   have hr0 : r = [] := by cases r with | nil => rfl | cons c r => simp [formB] at hr
   subst hr0
   have hl := numsP_len hn
   simp only at hl
   obtain ⟨y, m, d, rfl⟩ : ∃ y m d, l = [y, m, d] := by
    match l, hl with
    | [y, m, d], _ => exact ⟨y, m, d, rfl⟩
   have hp : parseD s = dayR y m d := by unfold parseD; rw [hn]
   rw [hp]
   obtain ⟨a1, a2, a3, h2⟩ := nums_cons hn
   obtain ⟨b1, b2, b3, h3⟩ := nums_cons h2
   obtain ⟨c1, c2, c3, h4⟩ := nums_cons h3
   simp only [List.length_nil, List.length_cons, List.drop_zero, List.drop_drop, Nat.reduceAdd] at a1 a2 a3 b1 b2 b3 c1 c2 c3
   have hl10 : s.length = 10 := hlen
   have e8 : (s.drop 8).take 2 = s.drop 8 := List.take_of_length_le (by simp; omega)
   rw [e8] at c2 c3
   have n1 := num137 (s.take 4) (by simp; omega) a2
   have n2 := num137 ((s.drop 5).take 2) (by simp; omega) b2
   have n3 := num137 (s.drop 8) (by simp; omega) c2
   rw [← a3] at n1
   rw [← b3] at n2
   rw [← c3] at n3
   have e57 : List.drop 5 (List.take 7 s) = (s.drop 5).take 2 := by rw [List.drop_take]
   have hd := rdays136 y m d
   simp only [patD] at hf
   refine Pure.intro F83_ok (by simp [F83]) ?_
   have hee := dayR_e y m d
   have hz : (dayR y m d).2 = 17 → (dayR y m d).1 = 0 := by unfold dayR; split <;> simp
   generalize dayR y m d = R at *
   obtain ⟨R1, R2⟩ := R
   simp only at hd hee hz ⊢
   rcases hee with h0 | h17
   ·subst h0
    rw [show decide ((0 : Int) = 0) = true from rfl] at hd
    simp (maxSteps:=9^7) (disch:=first|exact dI|fail) only [F83, push_cast, seval]
    refine ACall.pure hf rfl ?_
    simp (maxSteps:=9^7) (disch:=first|exact dI|fail) only [e57, push_cast, seval]
    refine callDL_pure n1 rfl ?_
    simp (maxSteps:=9^7) (disch:=first|exact dI|fail) only [e57, List.take_length, push_cast, seval]
    refine callDL_pure n2 rfl ?_
    simp (maxSteps:=9^7) (disch:=first|exact dI|fail) only [List.take_length, push_cast, seval]
    refine callDL_pure n3 rfl ?_
    simp (maxSteps:=9^7) (disch:=first|exact dI|fail) only [push_cast, seval]
    refine callDL_pure hd rfl ?_
    simp (maxSteps:=9^7) (disch:=first|exact dI|fail) only [push_cast, seval]
   ·subst h17
    rw [show decide ((17 : Int) = 0) = false from rfl] at hd
    have hR1 : R1 = 0 := hz rfl
    subst hR1
    simp (maxSteps:=9^7) (disch:=first|exact dI|fail) only [F83, push_cast, seval]
    refine ACall.pure hf rfl ?_
    simp (maxSteps:=9^7) (disch:=first|exact dI|fail) only [e57, push_cast, seval]
    refine callDL_pure n1 rfl ?_
    simp (maxSteps:=9^7) (disch:=first|exact dI|fail) only [e57, List.take_length, push_cast, seval]
    refine callDL_pure n2 rfl ?_
    simp (maxSteps:=9^7) (disch:=first|exact dI|fail) only [List.take_length, push_cast, seval]
    refine callDL_pure n3 rfl ?_
    simp (maxSteps:=9^7) (disch:=first|exact dI|fail) only [push_cast, seval]
    refine callDL_pure hd rfl ?_
    simp (maxSteps:=9^7) (disch:=first|exact dI|fail) only [push_cast, seval]
end Go.Proofs.YtbaaokocnegdoaaGreatDoor
