/- A part of the proof for DelimitedValuesCardSaid. -/
import Derived.Test.YtbaaokocnegdoaaGreatDoorValVC5
set_option maxRecDepth 100000
set_option linter.unusedVariables false
set_option linter.unusedSimpArgs false
-- many steps
namespace Go.Proofs.YtbaaokocnegdoaaGreatDoor
open Go Go.Ab
attribute [local irreducible] vc
def isD (c : UInt8) : Bool := decide (48 ≤ c.toNat) && decide (c.toNat ≤ 57)
def digV : Int → List UInt8 → Int
 | n, [] => n
 | n, c :: r => digV (10 * n + ((c.toNat : Int) - 48)) r
theorem digV_app (c : UInt8) : ∀ (l : List UInt8) (n : Int), digV n (l ++ [c]) = 10 * digV n l + ((c.toNat : Int) - 48)
 | [], n => rfl
 | d :: l, n => by simp only [List.cons_append, digV]; exact digV_app c l _
theorem isD_bound {c : UInt8} (h : isD c = true) : 48 ≤ c.toNat ∧ c.toNat ≤ 57 := by simpa [isD] using h
theorem digV_bound : ∀ (l : List UInt8) (n : Int), 0 ≤ n → l.all isD = true → 0 ≤ digV n l ∧ digV n l + 1 ≤ (n + 1) * ((10 ^ l.length : Nat) : Int)
 | [], n, h0, _ => by simp [digV]; omega
 | c :: r, n, h0, hd => by
   simp only [List.all_cons, Bool.and_eq_true] at hd
   have hc := isD_bound hd.1
   have ih := digV_bound r (10 * n + ((c.toNat : Int) - 48)) (by omega) hd.2
   refine ⟨ih.1, Int.le_trans ih.2 ?_⟩
   rw [List.length_cons, Nat.pow_succ]
   have hp : (0 : Int) ≤ ((10 ^ r.length : Nat) : Int) := Int.natCast_nonneg _
   have h1 : (10 * n + ((c.toNat : Int) - 48) + 1) * ((10 ^ r.length : Nat) : Int) ≤ ((n + 1) * 10) * ((10 ^ r.length : Nat) : Int) := Int.mul_le_mul_of_nonneg_right (by omega) hp
   have h2 : ((n + 1) * 10) * ((10 ^ r.length : Nat) : Int) = (n + 1) * ((10 ^ r.length * 10 : Nat) : Int) := by
    rw [Int.mul_assoc, Int.natCast_mul, Int.mul_comm (10 : Int)]; rfl
   exact Int.le_trans h1 (Int.le_of_eq h2)
theorem dig_le {l : List UInt8} (h : l.all isD = true) (hl : l.length ≤ 9) : 0 ≤ digV 0 l ∧ digV 0 l ≤ 999999999 := by
 have := digV_bound l 0 (by omega) h
 have hp : 10 ^ l.length ≤ 10 ^ 9 := Nat.pow_le_pow_right (by omega) hl
 omega
def numP (k : Nat) (s : List UInt8) : Option (Int × List UInt8) := if k ≤ s.length ∧ (s.take k).all isD = true then some (digV 0 (s.take k), s.drop k) else none
def numV (s : List UInt8) : Option (Int × List UInt8) → PV
 | some p => .tup [.int .i64 p.1, .str p.2, .bool true]
 | none => .tup [.int .i64 0, .str s, .bool false]
theorem number77 (s : List UInt8) (k : Nat) (hk : k ≤ 8) : Pure Tryz.prog tabG 77 [.str s, .int .i64 (k : Int)] (numV s (numP k s)) := by
 refine Pure.intro F77_ok (by simp [F77]) ?_
 by_cases hl : s.length < k
 ·rw [show numP k s = none from if_neg (by omega)]
  simp (maxSteps:=9^7) (disch:=first|exact dI|fail) only [F77, numV, push_cast, seval]
 ·obtain ⟨R, hR⟩ : ∃ R, R = numP k s := ⟨_, rfl⟩
  rw [← hR]
  simp (maxSteps:=9^7) (disch:=first|exact dI|fail) only [F77, push_cast, seval]
  refine vc_over ([]) (fun i : Nat => [(4, .pv (.int .i64 (digV 0 (s.take i)))), (14, .pv (.int .i64 (i : Int)))]) (fun _ => []) (fun i => i ≤ k ∧ (s.take i).all isD = true) (fun i => k - i) (0) ?_; intro e0 σ0 n0 h0; simp (maxSteps:=9^7) (disch:=first|exact dI|fail) only [push_cast, seval] at h0; obtain ⟨rfl, rfl, rfl⟩ := h0; refine ⟨?_, ?_, ?_⟩
  ·simp (maxSteps:=9^7) (disch:=first|exact dI|fail) only [push_cast, seval]
   rfl
  ·exact ⟨by omega, by simp⟩
  rintro i ⟨hi, hd⟩
  have hdl := dig_le hd (by simp; omega)
  by_cases hlt : i < k
  ·obtain ⟨c, hc⟩ : ∃ c, s[i]? = some c := ⟨_, List.getElem?_eq_getElem (by omega)⟩
   have hcl := c.toNat_lt
   have hw := wrap_i64 (n := (c.toNat : Int)) (by omega) (by omega)
   have hts := take_snoc hc
   by_cases hcd : isD c = true
   ·have hb := isD_bound hcd
    have hin := in125_t (n := (c.toNat : Int)) (lo := 48) (hi := 57) ⟨by omega, by omega⟩
    have hw2 := wrap_i64 (n := (c.toNat : Int) - 48) (by omega) (by omega)
    have hdv : digV 0 (s.take (i + 1)) = 10 * digV 0 (s.take i) + ((c.toNat : Int) - 48) := by rw [hts, digV_app]
    have hd2 : (s.take (i + 1)).all isD = true := by rw [hts, List.all_append, hd]; simp [hcd]
    simp (maxSteps:=9^7) (disch:=first|exact dI|fail) only [hc, byteO_some, hw, push_cast, seval]
    refine ACall.pure hin rfl ?_
    simp (maxSteps:=9^7) (disch:=first|exact dI|fail) only [hc, byteO_some, hw2, push_cast, seval]
    exact ⟨i + 1, hd_z (by simp (maxSteps:=9^7) (disch:=first|exact dI|fail) only [hdv, push_cast, seval]), ⟨by omega, hd2⟩, by omega⟩
   ·have hin := in125_f (n := (c.toNat : Int)) (lo := 48) (hi := 57) (fun h => hcd (by simp [isD]; omega))
    have hnone : R = none := by
     rw [hR]
     refine if_neg fun h => hcd ?_
     exact List.all_eq_true.1 h.2 c (List.mem_of_getElem? (i := i) (by rw [List.getElem?_take_of_lt hlt]; exact hc))
    rw [hnone]
    simp (maxSteps:=9^7) (disch:=first|exact dI|fail) only [hc, byteO_some, hw, push_cast, seval]
    refine ACall.pure hin rfl ?_
    simp (maxSteps:=9^7) (disch:=first|exact dI|fail) only [numV, push_cast, seval]
  ·have hik : i = k := by omega
   subst hik
   have hsome : R = some (digV 0 (s.take i), s.drop i) := by rw [hR]; exact if_pos ⟨by omega, hd⟩
   rw [hsome]
   simp (maxSteps:=9^7) (disch:=first|exact dI|fail) only [numV, List.take_length, push_cast, seval]
theorem hasPre177 (s p : List UInt8) : Pure Tryz.prog tabG 177 [.str s, .str p] (.bool (decide (s.take p.length = p ∧ p.length ≤ s.length))) := by
 refine Pure.intro F177_ok (by simp [F177]) ?_
 by_cases hl : p.length ≤ s.length
 ·by_cases he : s.take p.length = p
  ·rw [show decide (s.take p.length = p ∧ p.length ≤ s.length) = true from decide_eq_true ⟨he, hl⟩]
   simp (maxSteps:=9^7) (disch:=first|exact dI|fail) only [F177, he, push_cast, seval]
  ·rw [show decide (s.take p.length = p ∧ p.length ≤ s.length) = false from decide_eq_false (fun h => he h.1)]
   simp (maxSteps:=9^7) (disch:=first|exact dI|fail) only [F177, he, push_cast, seval]
 ·rw [show decide (s.take p.length = p ∧ p.length ≤ s.length) = false from decide_eq_false (fun h => hl h.2)]
  simp (maxSteps:=9^7) (disch:=first|exact dI|fail) only [F177, push_cast, seval]
end Go.Proofs.YtbaaokocnegdoaaGreatDoor
set_option maxRecDepth 100000
set_option linter.unusedVariables false
set_option linter.unusedSimpArgs false
-- many steps
namespace Go.Proofs.YtbaaokocnegdoaaGreatDoor
open Go Go.Ab
attribute [local irreducible] vc
def preB (p s : List UInt8) : Bool := decide (s.take p.length = p ∧ p.length ≤ s.length)
theorem cutPre128 (s p : List UInt8) : Pure Tryz.prog tabG 128 [.str s, .str p] (.tup [.str (if preB p s = true then s.drop p.length else s), .bool (preB p s)]) := by
 have hp := hasPre177 s p
 have hl : preB p s = true → p.length ≤ s.length := fun h => (of_decide_eq_true h).2
 refine Pure.intro F128_ok (by simp [F128]) ?_
 change Pure Tryz.prog tabG 177 [.str s, .str p] (.bool (preB p s)) at hp
 cases hb : preB p s with
 | true =>
   have := hl hb
   rw [hb] at hp
   simp only [if_true]
   simp (maxSteps:=9^7) (disch:=first|exact dI|fail) only [F128, push_cast, seval]
   refine ACall.pure hp rfl ?_
   simp (maxSteps:=9^7) (disch:=first|exact dI|fail) only [List.take_length, push_cast, seval]
 | false =>
   rw [hb] at hp
   simp only [Bool.false_eq_true, if_false]
   simp (maxSteps:=9^7) (disch:=first|exact dI|fail) only [F128, push_cast, seval]
   refine ACall.pure hp rfl ?_
   simp (maxSteps:=9^7) (disch:=first|exact dI|fail) only [push_cast, seval]
theorem cutPre76 (s p : List UInt8) : Pure Tryz.prog tabG 76 [.str s, .str p] (.tup [.str (if preB p s = true then s.drop p.length else s), .bool (preB p s)]) := by
 have h := cutPre128 s p
 generalize (if preB p s = true then s.drop p.length else s) = q at *
 generalize preB p s = b at *
 refine Pure.intro F76_ok (by simp [F76]) ?_
 simp (maxSteps:=9^7) (disch:=first|exact dI|fail) only [F76, push_cast, seval]
 refine ACall.pure h rfl ?_
 simp (maxSteps:=9^7) (disch:=first|exact dI|fail) only [push_cast, seval]
def numsP : List (List UInt8) → List Nat → List UInt8 → Option (List Int × List UInt8)
 | [], _, s => some ([], s)
 | _ :: _, [], _ => none
 | m :: ms, k :: ks, s => if preB m s = true then (match numP k (s.drop m.length) with
   | some p => (numsP ms ks p.2).map fun q => (p.1 :: q.1, q.2)
   | none => none) else none
def numsV (s : List UInt8) : Option (List Int × List UInt8) → PV
 | some p => .tup [.list (p.1.map (PV.int .i64)), .str p.2, .bool true]
 | none => .tup [.nils, .str s, .bool false]
theorem numbers74 (s : List UInt8) (ms : List (List UInt8)) (ks : List Nat) (hm : ms.length = ks.length) (hl : ms.length ≤ 100) (hk : ∀ k, k ∈ ks → k ≤ 8) :
  Pure Tryz.prog tabG 74 [.str s, .list (ms.map PV.str), .list (ks.map natP)] (numsV s (numsP ms ks s)) := by
 obtain ⟨R, hR⟩ : ∃ R, R = numsP ms ks s := ⟨_, rfl⟩
 rw [← hR]
 refine Pure.intro F74_ok (by simp [F74]) ?_
 simp (maxSteps:=9^7) (disch:=first|exact dI|fail) only [F74, push_cast, seval]
 refine vc_over ([(6, 0, 3, 1)]) (fun y : Nat × List Int × List UInt8 => [(6, .olist 0 1 (y.2.1.map (PV.int .i64))), (7, .pv (.str y.2.2)), (15, .pv (.int .i64 (y.1 : Int)))]) (fun _ => []) (fun y => y.1 ≤ ms.length ∧ y.2.1.length ≤ y.1 ∧ R = (numsP (ms.drop y.1) (ks.drop y.1) y.2.2).map fun q => (y.2.1 ++ q.1, q.2)) (fun y => ms.length - y.1) ((0, [], s)) ?_; intro e0 σ0 n0 h0; simp (maxSteps:=9^7) (disch:=first|exact dI|fail) only [push_cast, seval] at h0; obtain ⟨rfl, rfl, rfl⟩ := h0; refine ⟨?_, ?_, ?_⟩
 ·simp (maxSteps:=9^7) (disch:=first|exact dI|fail) only [push_cast, seval]
 ·exact ⟨by simp, by simp, by simp [hR]⟩
 rintro ⟨i, L, r⟩ ⟨h1, h2, h3⟩
 simp only at h1 h2 h3
 by_cases hlt : i < ms.length
 ·obtain ⟨m, hmi⟩ : ∃ m, ms[i]? = some m := ⟨_, List.getElem?_eq_getElem hlt⟩
  obtain ⟨k, hki⟩ : ∃ k, ks[i]? = some k := ⟨_, List.getElem?_eq_getElem (by omega)⟩
  have hmp : (ms.map PV.str)[i]? = some (.str m) := by simp [hmi]
  have hkp : (ks.map natP)[i]? = some (.int .i64 (k : Int)) := by simp [hki, natP]
  have hk8 := hk k (List.mem_of_getElem? hki)
  have hc := cutPre76 r m
  rw [drop_at hmi, drop_at hki] at h3
  simp only [numsP] at h3
  cases hb : preB m r with
  | false =>
    rw [hb] at hc h3
    simp only [Bool.false_eq_true, if_false, Option.map_none] at hc h3
    rw [h3]
    simp (maxSteps:=9^7) (disch:=first|exact dI|fail) only [hmp, push_cast, seval]
    refine ACall.pure hc rfl ?_
    simp (maxSteps:=9^7) (disch:=first|exact dI|fail) only [numsV, push_cast, seval]
  | true =>
    rw [hb] at hc h3
    simp only [if_true] at hc h3
    have hn := number77 (r.drop m.length) k hk8
    cases hv : numP k (r.drop m.length) with
    | none =>
      rw [hv] at hn h3
      simp only [numV, Option.map_none] at hn h3
      rw [h3]
      simp (maxSteps:=9^7) (disch:=first|exact dI|fail) only [hmp, push_cast, seval]
      refine ACall.pure hc rfl ?_
      simp (maxSteps:=9^7) (disch:=first|exact dI|fail) only [hkp, push_cast, seval]
      refine ACall.pure hn rfl ?_
      simp (maxSteps:=9^7) (disch:=first|exact dI|fail) only [numsV, push_cast, seval]
    | some p =>
      rw [hv] at hn h3
      simp only [numV] at hn h3
      simp (maxSteps:=9^7) (disch:=first|exact dI|fail) only [hmp, push_cast, seval]
      refine ACall.pure hc rfl ?_
      simp (maxSteps:=9^7) (disch:=first|exact dI|fail) only [hkp, push_cast, seval]
      refine ACall.pure hn rfl ?_
      simp (maxSteps:=9^7) (disch:=first|exact dI|fail) only [push_cast, seval]
      exact ⟨(i + 1, L ++ [p.1], p.2), hd_z (by simp (maxSteps:=9^7) (disch:=first|exact dI|fail) only [List.map_append, push_cast, seval]), ⟨by simp only; omega, by simp; omega, by rw [h3, Option.map_map]; congr 1; funext q; simp⟩, by simp only; omega⟩
 ·have hi : i = ms.length := by omega
  have hd1 : ms.drop i = [] := List.drop_eq_nil_of_le (by omega)
  rw [hd1] at h3
  simp only [numsP, Option.map_some, List.append_nil] at h3
  rw [h3]
  simp (maxSteps:=9^7) (disch:=first|exact dI|fail) only [numsV, push_cast, seval]
end Go.Proofs.YtbaaokocnegdoaaGreatDoor
set_option maxRecDepth 100000
set_option linter.unusedVariables false
set_option linter.unusedSimpArgs false
-- many steps
namespace Go.Proofs.YtbaaokocnegdoaaGreatDoor
open Go Go.Ab
attribute [local irreducible] vc
def dayR (y m d : Int) : Int × Int := if 1 ≤ y ∧ y ≤ 9999 ∧ 1 ≤ m ∧ m ≤ 12 ∧ 1 ≤ d ∧ d ≤ mdI y m then (dayN y m.toNat d - 719162, 0) else (0, 17)
theorem dayR_ok {y m d : Int} (h : 1 ≤ y ∧ y ≤ 9999 ∧ 1 ≤ m ∧ m ≤ 12 ∧ 1 ≤ d ∧ d ≤ mdI y m) : DateOk y m.toNat d ∧ ((m.toNat : Nat) : Int) = m := by
 have e : ((m.toNat : Nat) : Int) = m := by omega
 exact ⟨⟨h.1, h.2.1, by omega, by omega, h.2.2.2.2.1, by rw [e]; exact h.2.2.2.2.2⟩, e⟩
theorem dayR_no {y m d : Int} (h : ¬ (1 ≤ y ∧ y ≤ 9999 ∧ 1 ≤ m ∧ m ≤ 12 ∧ 1 ≤ d ∧ d ≤ mdI y m)) (k : Nat) (hk : m = k) : ¬ DateOk y k d := by
 intro hd
 subst hk
 exact h ⟨hd.y1, hd.y2, by have := hd.m1; omega, by have := hd.m2; omega, hd.d1, hd.d2⟩
theorem days75 (y m d : Int) : Pure Tryz.prog tabG 75 [.int .i64 y, .int .i64 m, .int .i64 d] (.tup [.int .i64 (dayR y m d).1, .int .i64 (dayR y m d).2]) := by
 unfold dayR
 by_cases h : 1 ≤ y ∧ y ≤ 9999 ∧ 1 ≤ m ∧ m ≤ 12 ∧ 1 ≤ d ∧ d ≤ mdI y m
 ·rw [if_pos h]
  obtain ⟨h1, h2⟩ := dayR_ok h
  have := days_t h1
  rwa [h2] at this
 ·rw [if_neg h]
  exact days_f (dayR_no h)
theorem rdays136 (y m d : Int) : Pure Tryz.prog tabG 136 [.int .i64 y, .int .i64 m, .int .i64 d] (.tup [.int .i64 (dayR y m d).1, .bool (decide ((dayR y m d).2 = 0))]) := by
 unfold dayR
 by_cases h : 1 ≤ y ∧ y ≤ 9999 ∧ 1 ≤ m ∧ m ≤ 12 ∧ 1 ≤ d ∧ d ≤ mdI y m
 ·rw [if_pos h]
  obtain ⟨h1, h2⟩ := dayR_ok h
  have := rdays_t h1
  rwa [h2] at this
 ·rw [if_neg h]
  exact rdays_f (dayR_no h)
theorem dayR_e (y m d : Int) : (dayR y m d).2 = 0 ∨ (dayR y m d).2 = 17 := by unfold dayR; split <;> simp
theorem numsP_len : ∀ {ms : List (List UInt8)} {ks : List Nat} {s : List UInt8} {p : List Int × List UInt8}, numsP ms ks s = some p → p.1.length = ms.length
 | [], _, s, p, h => by simp only [numsP] at h; cases h; rfl
 | m :: ms, [], s, p, h => by simp [numsP] at h
 | m :: ms, k :: ks, s, p, h => by
   simp only [numsP] at h
   split at h
   ·cases hn : numP k (s.drop m.length) with
    | none => rw [hn] at h; cases h
    | some q =>
      rw [hn] at h
      simp only [Option.map_eq_some_iff] at h
      obtain ⟨r, hr, rfl⟩ := h
      simp [numsP_len hr]
   ·cases h
def parseD (s : List UInt8) : Int × Int :=
 match numsP [[], [45], [45]] [4, 2, 2] s with
 | some ([y, m, d], []) => dayR y m d
 | _ => (0, 13)
theorem rE1 (sz : Nat) (l : List PV) : rElem sz l 1 = onElem sz l 1 l[1]? := rfl
theorem rE2 (sz : Nat) (l : List PV) : rElem sz l 2 = onElem sz l 2 l[2]? := rfl
theorem parse35 (s : List UInt8) : Pure Tryz.prog tabG 35 [.str s] (.tup [.int .i64 (parseD s).1, .int .i64 (parseD s).2]) := by
 have hn := numbers74 s [[], [45], [45]] [4, 2, 2] rfl (by simp) (by simp)
 simp only [List.map_cons, List.map_nil, natP] at hn
 unfold parseD
 cases hv : numsP [[], [45], [45]] [4, 2, 2] s with
 | none =>
   rw [hv] at hn
   simp only [numsV] at hn
   refine Pure.intro F35_ok (by simp [F35]) ?_
   simp (maxSteps:=9^7) (disch:=first|exact dI|fail) only [F35, push_cast, seval]
   refine ACall.pure hn rfl ?_
   simp (maxSteps:=9^7) (disch:=first|exact dI|fail) only [push_cast, seval]
 | some p =>
   have hl := numsP_len hv
   obtain ⟨l, r⟩ := p
   simp only at hl
   obtain ⟨y, m, d, rfl⟩ : ∃ y m d, l = [y, m, d] := by
    match l, hl with
    | [y, m, d], _ => exact ⟨y, m, d, rfl⟩
   rw [hv] at hn
   simp only [numsV, List.map_cons, List.map_nil] at hn
   cases r with
   | nil =>
     have hd := days75 y m d
     refine Pure.intro F35_ok (by simp [F35]) ?_
     simp (maxSteps:=9^7) (disch:=first|exact dI|fail) only [F35, push_cast, seval]
     refine ACall.pure hn rfl ?_
     simp (maxSteps:=9^7) (disch:=first|exact dI|fail) only [rE1, rE2, push_cast, seval]
     refine callDL_pure hd rfl ?_
     simp (maxSteps:=9^7) (disch:=first|exact dI|fail) only [push_cast, seval]
   | cons c r =>
     have hcr : (!decide (c :: r = [])) = true := by simp
     refine Pure.intro F35_ok (by simp [F35]) ?_
     simp (maxSteps:=9^7) (disch:=first|exact dI|fail) only [F35, push_cast, seval]
     refine ACall.pure hn rfl ?_
     simp (maxSteps:=9^7) (disch:=first|exact dI|fail) only [hcr, push_cast, seval]
end Go.Proofs.YtbaaokocnegdoaaGreatDoor
