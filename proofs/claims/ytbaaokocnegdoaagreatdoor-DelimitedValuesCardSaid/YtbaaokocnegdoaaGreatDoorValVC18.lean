/- A part of the proof for DelimitedValuesCardSaid. -/
import Derived.Test.YtbaaokocnegdoaaGreatDoorValVC17
set_option maxRecDepth 100000
set_option linter.unusedVariables false
set_option linter.unusedSimpArgs false
-- many steps
namespace Go.Proofs.YtbaaokocnegdoaaGreatDoor
open Go Go.Ab
attribute [local irreducible] vc
def dd : Nat → Nat → List Nat
 | 0, _ => []
 | f + 1, a => if a = 0 then [] else a % 10 :: dd f (a / 10)
theorem dd_len_le : ∀ (f a : Nat), (dd f a).length ≤ f
 | 0, a => by simp [dd]
 | f + 1, a => by
   rw [dd]
   split
   ·simp
   ·have := dd_len_le f (a / 10)
    simp; omega
theorem dd_get : ∀ (f a i : Nat), a < 10 ^ f → (dd f a).getD i 0 = a / 10 ^ i % 10
 | 0, a, i, h => by
   have : a = 0 := by simpa using h
   subst this
   simp [dd]
 | f + 1, a, i, h => by
   rw [dd]
   by_cases ha : a = 0
   ·subst ha; simp
   ·rw [if_neg ha]
    have hf' : a / 10 < 10 ^ f := by rw [Nat.pow_succ] at h; exact Nat.div_lt_of_lt_mul (by rw [Nat.mul_comm]; exact h)
    cases i with
    | zero => simp
    | succ i =>
      rw [List.getD_cons_succ, dd_get f (a / 10) i hf', Nat.div_div_eq_div_mul, Nat.pow_succ, Nat.mul_comm 10]
theorem dd_len : ∀ (f a : Nat), a < 10 ^ f → a ≠ 0 → (dd f a).length = (digits f a).length
 | 0, a, h, h0 => by simp at h; omega
 | f + 1, a, h, h0 => by
   rw [dd, digits, if_neg h0]
   have hf' : a / 10 < 10 ^ f := by rw [Nat.pow_succ] at h; exact Nat.div_lt_of_lt_mul (by rw [Nat.mul_comm]; exact h)
   by_cases h10 : a < 10
   ·rw [if_pos h10, show a / 10 = 0 by omega]
    cases f <;> simp [dd]
   ·rw [if_neg h10, List.length_cons, List.length_append, dd_len f (a / 10) hf' (by omega)]
    simp
theorem dd_last : ∀ (f a : Nat), a < 10 ^ f → a ≠ 0 → (dd f a)[(dd f a).length - 1]? ≠ some 0
 | 0, a, h, h0 => by simp at h; omega
 | f + 1, a, h, h0 => by
   rw [dd, if_neg h0]
   have hf' : a / 10 < 10 ^ f := by rw [Nat.pow_succ] at h; exact Nat.div_lt_of_lt_mul (by rw [Nat.mul_comm]; exact h)
   by_cases h10 : a / 10 = 0
   ·rw [h10]
    have e : dd f 0 = [] := by cases f <;> simp [dd]
    rw [e]
    simp; omega
   ·have ih := dd_last f (a / 10) hf' h10
    have hne : 1 ≤ (dd f (a / 10)).length := by
     cases f with
     | zero => simp at hf'; omega
     | succ f => rw [dd, if_neg h10]; simp
    rw [List.length_cons, Nat.add_sub_cancel, show (dd f (a / 10)).length = (dd f (a / 10)).length - 1 + 1 by omega, List.getElem?_cons_succ]
    exact ih
theorem trim208 (sg : Int) (D : List Nat) (hl : D.length ≤ 100) (h : D[D.length - 1]? ≠ some 0) : Pure Tryz.prog tabG 208 [.agg [.int .i64 sg, .list (D.map natP)]] (.agg [.int .i64 (if D = [] then 0 else sg), .list (D.map natP)]) := by
 refine Pure.intro F208_ok (by simp [F208]) ?_
 by_cases hD : D = []
 ·subst hD
  rw [if_pos rfl]
  simp (maxSteps:=9^7) (disch:=first|exact dI|fail) only [F208, push_cast, seval]
  refine vc_over ([]) (fun i : Nat => [(3, .pv (.int .i64 0))]) (fun _ => []) (fun i => i = 0) (fun i => 0) (0) ?_; intro e0 σ0 n0 h0; simp (maxSteps:=9^7) (disch:=first|exact dI|fail) only [push_cast, seval] at h0; obtain ⟨rfl, rfl, rfl⟩ := h0; refine ⟨?_, ?_, ?_⟩
  ·simp (maxSteps:=9^7) (disch:=first|exact dI|fail) only [push_cast, seval]
  ·rfl
  rintro i rfl
  simp (maxSteps:=9^7) (disch:=first|exact dI|fail) only [push_cast, seval]
 ·rw [if_neg hD]
  have hp : 0 < D.length := List.length_pos_iff.2 hD
  obtain ⟨k, hk⟩ : ∃ k, D.length = k + 1 := ⟨D.length - 1, by omega⟩
  obtain ⟨x, hx⟩ : ∃ x, D[k]? = some x := ⟨_, List.getElem?_eq_getElem (by omega)⟩
  rw [hk, Nat.add_sub_cancel] at h
  have hx0 : ¬ (x : Int) = 0 := fun e => h (by rw [hx, show x = 0 by omega])
  have hxp : (D.map natP)[k]? = some (.int .i64 (x : Int)) := by simp [hx, natP]
  have e1 : ((D.length : Int) - 1) = (k : Int) := by omega
  have hpI : (0 : Int) < (D.length : Int) := by omega
  have hnz : ¬ (D.length : Int) = 0 := by omega
  simp (maxSteps:=9^7) (disch:=first|exact dI|fail) only [F208, push_cast, seval]
  refine vc_over ([]) (fun i : Nat => [(3, .pv (.int .i64 (D.length : Int)))]) (fun _ => []) (fun i => i = 0) (fun i => 0) (0) ?_; intro e0 σ0 n0 h0; simp (maxSteps:=9^7) (disch:=first|exact dI|fail) only [push_cast, seval] at h0; obtain ⟨rfl, rfl, rfl⟩ := h0; refine ⟨?_, ?_, ?_⟩
  ·simp (maxSteps:=9^7) (disch:=first|exact dI|fail) only [push_cast, seval]
  ·rfl
  rintro i rfl
  simp (maxSteps:=9^7) (disch:=first|exact dI|fail) only [e1, hxp, List.take_length, push_cast, seval]
theorem digit155 (sg : Int) (D : List Nat) (i : Nat) : Pure Tryz.prog tabG 155 [.agg [.int .i64 sg, .list (D.map natP)], .int .i64 (i : Int)] (natP (D.getD i 0)) := by
 by_cases hi : i < D.length
 ·obtain ⟨x, hx⟩ : ∃ x, D[i]? = some x := ⟨_, List.getElem?_eq_getElem hi⟩
  have hxp : (D.map natP)[i]? = some (.int .i64 (x : Int)) := by simp [hx, natP]
  have hg : D.getD i 0 = x := by rw [List.getD_eq_getElem?_getD, hx]; rfl
  rw [hg]
  refine Pure.intro F155_ok (by simp [F155]) ?_
  simp (maxSteps:=9^7) (disch:=first|exact dI|fail) only [F155, hxp, natP, push_cast, seval]
 ·have hg : D.getD i 0 = 0 := by rw [List.getD_eq_getElem?_getD, List.getElem?_eq_none (by omega)]; rfl
  rw [hg]
  refine Pure.intro F155_ok (by simp [F155]) ?_
  simp (maxSteps:=9^7) (disch:=first|exact dI|fail) only [F155, natP, push_cast, seval]
def sgn (n : Int) : Int := if n = 0 then 0 else if n < 0 then -1 else 1
theorem of154 {n : Int} (h1 : -999999999999999 ≤ n) (h2 : n ≤ 999999999999999) : Pure Tryz.prog tabG 154 [.int .i64 n, .int .i64 0] (.agg [.int .i64 (sgn n), .list ((dd 20 n.natAbs).map natP)]) := by
 have hlt : n.natAbs < 10 ^ 20 := by simp; omega
 have hL := dd_len_le 20 n.natAbs
 have hlast : (dd 20 n.natAbs)[(dd 20 n.natAbs).length - 1]? ≠ some 0 := by
  by_cases h0 : n.natAbs = 0
  ·rw [h0]; simp [dd]
  ·exact dd_last 20 _ hlt h0
 have ht := trim208 (if n < 0 then -1 else 1) (dd 20 n.natAbs) (by omega) hlast
 have hsg : (if dd 20 n.natAbs = [] then (0 : Int) else if n < 0 then -1 else 1) = sgn n := by
  unfold sgn
  by_cases h0 : n = 0
  ·rw [h0]; simp [dd]
  ·rw [if_neg h0, if_neg]
   rw [dd, if_neg (by omega)]
   simp
 rw [hsg] at ht
 generalize sgn n = SG at *
 clear hsg hlast hL
 refine Pure.intro F154_ok (by simp [F154]) ?_
 by_cases hneg : n < 0
 ·rw [if_pos hneg] at ht
  have ea : 0 - n = (n.natAbs : Int) := by omega
  simp (maxSteps:=9^7) (disch:=first|exact dI|fail) only [F154, push_cast, seval]
  refine vc_over ([(5, 2, 3, 1)]) (fun i : Nat => [(6, .pv (.int .i64 (i : Int)))]) (fun i => [(1, .cells 187 true [.pv (.int .i64 (-1)), .olist 2 1 []])]) (fun i => i = 0) (fun i => 0) (0) ?_; intro e0 σ0 n0 h0; simp (maxSteps:=9^7) (disch:=first|exact dI|fail) only [push_cast, seval] at h0; obtain ⟨rfl, rfl, rfl⟩ := h0; refine ⟨?_, ?_, ?_⟩
  ·simp (maxSteps:=9^7) (disch:=first|exact dI|fail) only [push_cast, seval]
  ·rfl
  rintro i rfl
  simp (maxSteps:=9^7) (disch:=first|exact dI|fail) only [ea, push_cast, seval]
  refine vc_over ([]) (fun y : Nat × List Nat => [(0, .pv (.int .i64 (y.1 : Int)))]) (fun y => [(1, .cells 187 true [.pv (.int .i64 (-1)), .olist 2 1 (y.2.map natP)])]) (fun y => ∃ f, y.1 < 10 ^ f ∧ y.1 ≤ 999999999999999 ∧ y.2 ++ dd f y.1 = dd 20 n.natAbs) (fun y => y.1) ((n.natAbs, [])) ?_; intro e0 σ0 n0 h0; simp (maxSteps:=9^7) (disch:=first|exact dI|fail) only [push_cast, seval] at h0; obtain ⟨rfl, rfl, rfl⟩ := h0; refine ⟨?_, ?_, ?_⟩
  ·simp (maxSteps:=9^7) (disch:=first|exact dI|fail) only [List.map_nil, ea, push_cast, seval]
  ·exact ⟨20, hlt, by simp only; omega, rfl⟩
  rintro ⟨r, L⟩ ⟨f, h1, hr, h2⟩
  simp only at h1 h2 hr
  have hLl : L.length ≤ 20 := by
   have g1 := congrArg List.length h2
   have g2 := dd_len_le 20 n.natAbs
   rw [List.length_append] at g1
   omega
  by_cases  h0 : r = 0
  ·subst h0
   have hL : L = dd 20 n.natAbs := by
    rw [← h2]
    cases f <;> simp [dd]
   simp (maxSteps:=9^7) (disch:=first|exact dI|fail) only [hL, push_cast, seval]
   refine ACall.pure ht rfl ?_
   simp (maxSteps:=9^7) (disch:=first|exact dI|fail) only [push_cast, seval]
  ·have h0I : (0 : Int) < (r : Int) := by omega
   have q1 := tdiv_n (a := (r : Int)) (b := 10) (by omega)
   have q2 := tmod_n (a := (r : Int)) (b := 10) (by omega)
   obtain ⟨f, rfl⟩ : ∃ g, f = g + 1 := by
    cases f with
    | zero => simp at h1; omega
    | succ g => exact ⟨g, rfl⟩
   rw [dd, if_neg h0] at h2
   have hf' : r / 10 < 10 ^ f := by rw [Nat.pow_succ] at h1; exact Nat.div_lt_of_lt_mul (by rw [Nat.mul_comm]; exact h1)
   simp (maxSteps:=9^7) (disch:=first|exact dI|fail) only [q1, q2, push_cast, seval]
   exact ⟨(r / 10, L ++ [r % 10]), hd_z (by simp (maxSteps:=9^7) (disch:=first|exact dI|fail) only [List.map_append, natP, push_cast, seval]), ⟨f, hf', by simp only; omega, by rw [← h2]; simp⟩, by simp only; omega⟩
 ·rw [if_neg hneg] at ht
  have ea : n = (n.natAbs : Int) := by omega
  obtain ⟨a, ha⟩ : ∃ a, a = n.natAbs := ⟨_, rfl⟩
  rw [← ha] at ht hlt ea ⊢
  subst ea
  simp (maxSteps:=9^7) (disch:=first|exact dI|fail) only [F154, push_cast, seval]
  refine vc_over ([(5, 2, 3, 1)]) (fun i : Nat => [(6, .pv (.int .i64 (i : Int)))]) (fun i => [(1, .cells 187 true [.pv (.int .i64 (1)), .olist 2 1 []])]) (fun i => i = 0) (fun i => 0) (0) ?_; intro e0 σ0 n0 h0; simp (maxSteps:=9^7) (disch:=first|exact dI|fail) only [push_cast, seval] at h0; obtain ⟨rfl, rfl, rfl⟩ := h0; refine ⟨?_, ?_, ?_⟩
  ·simp (maxSteps:=9^7) (disch:=first|exact dI|fail) only [push_cast, seval]
  ·rfl
  rintro i rfl
  simp (maxSteps:=9^7) (disch:=first|exact dI|fail) only [push_cast, seval]
  refine vc_over ([]) (fun y : Nat × List Nat => [(0, .pv (.int .i64 (y.1 : Int)))]) (fun y => [(1, .cells 187 true [.pv (.int .i64 (1)), .olist 2 1 (y.2.map natP)])]) (fun y => ∃ f, y.1 < 10 ^ f ∧ y.1 ≤ 999999999999999 ∧ y.2 ++ dd f y.1 = dd 20 a) (fun y => y.1) ((a, [])) ?_; intro e0 σ0 n0 h0; simp (maxSteps:=9^7) (disch:=first|exact dI|fail) only [push_cast, seval] at h0; obtain ⟨rfl, rfl, rfl⟩ := h0; refine ⟨?_, ?_, ?_⟩
  ·simp (maxSteps:=9^7) (disch:=first|exact dI|fail) only [List.map_nil, push_cast, seval]
  ·exact ⟨20, hlt, by simp only; omega, rfl⟩
  rintro ⟨r, L⟩ ⟨f, h1, hr, h2⟩
  simp only at h1 h2 hr
  have hLl : L.length ≤ 20 := by
   have g1 := congrArg List.length h2
   have g2 := dd_len_le 20 a
   rw [List.length_append] at g1
   omega
  by_cases  h0 : r = 0
  ·subst h0
   have hL : L = dd 20 a := by
    rw [← h2]
    cases f <;> simp [dd]
   simp (maxSteps:=9^7) (disch:=first|exact dI|fail) only [hL, push_cast, seval]
   refine ACall.pure ht rfl ?_
   simp (maxSteps:=9^7) (disch:=first|exact dI|fail) only [push_cast, seval]
  ·have h0I : (0 : Int) < (r : Int) := by omega
   have q1 := tdiv_n (a := (r : Int)) (b := 10) (by omega)
   have q2 := tmod_n (a := (r : Int)) (b := 10) (by omega)
   obtain ⟨f, rfl⟩ : ∃ g, f = g + 1 := by
    cases f with
    | zero => simp at h1; omega
    | succ g => exact ⟨g, rfl⟩
   rw [dd, if_neg h0] at h2
   have hf' : r / 10 < 10 ^ f := by rw [Nat.pow_succ] at h1; exact Nat.div_lt_of_lt_mul (by rw [Nat.mul_comm]; exact h1)
   simp (maxSteps:=9^7) (disch:=first|exact dI|fail) only [q1, q2, push_cast, seval]
   exact ⟨(r / 10, L ++ [r % 10]), hd_z (by simp (maxSteps:=9^7) (disch:=first|exact dI|fail) only [List.map_append, natP, push_cast, seval]), ⟨f, hf', by simp only; omega, by rw [← h2]; simp⟩, by simp only; omega⟩
end Go.Proofs.YtbaaokocnegdoaaGreatDoor
set_option maxRecDepth 100000
set_option linter.unusedVariables false
set_option linter.unusedSimpArgs false
-- many steps
namespace Go.Proofs.YtbaaokocnegdoaaGreatDoor
open Go Go.Ab
attribute [local irreducible] vc
theorem is102 (n : Int) (sc : Nat) : Pure Tryz.prog tabG 102 [.agg [.int .i64 n, .int .i64 (sc : Int)]] (.bool (decide (IsN n sc))) := by
 by_cases h1 : -999999999999999 ≤ n
 ·by_cases h2 : n ≤ 999999999999999
  ·by_cases h3 : (sc : Int) ≤ 12
   ·rw [decide_eq_true (show IsN n sc from ⟨h1, h2, by omega⟩)]
    have h0 : (0 : Int) ≤ (sc : Int) := by omega
    refine Pure.intro F102_ok (by simp [F102]) ?_
    simp (maxSteps:=9^7) (disch:=first|exact dI|fail) only [F102, push_cast, seval]
   ·rw [decide_eq_false (show ¬ IsN n sc from fun h => h3 (by have := h.2.2; omega))]
    have h0 : (0 : Int) ≤ (sc : Int) := by omega
    refine Pure.intro F102_ok (by simp [F102]) ?_
    simp (maxSteps:=9^7) (disch:=first|exact dI|fail) only [F102, push_cast, seval]
  ·rw [decide_eq_false (show ¬ IsN n sc from fun h => h2 h.2.1)]
   refine Pure.intro F102_ok (by simp [F102]) ?_
   simp (maxSteps:=9^7) (disch:=first|exact dI|fail) only [F102, push_cast, seval]
 ·rw [decide_eq_false (show ¬ IsN n sc from fun h => h1 h.1)]
  refine Pure.intro F102_ok (by simp [F102]) ?_
  simp (maxSteps:=9^7) (disch:=first|exact dI|fail) only [F102, push_cast, seval]
def txtI (a sc i : Nat) : List UInt8 := if i ≤ sc then numT i a else numT (i - sc) (a / 10 ^ sc) ++ (if sc = 0 then [] else 46 :: numT sc a)
theorem numT_succ (i a : Nat) : numT (i + 1) a = UInt8.ofNat (48 + a / 10 ^ i % 10) :: numT i a := by
 rw [Nat.add_comm, numT_split 1 i a]
 simp [numT]
theorem txtI_succ (a sc i : Nat) : txtI a sc (i + 1) = UInt8.ofNat (48 + a / 10 ^ i % 10) :: (if i = sc ∧ 0 < i then [46] ++ txtI a sc i else txtI a sc i) := by
 by_cases h : i < sc
 ·have e1 : txtI a sc (i + 1) = numT (i + 1) a := by unfold txtI; rw [if_pos (by omega)]
  have e2 : txtI a sc i = numT i a := by unfold txtI; rw [if_pos (by omega)]
  rw [e1, e2, numT_succ, if_neg (by omega)]
 ·have e1 : txtI a sc (i + 1) = numT (i - sc + 1) (a / 10 ^ sc) ++ (if sc = 0 then [] else 46 :: numT sc a) := by
   unfold txtI
   rw [if_neg (show ¬ i + 1 ≤ sc by omega), show i + 1 - sc = i - sc + 1 by omega]
  rw [e1, numT_succ, Nat.div_div_eq_div_mul, ← Nat.pow_add, show sc + (i - sc) = i by omega]
  by_cases he : i = sc
  ·subst he
   have e2 : txtI a i i = numT i a := by unfold txtI; rw [if_pos (Nat.le_refl i)]
   rw [e2, Nat.sub_self]
   by_cases h0 : i = 0
   ·subst h0; simp [numT]
   ·rw [if_neg h0, if_pos (show i = i ∧ 0 < i from ⟨rfl, by omega⟩)]
    simp [numT]
  ·have e2 : txtI a sc i = numT (i - sc) (a / 10 ^ sc) ++ (if sc = 0 then [] else 46 :: numT sc a) := by unfold txtI; rw [if_neg (show ¬ i ≤ sc by omega)]
   rw [e2, if_neg (show ¬ (i = sc ∧ 0 < i) by omega)]
   rfl
theorem decT_txt (n : Int) (sc : Nat) : decT n sc = (if n < 0 then [45] else []) ++ txtI n.natAbs sc (max (dl n.natAbs) (sc + 1)) := by
 have e : txtI n.natAbs sc (max (dl n.natAbs) (sc + 1)) = numT (max (dl n.natAbs) (sc + 1) - sc) (n.natAbs / 10 ^ sc) ++ (if sc = 0 then [] else 46 :: numT sc n.natAbs) := by
  unfold txtI
  rw [if_neg (show ¬ max (dl n.natAbs) (sc + 1) ≤ sc by omega)]
 rw [e]
 rfl
theorem txtI_len (a sc i : Nat) : (txtI a sc i).length ≤ i + 1 := by
 unfold txtI
 split
 ·rw [numT_len]; omega
 ·split
  ·simp [numT_len]; omega
  ·simp [numT_len]; omega
theorem dd_dl {a : Nat} (h : a < 10 ^ 15) (sc : Nat) : max (dd 20 a).length (sc + 1) = max (dl a) (sc + 1) := by
 have h20 : a < 10 ^ 20 := Nat.lt_of_lt_of_le h (Nat.pow_le_pow_right (by omega) (by omega))
 by_cases h0 : a = 0
 ·subst h0
  have e1 : (dd 20 0).length = 0 := by simp [dd]
  have e2 : dl 0 = 1 := by decide
  omega
 ·rw [dd_len 20 a h20 h0]
  rfl
theorem text103 {n : Int} {sc : Nat} (hn : IsN n sc) : Pure Tryz.prog tabG 103 [.agg [.int .i64 n, .int .i64 (sc : Int)]] (.str (decT n sc)) := by
 obtain ⟨h1, h2, h3⟩ := hn
 have ho := of154 h1 h2
 have hlt : n.natAbs < 10 ^ 15 := by simp; omega
 have hlt20 : n.natAbs < 10 ^ 20 := by simp; omega
 have hdl := dl_spec hlt
 have hmx := dd_dl hlt sc
 have hget := fun i => dd_get 20 n.natAbs i hlt20
 have hdg := fun i => digit155 (sgn n) (dd 20 n.natAbs) i
 have hDl := dd_len_le 20 n.natAbs
 rw [decT_txt]
 have hstep := txtI_succ n.natAbs sc
 have hlen := txtI_len n.natAbs sc
 have hx0 : txtI n.natAbs sc 0 = [] := by simp [txtI, numT]
 obtain ⟨K, hK⟩ : ∃ K, K = max (dl n.natAbs) (sc + 1) := ⟨_, rfl⟩
 rw [← hK] at hmx ⊢
 have hmxI : max (((dd 20 n.natAbs).length : Nat) : Int) ((sc : Int) + 1) = (K : Int) := by omega
 have hK15 : K ≤ 15 := by omega
 generalize sgn n = SG at *
 generalize dd 20 n.natAbs = D at *
 obtain ⟨T, hT⟩ : ∃ T, T = txtI n.natAbs sc := ⟨_, rfl⟩
 rw [← hT] at hstep hlen hx0 ⊢
 obtain ⟨a, ha⟩ : ∃ a, a = n.natAbs := ⟨_, rfl⟩
 rw [← ha] at hget hstep
 clear hT hdl hK hmx hDl ha
 have hlT := hlen K
 refine Pure.intro F103_ok (by simp [F103]) ?_
 simp (maxSteps:=9^7) (disch:=first|exact dI|fail) only [F103, push_cast, seval]
 refine ACall.pure ho rfl ?_
 simp (maxSteps:=9^7) (disch:=first|exact dI|fail) only [push_cast, seval]
 refine vc_over ([]) (fun i : Nat => [(4, .pv (.str (T i))), (5, .pv (.int .i64 (i : Int)))]) (fun _ => []) (fun i => i ≤ K) (fun i => K - i) (0) ?_; intro e0 σ0 n0 h0; simp (maxSteps:=9^7) (disch:=first|exact dI|fail) only [push_cast, seval] at h0; obtain ⟨rfl, rfl, rfl⟩ := h0; refine ⟨?_, ?_, ?_⟩
 ·simp (maxSteps:=9^7) (disch:=first|exact dI|fail) only [hx0, push_cast, seval]
 ·omega
 intro i hi
 have hli := hlen i
 have hg := hget i
 have hd := hdg i
 rw [hg] at hd
 have hs := hstep i
 by_cases hlti : i < K
 ·have hltI : (i : Int) < (K : Int) := by omega
  have hb : a / 10 ^ i % 10 < 10 := Nat.mod_lt _ (by omega)
  generalize a / 10 ^ i % 10 = x at *
  simp only [natP] at hd
  have hw : IntKind.u8.wrap (48 + (x : Int)) = 48 + (x : Int) := by
   unfold IntKind.wrap; simp [IntKind.bits, IntKind.signed]; omega
  have hu : (48 + (x : Int)).toNat = 48 + x := by omega
  by_cases hc : i = sc ∧ 0 < i
  ·obtain ⟨rfl, hp⟩ := hc
   have hpI : (0 : Int) < (i : Int) := by omega
   rw [if_pos ⟨rfl, hp⟩] at hs
   simp (maxSteps:=9^7) (disch:=first|exact dI|fail) only [hmxI, push_cast, seval]
   refine ACall.pure hd rfl ?_
   simp (maxSteps:=9^7) (disch:=first|exact dI|fail) only [hw, push_cast, seval]
   exact ⟨i + 1, hd_z (by simp (maxSteps:=9^7) (disch:=first|exact dI|fail) only [hs, hu, push_cast, seval]), by omega, by omega⟩
  ·rw [if_neg hc] at hs
   by_cases he : i = sc
   ·have h0 : i = 0 := Decidable.of_not_not fun h => hc ⟨he, by omega⟩
    subst he
    have h0I : ¬ (0 : Int) < (i : Int) := by omega
    simp (maxSteps:=9^7) (disch:=first|exact dI|fail) only [hmxI, push_cast, seval]
    refine ACall.pure hd rfl ?_
    simp (maxSteps:=9^7) (disch:=first|exact dI|fail) only [hw, push_cast, seval]
    exact ⟨i + 1, hd_z (by simp (maxSteps:=9^7) (disch:=first|exact dI|fail) only [hs, hu, push_cast, seval]), by omega, by omega⟩
   ·have heI : ¬ (i : Int) = (sc : Int) := by omega
    simp (maxSteps:=9^7) (disch:=first|exact dI|fail) only [hmxI, push_cast, seval]
    refine ACall.pure hd rfl ?_
    simp (maxSteps:=9^7) (disch:=first|exact dI|fail) only [hw, push_cast, seval]
    exact ⟨i + 1, hd_z (by simp (maxSteps:=9^7) (disch:=first|exact dI|fail) only [hs, hu, push_cast, seval]), by omega, by omega⟩
 ·have hiK : i = K := by omega
  subst hiK
  by_cases hneg : n < 0
  ·rw [if_pos hneg]
   simp (maxSteps:=9^7) (disch:=first|exact dI|fail) only [hmxI, push_cast, seval]
  ·rw [if_neg hneg]
   simp (maxSteps:=9^7) (disch:=first|exact dI|fail) only [hmxI, push_cast, seval]
end Go.Proofs.YtbaaokocnegdoaaGreatDoor
