/- A part of the proof for FixedwidthCellsCardSaid. -/
import Derived.Test.YtedanlflegfomaaGreatDoorCelG5
set_option maxRecDepth 100000
set_option linter.unusedVariables false
set_option linter.unusedSimpArgs false
-- many steps
namespace Go.Proofs.YtedanlflegfomaaGreatDoor
open Go Go.Ab
attribute [local irreducible] vc
theorem any_stepI {p : Int → Bool} {l : List Int} {i : Nat} {x : Int} (h : l[i]? = some x) : (l.drop i).any p = (p x || (l.drop (i + 1)).any p) := by
 have hi := (List.getElem?_eq_some_iff.1 h).1
 have he : l[i] = x := (List.getElem?_eq_some_iff.1 h).2
 rw [List.drop_eq_getElem_cons hi, he, List.any_cons]
theorem ref15_bad (line : List UInt8) (w : List Int) (hl : w.length ≤ 1000000) (hb : badW w = true) : Pure Tryz.prog tabG 15 [.str line, .list (intsW w)] (.tup [.nils, .int .i64 2]) := by
 by_cases h64 : 64 < w.length
 ·have h64I : (64 : Int) < (w.length : Int) := by omega
  refine Pure.intro F15_ok (by simp [F15]) ?_
  simp (maxSteps:=9^7) (disch:=first|exact dI|fail) only [F15, intsW_len, h64I, push_cast, seval]
 have h64I : ¬ (64 : Int) < (w.length : Int) := by omega
 rw [badW, decide_eq_false h64, Bool.false_or] at hb
 refine Pure.intro F15_ok (by simp [F15]) ?_
 simp (maxSteps:=9^7) (disch:=first|exact dI|fail) only [F15, intsW_len, h64I, push_cast, seval]
 refine vc_over ([]) (fun x : Nat × Int => [(6, .pv (.int .i64 x.2)), (7, .pv (.int .i64 (x.1 : Int)))]) (fun _ => []) (fun x => x.1 ≤ w.length ∧ (w.drop x.1).any badI = true ∧ 0 ≤ x.2 ∧ x.2 ≤ 4096 * x.1) (fun x => w.length - x.1) ((0, 0)) ?_; intro e0 σ0 n0 h0; simp (maxSteps:=9^7) (disch:=first|exact dI|fail) only [push_cast, seval] at h0; obtain ⟨rfl, rfl, rfl⟩ := h0; refine ⟨?_, ?_, ?_⟩
 ·simp (maxSteps:=9^7) (disch:=first|exact dI|fail) only [push_cast, seval]
 ·exact ⟨by simp, by simpa using hb, by simp, by simp⟩
 rintro ⟨i, S⟩ ⟨hi, hd, h0, h1⟩
 simp only at hi hd h0 h1
 by_cases hlt : i < w.length
 ·have hltI : (i : Int) < (w.length : Int) := by omega
  obtain ⟨x, hx⟩ : ∃ x, w[i]? = some x := ⟨_, List.getElem?_eq_getElem hlt⟩
  have hx' := intsW_at hx
  rw [any_stepI hx, badI] at hd
  by_cases b1 : x < 1
  ·simp (maxSteps:=9^7) (disch:=first|exact dI|fail) only [intsW_len, hx', b1, push_cast, seval]
  ·by_cases b2 : 4096 < x
   ·simp (maxSteps:=9^7) (disch:=first|exact dI|fail) only [intsW_len, hx', b1, b2, push_cast, seval]
   ·rw [decide_eq_false b1, decide_eq_false b2, Bool.false_or, Bool.false_or] at hd
    simp (maxSteps:=9^7) (disch:=first|exact dI|fail) only [intsW_len, hx', b1, b2, push_cast, seval]
    exact ⟨(i + 1, S + x), hd_z (by simp (maxSteps:=9^7) (disch:=first|exact dI|fail) only [push_cast, seval]), ⟨by simp only; omega, hd, by simp only; omega, by simp only; omega⟩, by simp only; omega⟩
 ·rw [List.drop_of_length_le (by omega), List.any_nil] at hd
  cases hd
theorem natsP_len (v : List Nat) : (natsP v).length = v.length := by simp [natsP]
theorem natsP_at {v : List Nat} {i n : Nat} (h : v[i]? = some n) : (natsP v)[i]? = some (.int .i64 (n : Int)) := by simp [natsP, h]
theorem preW_zero (v : List Nat) : preW v 0 = 0 := rfl
theorem preW_all (v : List Nat) : preW v v.length = v.sum := by unfold preW; rw [List.take_length]
set_option maxHeartbeats 4000000 in
theorem ref15_ok (line : List UInt8) (v : List Nat) (hn : line.length ≤ 1000000) (hv : ∀ x ∈ v, 1 ≤ x ∧ x ≤ 4096) (hl : v.length ≤ 64) : Pure Tryz.prog tabG 15 [.str line, .list (natsP v)] (.tup [if line.length = v.sum then .list (outC line v v.length) else .nils, .int .i64 (fitsE line.length (v.sum : Nat))]) := by
 have h64I : ¬ (64 : Int) < (v.length : Int) := by omega
 have hps : ∀ i, preW v i ≤ 4096 * i := by
  intro i
  induction i with
  | zero => simp [preW]
  | succ i ih =>
    by_cases hlt : i < v.length
    ·obtain ⟨n, hn⟩ : ∃ n, v[i]? = some n := ⟨_, List.getElem?_eq_getElem hlt⟩
     have := hv n (List.mem_of_getElem? hn)
     rw [preW_step hn]; omega
    ·have : preW v (i + 1) = preW v i := by unfold preW; rw [List.take_of_length_le (by omega), List.take_of_length_le (by omega)]
     omega
 unfold fitsE
 refine Pure.intro F15_ok (by simp [F15]) ?_
 simp (maxSteps:=9^7) (disch:=first|exact dI|fail) only [F15, natsP_len, h64I, push_cast, seval]
 refine vc_over ([]) (fun i : Nat => [(6, .pv (.int .i64 (preW v i : Int))), (7, .pv (.int .i64 (i : Int)))]) (fun _ => []) (fun i => i ≤ v.length) (fun i => v.length - i) (0) ?_; intro e0 σ0 n0 h0; simp (maxSteps:=9^7) (disch:=first|exact dI|fail) only [push_cast, seval] at h0; obtain ⟨rfl, rfl, rfl⟩ := h0; refine ⟨?_, ?_, ?_⟩
 ·simp (maxSteps:=9^7) (disch:=first|exact dI|fail) only [preW_zero, push_cast, seval]
 ·omega
 rintro i hi
 have hpi := hps i
 by_cases hlt : i < v.length
 ·have hltI : (i : Int) < (v.length : Int) := by omega
  obtain ⟨n, hn⟩ : ∃ n, v[i]? = some n := ⟨_, List.getElem?_eq_getElem hlt⟩
  have hx' := natsP_at hn
  have hb := hv n (List.mem_of_getElem? hn)
  have b1 : ¬ (n : Int) < 1 := by omega
  have b2 : ¬ (4096 : Int) < (n : Int) := by omega
  have hst := preW_step hn
  have hstI : ((preW v (i + 1) : Nat) : Int) = (preW v i : Int) + (n : Int) := by omega
  simp (maxSteps:=9^7) (disch:=first|exact dI|fail) only [natsP_len, hx', b1, b2, push_cast, seval]
  exact ⟨i + 1, hd_z (by simp (maxSteps:=9^7) (disch:=first|exact dI|fail) only [hstI, push_cast, seval]), by omega, by omega⟩
 ·obtain rfl : i = v.length := by omega
  rw [preW_all] at hpi ⊢
  by_cases c1 : (line.length : Int) < (v.sum : Nat)
  ·rw [if_pos c1, if_neg (by omega)]
   simp (maxSteps:=9^7) (disch:=first|exact dI|fail) only [natsP_len, c1, Int.lt_irrefl, push_cast, seval]
  by_cases c2 : ((v.sum : Nat) : Int) < line.length
  ·rw [if_neg c1, if_pos c2, if_neg (by omega)]
   simp (maxSteps:=9^7) (disch:=first|exact dI|fail) only [natsP_len, c1, c2, Int.lt_irrefl, push_cast, seval]
  have hls : line.length = v.sum := by omega
  rw [if_neg c1, if_neg c2, if_pos hls]
  simp (maxSteps:=9^7) (disch:=first|exact dI|fail) only [natsP_len, c1, c2, Int.lt_irrefl, push_cast, seval]
  refine vc_over ([(8, 0, 9, 1)]) (fun i : Nat => [(8, .olist 0 1 (outC line v i)), (9, .pv (.int .i64 (preW v i : Int))), (10, .pv (.int .i64 (i : Int)))]) (fun _ => []) (fun i => i ≤ v.length) (fun i => v.length - i) (0) ?_; intro e0 σ0 n0 h0; simp (maxSteps:=9^7) (disch:=first|exact dI|fail) only [push_cast, seval] at h0; obtain ⟨rfl, rfl, rfl⟩ := h0; refine ⟨?_, ?_, ?_⟩
  ·simp (maxSteps:=9^7) (disch:=first|exact dI|fail) only [preW_zero, outC_nil, push_cast, seval]
  ·omega
  rintro i hi
  have hpi := hps i
  by_cases hlt : i < v.length
  ·have hltI : (i : Int) < (v.length : Int) := by omega
   obtain ⟨n, hn⟩ : ∃ n, v[i]? = some n := ⟨_, List.getElem?_eq_getElem hlt⟩
   have hx' := natsP_at hn
   have hst := preW_step hn
   have hle := preW_le v (i + 1)
   have hstI : ((preW v (i + 1) : Nat) : Int) = (preW v i : Int) + (n : Int) := by omega
   have hsn := outC_snoc line v i
   have hol := outC_len line v i
   have et : ((preW v i : Int) + (n : Int)).toNat = preW v (i + 1) := by omega
   have hcx : (line.take (preW v (i + 1))).drop (preW v i) = cellX line v i := rfl
   simp (maxSteps:=9^7) (disch:=first|exact dI|fail) only [natsP_len, hx', et, hcx, hol, push_cast, seval]
   exact ⟨i + 1, hd_z (by simp (maxSteps:=9^7) (disch:=first|exact dI|fail) only [hstI, hsn, push_cast, seval]), by omega, by omega⟩
  ·obtain rfl : i = v.length := by omega
   simp (maxSteps:=9^7) (disch:=first|exact dI|fail) only [natsP_len, Int.lt_irrefl, push_cast, seval]
end Go.Proofs.YtedanlflegfomaaGreatDoor
set_option maxRecDepth 100000
set_option linter.unusedVariables false
set_option linter.unusedSimpArgs false
-- many steps
namespace Go.Proofs.YtedanlflegfomaaGreatDoor
open Go Go.Ab
attribute [local irreducible] vc
theorem short12 (s : List UInt8) : Pure Tryz.prog tabG 12 [.str s] (.str (s.take 10000)) := by
 refine Pure.intro F12_ok (by simp [F12]) ?_
 by_cases h : s.length ≤ 10000
 ·have hm : min (s.length : Int) 10000 = (s.length : Int) := by omega
  rw [List.take_of_length_le h]
  simp (maxSteps:=9^7) (disch:=first|exact dI|fail) only [F12, hm, List.take_length, push_cast, seval]
 ·have hm : min (s.length : Int) 10000 = 10000 := by omega
  have hl : (10000 : Int) ≤ (s.length : Int) := by omega
  simp (maxSteps:=9^7) (disch:=first|exact dI|fail) only [F12, hm, push_cast, seval]
theorem intsW_take (w : List Int) (n : Nat) : (intsW w).take n = intsW (w.take n) := by simp [intsW]
theorem cut13 (w : List Int) : Pure Tryz.prog tabG 13 [.list (intsW w)] (.list (intsW (w.take 70))) := by
 refine Pure.intro F13_ok (by simp [F13]) ?_
 rw [← intsW_take]
 by_cases h : w.length ≤ 70
 ·have hm : min (w.length : Int) 70 = (w.length : Int) := by omega
  have e : (intsW w).take 70 = (intsW w).take w.length := by rw [List.take_of_length_le (by rw [intsW_len]; omega), List.take_of_length_le (by rw [intsW_len]; omega)]
  rw [e]
  simp (maxSteps:=9^7) (disch:=first|exact dI|fail) only [F13, hm, intsW_len, push_cast, seval]
 ·have hm : min (w.length : Int) 70 = 70 := by omega
  have hl : (70 : Int) ≤ (w.length : Int) := by omega
  simp (maxSteps:=9^7) (disch:=first|exact dI|fail) only [F13, hm, intsW_len, push_cast, seval]
def joinC (line : List UInt8) (v : List Nat) : Nat → List UInt8
 | 0 => []
 | n + 1 => joinC line v n ++ cellX line v n
theorem joinC_eq (line : List UInt8) (v : List Nat) : ∀ n, joinC line v n = line.take (preW v n)
 | 0 => by simp [joinC, preW]
 | n + 1 => by
   rw [joinC, joinC_eq line v n, cellX]
   have h : preW v n ≤ preW v (n + 1) := by
    by_cases hlt : n < v.length
    ·obtain ⟨x, hx⟩ : ∃ x, v[n]? = some x := ⟨_, List.getElem?_eq_getElem hlt⟩
     rw [preW_step hx]; omega
    ·unfold preW; rw [List.take_of_length_le (by omega), List.take_of_length_le (by omega)]; exact Nat.le_refl _
   have e : line.take (preW v n) = (line.take (preW v (n + 1))).take (preW v n) := by rw [List.take_take, Nat.min_eq_left h]
   rw [e, List.take_append_drop]
theorem cells_e (line : List UInt8) (w : List Int) (hl : line.length ≤ 10000) (hw : w.length ≤ 70) (h8 : Pure Tryz.prog tabG 8 [] (.bool true)) (he : ¬ errC line w = 0)
  (h14 : Pure Tryz.prog tabG 14 [.str line, .list (intsW w)] (.tup [.nils, .int .i64 (errC line w)])) : Pure Tryz.prog tabG 15 [.str line, .list (intsW w)] (.tup [.nils, .int .i64 (errC line w)]) := by
 unfold errC at he ⊢
 by_cases hb : badW w = true
 ·rw [if_pos hb]; exact ref15_bad line w (by omega) hb
 ·rw [if_neg hb] at he ⊢
  have hb' : w.any badI = false ∧ w.length ≤ 64 := by
   have : badW w = false := by simpa using hb
   rw [badW, Bool.or_eq_false_iff] at this
   exact ⟨this.2, by simpa using this.1⟩
  obtain ⟨v, rfl, hs, hv⟩ := nats_of hb'.1
  rw [hs] at he ⊢
  have hne : ¬ line.length = v.sum := by
   intro h
   rw [h] at he
   exact he (by unfold fitsE; rw [if_neg (Int.lt_irrefl _), if_neg (Int.lt_irrefl _)])
  have := ref15_ok line v (by omega) hv (by have := hb'.2; rw [List.length_map] at this; exact this)
  rw [if_neg hne] at this
  rw [intsW_nats]
  exact this
set_option maxHeartbeats 4000000 in
theorem cells_law (h8 : Pure Tryz.prog tabG 8 [] (.bool true)) (s0 : List UInt8) (w0 : List Int) : Pure Tryz.prog tabG 4 [.str s0, .list (intsW w0)] (.bool true) := by
 have h12 := short12 s0
 have h13 := cut13 w0
 have hl : (s0.take 10000).length ≤ 10000 := by rw [List.length_take]; omega
 have hw : (w0.take 70).length ≤ 70 := by rw [List.length_take]; omega
 generalize s0.take 10000 = line at *
 generalize w0.take 70 = w at *
 by_cases he : errC line w = 0
 ·have hb : ¬ badW w = true := fun hb => by rw [errC, if_pos hb] at he; exact absurd he (by decide)
  have hb' : w.any badI = false ∧ w.length ≤ 64 := by
   have : badW w = false := by simpa using hb
   rw [badW, Bool.or_eq_false_iff] at this
   exact ⟨this.2, by simpa using this.1⟩
  obtain ⟨v, rfl, hs, hv⟩ := nats_of hb'.1
  have hvl : v.length ≤ 64 := by have := hb'.2; rw [List.length_map] at this; exact this
  have hsum : v.sum = line.length := by
   rw [errC, if_neg hb, hs, fitsE] at he
   by_cases c1 : (line.length : Int) < (v.sum : Nat)
   ·rw [if_pos c1] at he; exact absurd he (by decide)
   ·rw [if_neg c1] at he
    by_cases c2 : ((v.sum : Nat) : Int) < line.length
    ·rw [if_pos c2] at he; exact absurd he (by decide)
    ·omega
  have h14 := Cells14_ok line v (by omega) he hvl hsum
  have h15 := ref15_ok line v (by omega) hv hvl
  rw [if_pos hsum.symm, show fitsE line.length ((v.sum : Nat) : Int) = 0 by unfold fitsE; rw [hsum, if_neg (Int.lt_irrefl _), if_neg (Int.lt_irrefl _)]] at h15
  rw [intsW_nats] at h13
  have hol := outC_len line v v.length
  have hoa : ∀ i, i < v.length → (outC line v v.length)[i]? = some (.str (cellX line v i)) := fun i hi => by simp [outC, hi]
  have hj0 : joinC line v 0 = [] := rfl
  have hjl : joinC line v v.length = line := by rw [joinC_eq, preW_all, hsum, List.take_length]
  have hjn : ∀ i, (joinC line v i).length ≤ 10000 := fun i => by rw [joinC_eq, List.length_take]; omega
  generalize outC line v v.length = L at *
  refine Pure.intro F4_ok (by simp [F4]) ?_
  simp (maxSteps:=9^7) (disch:=first|exact dI|fail) only [F4, push_cast, seval]
  refine ACall.pure h12 rfl ?_
  simp (maxSteps:=9^7) (disch:=first|exact dI|fail) only [push_cast, seval]
  refine ACall.pure h13 rfl ?_
  simp (maxSteps:=9^7) (disch:=first|exact dI|fail) only [push_cast, seval]
  refine ACall.pure h14 rfl ?_
  simp (maxSteps:=9^7) (disch:=first|exact dI|fail) only [push_cast, seval]
  refine ACall.pure h15 rfl ?_
  simp (maxSteps:=9^7) (disch:=first|exact dI|fail) only [push_cast, seval]
  refine ACall.pure h8 rfl ?_
  simp (maxSteps:=9^7) (disch:=first|exact dI|fail) only [push_cast, seval]
  refine vc_over ([]) (fun i : Nat => [(9, .pv (.str (joinC line v i))), (10, .pv (.int .i64 (i : Int)))]) (fun _ => []) (fun i => i ≤ v.length) (fun i => v.length - i) (0) ?_; intro e0 σ0 n0 h0; simp (maxSteps:=9^7) (disch:=first|exact dI|fail) only [push_cast, seval] at h0; obtain ⟨rfl, rfl, rfl⟩ := h0; refine ⟨?_, ?_, ?_⟩
  ·simp (maxSteps:=9^7) (disch:=first|exact dI|fail) only [hj0, push_cast, seval]
  ·omega
  rintro i hi
  by_cases hlt : i < v.length
  ·have hltI : (i : Int) < (v.length : Int) := by omega
   have hx := hoa i hlt
   have hjs : joinC line v i ++ cellX line v i = joinC line v (i + 1) := rfl
   have h1 := hjn i
   have h2 := hjn (i + 1)
   rw [← hjs, List.length_append] at h2
   simp (maxSteps:=9^7) (disch:=first|exact dI|fail) only [hol, hx, hjs, push_cast, seval]
   exact ⟨i + 1, hd_z (by simp (maxSteps:=9^7) (disch:=first|exact dI|fail) only [push_cast, seval]), by omega, by omega⟩
  ·obtain rfl : i = v.length := by omega
   simp (maxSteps:=9^7) (disch:=first|exact dI|fail) only [hol, hjl, Int.lt_irrefl, push_cast, seval]
 ·have h14 := Cells14_e line w (by omega) he
  have h15 := cells_e line w hl hw h8 he h14
  generalize errC line w = z at *
  refine Pure.intro F4_ok (by simp [F4]) ?_
  simp (maxSteps:=9^7) (disch:=first|exact dI|fail) only [F4, push_cast, seval]
  refine ACall.pure h12 rfl ?_
  simp (maxSteps:=9^7) (disch:=first|exact dI|fail) only [push_cast, seval]
  refine ACall.pure h13 rfl ?_
  simp (maxSteps:=9^7) (disch:=first|exact dI|fail) only [push_cast, seval]
  refine ACall.pure h14 rfl ?_
  simp (maxSteps:=9^7) (disch:=first|exact dI|fail) only [push_cast, seval]
  refine ACall.pure h15 rfl ?_
  simp (maxSteps:=9^7) (disch:=first|exact dI|fail) only [push_cast, seval]
  refine ACall.pure h8 rfl ?_
  simp (maxSteps:=9^7) (disch:=first|exact dI|fail) only [push_cast, seval]
  refine vc_over ([]) (fun i : Nat => [(10, .pv (.int .i64 (i : Int)))]) (fun _ => []) (fun i => i = 0) (fun i => 1 - i) (0) ?_; intro e0 σ0 n0 h0; simp (maxSteps:=9^7) (disch:=first|exact dI|fail) only [push_cast, seval] at h0; obtain ⟨rfl, rfl, rfl⟩ := h0; refine ⟨?_, ?_, ?_⟩
  ·simp (maxSteps:=9^7) (disch:=first|exact dI|fail) only [push_cast, seval]
  ·rfl
  rintro i rfl
  simp (maxSteps:=9^7) (disch:=first|exact dI|fail) only [he, Int.lt_irrefl, push_cast, seval]
end Go.Proofs.YtedanlflegfomaaGreatDoor
