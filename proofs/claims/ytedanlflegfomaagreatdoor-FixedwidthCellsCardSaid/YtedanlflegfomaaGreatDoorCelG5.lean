/- A part of the proof for FixedwidthCellsCardSaid. -/
import Derived.Test.YtedanlflegfomaaGreatDoorCelG4
import Derived.Test.YtedanlflegfomaaGreatDoorCelF
import Derived.Test.YtedanlflegfomaaGreatDoorCore5
set_option maxRecDepth 100000
set_option linter.unusedVariables false
set_option linter.unusedSimpArgs false
-- many steps
namespace Go.Proofs.YtedanlflegfomaaGreatDoor
open Go Go.Ab
attribute [local irreducible] vc
def intsW (w : List Int) : List PV := w.map (PV.int .i64)
theorem intsW_len (l : List Int) : (intsW l).length = l.length := by simp [intsW]
theorem intsW_at {l : List Int} {i : Nat} {x : Int} (h : l[i]? = some x) : (intsW l)[i]? = some (.int .i64 x) := by simp [intsW, h]
def badI (x : Int) : Bool := decide (x < 1) || decide (4096 < x)
theorem bad79 (x : Int) : Pure Tryz.prog tabG 79 [.int .i64 x] (.bool (badI x)) := by
 unfold badI
 refine Pure.intro F79_ok (by simp [F79]) ?_
 by_cases h1 : x < 1
 ·rw [decide_eq_true h1, Bool.true_or]
  simp (maxSteps:=9^7) (disch:=first|exact dI|fail) only [F79, h1, push_cast, seval]
 ·rw [decide_eq_false h1, Bool.false_or]
  simp (maxSteps:=9^7) (disch:=first|exact dI|fail) only [F79, h1, push_cast, seval]
theorem index120 (l : List Int) (g : Nat) (q : Int → Bool) (hq : ∀ x ∈ l, Pure Tryz.prog tabG g [.int .i64 x] (.bool (q x))) (hl : l.length ≤ 1000000000) :
  Pure Tryz.prog tabG 120 [.list (intsW l), .clo g [] []] (.int .i64 (fstI q l 0)) := by
 refine Pure.intro F120_ok (by simp [F120]) ?_
 simp (maxSteps:=9^7) (disch:=first|exact dI|fail) only [F120, intsW_len, push_cast, seval]
 refine vc_over ([]) (fun m : Nat => [(8, .pv (.int .i64 (m : Int)))]) (fun m => []) (fun m => m ≤ l.length ∧ fstI q l 0 = fstI q (l.drop m) m) (fun m => l.length - m) (0) ?_; intro e0 σ0 n0 h0; simp (maxSteps:=9^7) (disch:=first|exact dI|fail) only [push_cast, seval] at h0; obtain ⟨rfl, rfl, rfl⟩ := h0; refine ⟨?_, ?_, ?_⟩
 ·simp (maxSteps:=9^7) (disch:=first|exact dI|fail) only [push_cast, seval]
 ·exact ⟨by omega, by simp⟩
 ·rintro m ⟨hm, he⟩
  by_cases hlt : m < l.length
  ·have hltI : (m : Int) < l.length := by omega
   obtain ⟨x, hx⟩ : ∃ x, l[m]? = some x := ⟨_, List.getElem?_eq_getElem hlt⟩
   have hcall := hq x (List.mem_of_getElem? hx)
   have hx' := intsW_at hx
   simp (maxSteps:=9^7) (disch:=first|exact dI|fail) only [hx', push_cast, seval]
   refine ACall.pure hcall rfl ?_
   cases hqx : q x with
   | true =>
     rw [he, fst_hit hx hqx]
     simp (maxSteps:=9^7) (disch:=first|exact dI|fail) only [push_cast, seval]
   | false =>
     rw [fst_miss hx hqx] at he
     simp (maxSteps:=9^7) (disch:=first|exact dI|fail) only [push_cast, seval]
     exact ⟨m + 1, hd_z (by simp (maxSteps:=9^7) (disch:=first|exact dI|fail) only [push_cast, seval]), ⟨by omega, he⟩, by omega⟩
  ·have hltI : ¬ (m : Int) < l.length := by omega
   rw [he, fst_end hlt]
   simp (maxSteps:=9^7) (disch:=first|exact dI|fail) only [push_cast, seval]
theorem contains78 (l : List Int) (g : Nat) (q : Int → Bool) (hq : ∀ x ∈ l, Pure Tryz.prog tabG g [.int .i64 x] (.bool (q x))) (hl : l.length ≤ 1000000000) :
  Pure Tryz.prog tabG 78 [.list (intsW l), .clo g [] []] (.bool (l.any q)) := by
 have h94 := index120 l g q hq hl
 have hfa := find_any (p := q) l
 refine Pure.intro F78_ok (by simp [F78]) ?_
 rcases fst_find (p := q) l 0 with ⟨h1, h2⟩ | ⟨k, x, h1, h2, h3⟩
 ·rw [h2] at h94
  rw [h1] at hfa
  rw [← hfa]
  simp (maxSteps:=9^7) (disch:=first|exact dI|fail) only [F78, push_cast, seval]
  refine ACall.pure h94 rfl ?_
  simp (maxSteps:=9^7) (disch:=first|exact dI|fail) only [push_cast, seval]
  rfl
 ·rw [h3] at h94
  rw [h2] at hfa
  rw [← hfa]
  have hk : (0 : Int) ≤ ((0 + k : Nat) : Int) := by omega
  generalize ((0 + k : Nat) : Int) = z at *
  simp (maxSteps:=9^7) (disch:=first|exact dI|fail) only [F78, push_cast, seval]
  refine ACall.pure h94 rfl ?_
  simp (maxSteps:=9^7) (disch:=first|exact dI|fail) only [push_cast, seval]
  rfl
def badW (w : List Int) : Bool := decide (64 < w.length) || w.any badI
def sumI (w : List Int) : Int := w.sum
theorem sumI_nil : sumI [] = 0 := rfl
theorem sumI_step {w : List Int} {i : Nat} {x : Int} (h : w[i]? = some x) : sumI (w.take (i + 1)) = sumI (w.take i) + x := by
 unfold sumI; rw [take_snoc h, List.sum_append]; simp
theorem any_false {w : List Int} (h : w.any badI = false) {x : Int} (hx : x ∈ w) : 1 ≤ x ∧ x ≤ 4096 := by
 have := List.any_eq_false.1 h x hx
 simp only [badI, Bool.or_eq_true, decide_eq_true_eq, not_or] at this
 omega
theorem sumI_le : ∀ (w : List Int), (∀ x ∈ w, 1 ≤ x ∧ x ≤ 4096) → 0 ≤ sumI w ∧ sumI w ≤ 4096 * w.length
 | [], _ => by simp [sumI]
 | x :: r, h => by
   have h1 := h x (List.mem_cons_self ..)
   have h2 := sumI_le r fun y hy => h y (List.mem_cons_of_mem _ hy)
   simp only [sumI, List.sum_cons, List.length_cons] at *
   omega
theorem total35 (w : List Int) (hl : w.length ≤ 1000000) : Pure Tryz.prog tabG 35 [.list (intsW w)] (.tup [.int .i64 (if badW w = true then 0 else sumI w), .int .i64 (if badW w = true then 2 else 0)]) := by
 have h78 := contains78 w 79 badI (fun x _ => bad79 x) (by omega)
 unfold badW
 by_cases h64 : 64 < w.length
 ·have h64I : (64 : Int) < (w.length : Int) := by omega
  rw [if_pos (by simp [h64]), if_pos (by simp [h64])]
  refine Pure.intro F35_ok (by simp [F35]) ?_
  simp (maxSteps:=9^7) (disch:=first|exact dI|fail) only [F35, intsW_len, h64I, push_cast, seval]
 have h64I : ¬ (64 : Int) < (w.length : Int) := by omega
 rw [decide_eq_false h64, Bool.false_or]
 cases hb : w.any badI with
 | true =>
   rw [hb] at h78
   rw [if_pos rfl, if_pos rfl]
   refine Pure.intro F35_ok (by simp [F35]) ?_
   simp (maxSteps:=9^7) (disch:=first|exact dI|fail) only [F35, intsW_len, h64I, push_cast, seval]
   refine ACall.pure h78 rfl ?_
   simp (maxSteps:=9^7) (disch:=first|exact dI|fail) only [push_cast, seval]
 | false =>
   rw [hb] at h78
   rw [if_neg (by decide), if_neg (by decide)]
   have hr := fun x hx => any_false hb (x := x) hx
   refine Pure.intro F35_ok (by simp [F35]) ?_
   simp (maxSteps:=9^7) (disch:=first|exact dI|fail) only [F35, intsW_len, h64I, push_cast, seval]
   refine ACall.pure h78 rfl ?_
   simp (maxSteps:=9^7) (disch:=first|exact dI|fail) only [intsW_len, push_cast, seval]
   refine vc_over ([]) (fun i : Nat => [(4, .pv (.int .i64 (sumI (w.take i)))), (16, .pv (.int .i64 (i : Int)))]) (fun _ => []) (fun i => i ≤ w.length) (fun i => w.length - i) (0) ?_; intro e0 σ0 n0 h0; simp (maxSteps:=9^7) (disch:=first|exact dI|fail) only [push_cast, seval] at h0; obtain ⟨rfl, rfl, rfl⟩ := h0; refine ⟨?_, ?_, ?_⟩
   ·simp (maxSteps:=9^7) (disch:=first|exact dI|fail) only [List.take_zero, sumI_nil, push_cast, seval]
   ·omega
   rintro i hi
   have hsm := sumI_le (w.take i) fun x hx => hr x (List.mem_of_mem_take hx)
   rw [List.length_take] at hsm
   by_cases hlt : i < w.length
   ·have hltI : (i : Int) < (w.length : Int) := by omega
    obtain ⟨x, hx⟩ : ∃ x, w[i]? = some x := ⟨_, List.getElem?_eq_getElem hlt⟩
    have hst := sumI_step hx
    have hxr := hr x (List.mem_of_getElem? hx)
    have hx' := intsW_at hx
    simp (maxSteps:=9^7) (disch:=first|exact dI|fail) only [hx', push_cast, seval]
    exact ⟨i + 1, hd_z (by simp (maxSteps:=9^7) (disch:=first|exact dI|fail) only [hst, push_cast, seval]), by omega, by omega⟩
   ·obtain rfl : i = w.length := by omega
    rw [List.take_length]
    simp (maxSteps:=9^7) (disch:=first|exact dI|fail) only [Int.lt_irrefl, push_cast, seval]
def fitsE (n : Nat) (s : Int) : Int := if (n : Int) < s then 4 else if s < (n : Int) then 5 else 0
theorem fits36 (line : List UInt8) (s : Int) : Pure Tryz.prog tabG 36 [.str line, .int .i64 s] (.int .i64 (fitsE line.length s)) := by
 unfold fitsE
 refine Pure.intro F36_ok (by simp [F36]) ?_
 by_cases h1 : (line.length : Int) < s
 ·rw [if_pos h1]
  simp (maxSteps:=9^7) (disch:=first|exact dI|fail) only [F36, h1, push_cast, seval]
 ·rw [if_neg h1]
  by_cases h2 : s < (line.length : Int)
  ·rw [if_pos h2]
   simp (maxSteps:=9^7) (disch:=first|exact dI|fail) only [F36, h1, h2, push_cast, seval]
  ·rw [if_neg h2]
   simp (maxSteps:=9^7) (disch:=first|exact dI|fail) only [F36, h1, h2, push_cast, seval]
theorem cells37 (line : List UInt8) (w : List PV) : Pure Tryz.prog tabG 37 [.str line, .list w] (.clo 80 [] [.eptr [.list w] 0 0, .eptr [.str line] 0 0]) := by
 refine Pure.intro F37_ok (by simp [F37]) ?_
 simp (maxSteps:=9^7) (disch:=first|exact dI|fail) only [F37, push_cast, seval]
def outC (line : List UInt8) (w : List Nat) (n : Nat) : List PV := (List.range n).map fun i => .str (cellX line w i)
theorem outC_nil (line : List UInt8) (w : List Nat) : outC line w 0 = [] := rfl
theorem outC_snoc (line : List UInt8) (w : List Nat) (n : Nat) : outC line w (n + 1) = outC line w n ++ [.str (cellX line w n)] := by simp [outC, List.range_succ]
theorem outC_len (line : List UInt8) (w : List Nat) (n : Nat) : (outC line w n).length = n := by simp [outC]
theorem nats_of {w : List Int} (h : w.any badI = false) : ∃ v : List Nat, w = v.map (fun n : Nat => (n : Int)) ∧ sumI w = (v.sum : Nat) ∧ ∀ x ∈ v, 1 ≤ x ∧ x ≤ 4096 := by
 refine ⟨w.map Int.toNat, ?_, ?_, fun x hx => ?_⟩
 ·rw [List.map_map]
  conv => lhs; rw [← List.map_id w]
  refine List.map_congr_left fun x hx => ?_
  have := any_false h hx
  simp only [Function.comp, id]; omega
 ·have : ∀ (l : List Int), (∀ x ∈ l, 1 ≤ x ∧ x ≤ 4096) → sumI l = ((l.map Int.toNat).sum : Nat) := by
   intro l hl
   induction l with
   | nil => rfl
   | cons x r ih =>
     have h1 := hl x (List.mem_cons_self ..)
     have h2 := ih fun y hy => hl y (List.mem_cons_of_mem _ hy)
     simp only [sumI, List.sum_cons, List.map_cons] at *
     omega
  exact this w fun x hx => any_false h hx
 ·obtain ⟨y, hy, rfl⟩ := List.mem_map.1 hx
  have := any_false h hy
  omega
theorem intsW_nats (v : List Nat) : intsW (v.map fun n : Nat => (n : Int)) = natsP v := by simp [intsW, natsP]
def errC (line : List UInt8) (w : List Int) : Int := if badW w = true then 2 else fitsE line.length (sumI w)
theorem Cells14_e (line : List UInt8) (w : List Int) (hl : w.length ≤ 1000000) (he : ¬ errC line w = 0) : Pure Tryz.prog tabG 14 [.str line, .list (intsW w)] (.tup [.nils, .int .i64 (errC line w)]) := by
 have h35 := total35 w hl
 have h36 := fits36 line (sumI w)
 unfold errC at he ⊢
 by_cases hb : badW w = true
 ·rw [if_pos hb, if_pos hb] at h35
  rw [if_pos hb]
  refine Pure.intro F14_ok (by simp [F14]) ?_
  simp (maxSteps:=9^7) (disch:=first|exact dI|fail) only [F14, push_cast, seval]
  refine ACall.pure h35 rfl ?_
  simp (maxSteps:=9^7) (disch:=first|exact dI|fail) only [push_cast, seval]
 ·rw [if_neg hb, if_neg hb] at h35
  rw [if_neg hb] at he ⊢
  generalize fitsE line.length (sumI w) = z at h36 he ⊢
  refine Pure.intro F14_ok (by simp [F14]) ?_
  simp (maxSteps:=9^7) (disch:=first|exact dI|fail) only [F14, push_cast, seval]
  refine ACall.pure h35 rfl ?_
  simp (maxSteps:=9^7) (disch:=first|exact dI|fail) only [push_cast, seval]
  refine ACall.pure h36 rfl ?_
  simp (maxSteps:=9^7) (disch:=first|exact dI|fail) only [he, push_cast, seval]
set_option maxHeartbeats 2000000 in
theorem Cells14_ok (line : List UInt8) (v : List Nat) (hn : line.length ≤ 1000000) (he : errC line (v.map fun n : Nat => (n : Int)) = 0) (hl : v.length ≤ 64) (hs : v.sum = line.length) : Pure Tryz.prog tabG 14 [.str line, .list (natsP v)] (.tup [.list (outC line v v.length), .int .i64 0]) := by
 have h35 := total35 (v.map fun n : Nat => (n : Int)) (by rw [List.length_map]; omega)
 have h36 := fits36 line (sumI (v.map fun n : Nat => (n : Int)))
 have h37 := cells37 line (natsP v)
 have hseq := cells_seq line v (by omega) hn (by omega)
 rw [intsW_nats] at h35
 have hb : ¬ badW (v.map fun n : Nat => (n : Int)) = true := fun hb => by rw [errC, if_pos hb] at he; exact absurd he (by decide)
 rw [errC, if_neg hb] at he
 rw [if_neg hb, if_neg hb] at h35
 rw [he] at h36
 generalize sumI (v.map fun n : Nat => (n : Int)) = S at h35 h36
 refine Pure.intro F14_ok (by simp [F14]) ?_
 simp (maxSteps:=9^7) (disch:=first|exact dI|fail) only [F14, push_cast, seval]
 refine ACall.pure h35 rfl ?_
 simp (maxSteps:=9^7) (disch:=first|exact dI|fail) only [push_cast, seval]
 refine ACall.pure h36 rfl ?_
 simp (maxSteps:=9^7) (disch:=first|exact dI|fail) only [push_cast, seval]
 refine ACall.pure h37 rfl ?_
 simp (maxSteps:=9^7) (disch:=first|exact dI|fail) only [push_cast, seval]
 refine vc_rng ([(8, 1, 9, 1)]) (fun i : Nat => []) (fun i : Nat => [(0, .cells 22 true [.olist 1 1 (outC line v i)])]) (fun j i => j = i ∧ i ≤ v.length) (0) (hseq) ?_; intro e0 σ0 n0 h0; simp (maxSteps:=9^7) (disch:=first|exact dI|fail) only [push_cast, seval] at h0; obtain ⟨rfl, rfl, rfl⟩ := h0; refine ⟨?_, ?_, ?_, ?_, ?_⟩
 ·simp (maxSteps:=9^7) (disch:=first|exact dI|fail) only [outC_nil, push_cast, seval]
 ·exact ⟨rfl, by omega⟩
 ·rfl
 ·rintro j i y hy ⟨hij, hi⟩
  subst hij
  have hjl : j < v.length := by
   have := (List.getElem?_eq_some_iff.1 hy).1
   simpa [cellsX] using this
  have hye : y = [.int .i64 (preW v j : Int), .str (cellX line v j)] := by
   have : (cellsX line v)[j]? = some [.int .i64 (preW v j : Int), .str (cellX line v j)] := by simp [cellsX, hjl]
   rw [this] at hy; exact (Option.some.inj hy).symm
  subst hye
  refine ⟨rfl, ?_⟩
  have hsn := outC_snoc line v j
  have hol := outC_len line v j
  clear hy h35 h36 h37 hseq
  simp (maxSteps:=9^7) (disch:=first|exact dI|fail) only [hol, push_cast, seval]
  exact ⟨j + 1, hd_z (by simp (maxSteps:=9^7) (disch:=first|exact dI|fail) only [hsn, push_cast, seval]), rfl, by omega⟩
 ·rintro j ⟨hj, hi⟩
  have hj' : v.length = j := by simpa [cellsX] using hj
  subst hj'
  simp (maxSteps:=9^7) (disch:=first|exact dI|fail) only [push_cast, seval]
end Go.Proofs.YtedanlflegfomaaGreatDoor
