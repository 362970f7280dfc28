/- A part of the proof for FitLimitCardSaid. -/
import Derived.Test.YtikmckfppnmlnaaDoorMisFLim
import Derived.Test.YtikmckfppnmlnaaDoorMisYR
set_option maxRecDepth 100000
set_option linter.unusedVariables false
set_option linter.unusedSimpArgs false
namespace Go.Proofs.YtikmckfppnmlnaaDoor
open Go Go.Ab
open Nat (reduceEqDiff reduceAdd reduceMul reduceLeDiff reduceLT reduceSub)
attribute [local irreducible] vc

def limV : Val := .mk 1 0 0 [] [] []
def limE : Typ := .mk 2 0 0 0 [] [] []
def limT : Typ := .mk 8 0 300 0 [] [limE] []
def limL (n : Nat) : List Val := List.replicate n limV
def limO (n : Nat) : Val := .mk 8 0 0 [] (limL n) []
theorem limL_snoc (n : Nat) : limL (n + 1) = limL n ++ [limV] := by rw [limL, limL, List.replicate_succ']
theorem limL_len (n : Nat) : (limL n).length = n := List.length_replicate
theorem limO_dep (n : Nat) (h : n ≤ 255) : dep 2 (limO n) := by
  have : dep 1 limV := by simp [dep, limV, Val.lst, Val.fields, Val.text]
  refine ⟨by simp [limO, Val.lst, limL_len]; omega, by simp [limO, Val.fields], by simp [limO, Val.text], ?_, by simp [limO, Val.fields]⟩
  intro x hx
  simp only [limO, Val.lst] at hx
  rw [List.eq_of_mem_replicate hx]; exact this
theorem limT_ty : tyOk 2 limT := by
  simp [tyOk, limT, limE, Typ.fields, Typ.words, Typ.elem]
theorem limO_ok (n : Nat) (h : n ≤ 255) : (limO n).ok := by
  have hv : limV.ok := by rw [limV, Val.ok_mk]; simp [I64]
  rw [limO, Val.ok_mk]
  refine ⟨by simp [I64], by simp [I64], by simp [I64], by simp, by rw [limL_len]; omega, ?_, by simp, by simp⟩
  intro x hx
  rw [List.eq_of_mem_replicate hx]; exact hv
/-- The misfits: the places. -/
def limM (n : Nat) : List Mis := (List.range n).map fun i => .mk (atT [] i) 1
theorem ixM_lim : ∀ n, ixM (elemM (missN 1) [limE] []) (limL n) = limM n
  | 0 => rfl
  | n + 1 => by
    have h : (limL (n + 1))[n]? = some limV := by simp [limL]
    have h1 := ixM_snoc (elemM (missN 1) [limE] []) h
    have e1 : (limL (n + 1)).take (n + 1) = limL (n + 1) := List.take_of_length_le (by rw [limL_len]; omega)
    have e2 : (limL (n + 1)).take n = limL n := by simp [limL]
    rw [e1, e2, ixM_lim n] at h1
    rw [h1, limM, limM, List.range_succ, List.map_append]
    rfl
theorem limM_eq (n : Nat) (h : n ≤ 255) : missN 2 limT (limO n) [] = limM n := by
  have hf : formedV (limO n) = true := by simp [formedV, limO]
  rw [missN_succ, miss1_list (by simp [limT, limO, Typ.kind, Val.kind]) hf rfl]
  have h2 : outM limT.min limT.max [] ((limO n).lst.length : Int) = [] := by
    rw [outM_f]
    simp only [limT, limO, Typ.min, Typ.max, Val.lst, limL_len]; omega
  rw [h2, List.nil_append]
  exact ixM_lim n
theorem limM_len (n : Nat) : (limM n).length = n := by simp [limM]
theorem limM_at {n i : Nat} (h : i < n) : (limM n)[i]? = some (.mk (atT [] i) 1) := by simp [limM, h]
theorem NzL_app : ∀ {a b c d : List PV}, NzL a b → NzL c d → NzL (a ++ c) (b ++ d)
  | [], _, c, d, h, h2 => by cases h; exact h2
  | x :: r, _, c, d, h, h2 => by cases h with | cons _ y _ q h3 h4 => exact .cons _ _ _ _ h3 (NzL_app h4 h2)
def limQ (n : Nat) : List PV := [.agg [.int .i64 8, .int .i64 0, .int .i64 300, .int .i64 0, .nils, .list [.agg [.int .i64 2, .int .i64 0, .int .i64 0, .int .i64 0, .nils, .nils, .nils]], .nils], .agg [.int .i64 8, .int .i64 0, .int .i64 0, .str [], .list ((limL n).map Val.pv), .nils]]
theorem limQ_nz (n : Nat) : NzL (limQ n) [limT.pv, (limO n).pv] := by
  simp only [limQ, limT, limO, limE, Typ.pv_mk, Val.pv_mk, List.map_nil, List.map_cons]
  repeat' constructor
theorem limV_nz (S : List PV) : NzL (S ++ [.agg [.int .i64 1, .int .i64 0, .int .i64 0, .str [], .nils, .nils]]) (S ++ [.agg [.int .i64 1, .int .i64 0, .int .i64 0, .str [], .list [], .list []]]) :=
  NzL_app (NzL.refl _) (by repeat' constructor)
theorem limit_law (n : Nat) (hn : n ≤ 255) : Pure Tryd.prog tabG 6 [.int .u8 n] (.bool true) := by
  have hd := limO_dep n hn
  have ho := limO_ok n hn
  have h23 := (misfits23 2 limT (limO n) hd limT_ty ho (by omega)).nz (limQ_nz n)
  have h26 := (fits26 2 limT (limO n) hd limT_ty ho (by omega)).nz (limQ_nz n)
  have h24 := (allR 2 (by omega) limT (limO n) [] hd limT_ty ho (by simp)).nz (NzL_app (limQ_nz n) (NzL.refl [.str []]))
  rw [limM_eq n hn] at h23 h26 h24
  simp only [limQ, List.cons_append, List.nil_append] at h23 h26 h24
  have hml := limM_len n
  refine Pure.intro F6_ok (by simp [F6]) ?_
  simp (maxSteps := 1000000) (disch := first | exact dI | fail) only [F6o0, F6o1, F6o2, F6o3, F6o4, F6o5, F6b6, F6o7, F6o8, F6o9, F6o10, F6o11, F6o12, F6o13, F6o14, F6p14, F6o15, F6o16, F6b17, F6o18, F6c, F6, push_cast, ↓reduceIte, reduceEqDiff, reduceAdd, reduceMul, reduceLeDiff, reduceLT, Nat.reduceBEq, reduceSub, Int.reduceToNat, Int.reduceNeg]
  refine vc_over ([(3, 5, 62, 6)]) (fun i : Nat => [(4, .pv (.int .i64 (i : Int)))]) (fun i => [(0, .cells 62 true [.pv (.int .i64 8), .pv (.int .i64 0), .pv (.int .i64 0), .pv (.str []), .olist 1 6 ((limL i).map Val.pv), .pv .nils])]) (fun i => i ≤ n) (fun i => n - i) (0) ?_; intro e0 σ0 n0 h0; simp (maxSteps := 1000000) (disch := first | exact dI | fail) only [push_cast, ↓reduceIte, reduceEqDiff, reduceAdd, reduceMul, reduceLeDiff, reduceLT, Nat.reduceBEq, reduceSub, Int.reduceToNat, Int.reduceNeg] at h0; obtain ⟨rfl, rfl, rfl⟩ := h0; refine ⟨?_, ?_, ?_⟩
  · simp (maxSteps := 1000000) (disch := first | exact dI | fail) only [limL, List.replicate, List.map_nil, push_cast, ↓reduceIte, reduceEqDiff, reduceAdd, reduceMul, reduceLeDiff, reduceLT, Nat.reduceBEq, reduceSub, Int.reduceToNat, Int.reduceNeg]
  · omega
  · intro i hi
    by_cases hlt : i < n
    · have hltI : (i : Int) < n := by omega
      have hsn := limL_snoc i
      have hll := limL_len i
      generalize limL i = S at *
      simp (maxSteps := 1000000) (disch := first | exact dI | fail) only [push_cast, ↓reduceIte, reduceEqDiff, reduceAdd, reduceMul, reduceLeDiff, reduceLT, Nat.reduceBEq, reduceSub, Int.reduceToNat, Int.reduceNeg]
      exact ⟨i + 1, hd_z (by simp (maxSteps := 1000000) (disch := first | exact dI | fail) only [hsn, List.map_append, limV, Val.pv_mk, List.map_cons, List.map_nil, push_cast, ↓reduceIte, reduceEqDiff, reduceAdd, reduceMul, reduceLeDiff, reduceLT, Nat.reduceBEq, reduceSub, Int.reduceToNat, Int.reduceNeg]; exact AVz.olist _ _ _ _ (limV_nz _)), by omega, by omega⟩
    · have hltI : ¬ (i : Int) < n := by omega
      obtain rfl : i = n := by omega
      simp (maxSteps := 1000000) (disch := first | exact dI | fail) only [push_cast, ↓reduceIte, reduceEqDiff, reduceAdd, reduceMul, reduceLeDiff, reduceLT, Nat.reduceBEq, reduceSub, Int.reduceToNat, Int.reduceNeg]
      refine ACall.pure h23 rfl ?_
      simp (maxSteps := 1000000) (disch := first | exact dI | fail) only [push_cast, ↓reduceIte, reduceEqDiff, reduceAdd, reduceMul, reduceLeDiff, reduceLT, Nat.reduceBEq, reduceSub, Int.reduceToNat, Int.reduceNeg]
      refine ACall.pure known_ok rfl ?_
      have hlt64 : ((List.take 64 (limM i)).length : Int) = min (i : Int) 64 := by rw [List.length_take, limM_len]; omega
      simp (maxSteps := 1000000) (disch := first | exact dI | fail) only [hlt64, push_cast, ↓reduceIte, reduceEqDiff, reduceAdd, reduceMul, reduceLeDiff, reduceLT, Nat.reduceBEq, reduceSub, Int.reduceToNat, Int.reduceNeg]
      refine ACall.pure h26 rfl ?_
      have hE : (limM i).isEmpty = decide ((i : Int) = 0) := by
        cases i with
        | zero => rfl
        | succ i =>
          have h1 : (limM (i + 1)).isEmpty = false := by
            cases h : limM (i + 1) with
            | nil => rw [h] at hml; cases hml
            | cons a b => rfl
          rw [h1]; symm; apply decide_eq_false; omega
      simp (maxSteps := 1000000) (disch := first | exact dI | fail) only [hE, dbeq, push_cast, ↓reduceIte, reduceEqDiff, reduceAdd, reduceMul, reduceLeDiff, reduceLT, Nat.reduceBEq, reduceSub, Int.reduceToNat, Int.reduceNeg]
      refine ACall.pure h24 rfl ?_
      simp (maxSteps := 1000000) (disch := first | exact dI | fail) only [push_cast, ↓reduceIte, reduceEqDiff, reduceAdd, reduceMul, reduceLeDiff, reduceLT, Nat.reduceBEq, reduceSub, Int.reduceToNat, Int.reduceNeg]
      refine vc_over ([]) (fun j : Nat => [(8, .pv (.int .i64 (j : Int)))]) (fun j => []) (fun j => True) (fun j => i - j) (0) ?_; intro e0 σ0 n0 h0; simp (maxSteps := 1000000) (disch := first | exact dI | fail) only [push_cast, ↓reduceIte, reduceEqDiff, reduceAdd, reduceMul, reduceLeDiff, reduceLT, Nat.reduceBEq, reduceSub, Int.reduceToNat, Int.reduceNeg] at h0; obtain ⟨rfl, rfl, rfl⟩ := h0; refine ⟨?_, ?_, ?_⟩
      · simp (maxSteps := 1000000) (disch := first | exact dI | fail) only [push_cast, ↓reduceIte, reduceEqDiff, reduceAdd, reduceMul, reduceLeDiff, reduceLT, Nat.reduceBEq, reduceSub, Int.reduceToNat, Int.reduceNeg]
      · trivial
      · intro j _
        by_cases hlt2 : (j : Int) < min (i : Int) 64
        · have hj : j < i := by omega
          have hj2 : j < 64 := by omega
          have hx2 := limM_at hj
          have hx : ((limM i).take 64)[j]? = some (.mk (atT [] j) 1) := by rw [List.getElem?_take, if_pos hj2]; exact hx2
          simp (maxSteps := 1000000) (disch := first | exact dI | fail) only [hx, hx2, Mis.pv_mk, hlt64, push_cast, ↓reduceIte, reduceEqDiff, reduceAdd, reduceMul, reduceLeDiff, reduceLT, Nat.reduceBEq, reduceSub, Int.reduceToNat, Int.reduceNeg]
          exact ⟨j + 1, hd_z (by simp (maxSteps := 1000000) (disch := first | exact dI | fail) only [push_cast, ↓reduceIte, reduceEqDiff, reduceAdd, reduceMul, reduceLeDiff, reduceLT, Nat.reduceBEq, reduceSub, Int.reduceToNat, Int.reduceNeg]), by omega⟩
        · simp (maxSteps := 1000000) (disch := first | exact dI | fail) only [hlt64, push_cast, ↓reduceIte, reduceEqDiff, reduceAdd, reduceMul, reduceLeDiff, reduceLT, Nat.reduceBEq, reduceSub, Int.reduceToNat, Int.reduceNeg]
theorem limit_of (p0 : PV) (h0 : HasT Tryd.prog 5 p0) : Pure Tryd.prog tabG 6 [p0] (.bool true) := by
  obtain ⟨a, rfl, ha⟩ := hasT_int h0 (k := .u8) (by kernel_rfl)
  simp only [Lit.wf, Bool.and_eq_true, decide_eq_true_eq] at ha
  have h1 : 0 ≤ a := ha.1
  have h2 : a ≤ 255 := ha.2
  obtain ⟨n, rfl⟩ : ∃ n : Nat, a = n := ⟨a.toNat, by omega⟩
  exact limit_law n (by omega)
end Go.Proofs.YtikmckfppnmlnaaDoor
