/- A part of the proof for FitMisfitsCardSaid. -/
import Derived.Test.YtikmckfppnmlnaaDoorMisYK
set_option maxRecDepth 100000
set_option linter.unusedVariables false
set_option linter.unusedSimpArgs false
namespace Go.Proofs.YtikmckfppnmlnaaDoor
open Go Go.Ab
open Nat (reduceEqDiff reduceAdd reduceMul reduceLeDiff reduceLT reduceSub)
attribute [local irreducible] vc

section
variable {R : Typ → Val → List UInt8 → List Mis} {t : Typ} {v : Val} {p : List UInt8}
theorem miss1_kind (h : t.kind < 1 ∨ 10 < t.kind ∨ ¬ v.kind = t.kind) : miss1 R t v p = [.mk p 1] := if_pos h
theorem miss1_bad (h : ¬ (t.kind < 1 ∨ 10 < t.kind ∨ ¬ v.kind = t.kind)) (hf : formedV v = false) : miss1 R t v p = [.mk p 8] := by
  unfold miss1; rw [if_neg h, if_pos hf]
theorem miss1_num (h : ¬ (t.kind < 1 ∨ 10 < t.kind ∨ ¬ v.kind = t.kind)) (hf : formedV v = true) (hk : t.kind = 2 ∨ t.kind = 6 ∨ t.kind = 7) : miss1 R t v p = outM t.min t.max p v.num := by
  unfold miss1; rw [if_neg h, if_neg (by rw [hf]; simp), if_pos hk]
theorem miss1_dec (h : ¬ (t.kind < 1 ∨ 10 < t.kind ∨ ¬ v.kind = t.kind)) (hf : formedV v = true) (hk : t.kind = 3) (hs : v.scale = t.scale) : miss1 R t v p = outM t.min t.max p v.num := by
  unfold miss1; rw [if_neg h, if_neg (by rw [hf]; simp), if_neg (by omega), if_pos hk, if_pos hs]
theorem miss1_scale (h : ¬ (t.kind < 1 ∨ 10 < t.kind ∨ ¬ v.kind = t.kind)) (hf : formedV v = true) (hk : t.kind = 3) (hs : ¬ v.scale = t.scale) : miss1 R t v p = [.mk p 3] := by
  unfold miss1; rw [if_neg h, if_neg (by rw [hf]; simp), if_neg (by omega), if_pos hk, if_neg hs]
theorem miss1_word (h : ¬ (t.kind < 1 ∨ 10 < t.kind ∨ ¬ v.kind = t.kind)) (hf : formedV v = true) (hk : t.kind = 4) (hw : 0 < t.words.length) (ha : (t.words.any fun x => decide (x = v.text)) = true) : miss1 R t v p = [] := by
  unfold miss1; rw [if_neg h, if_neg (by rw [hf]; simp), if_neg (by omega), if_neg (by omega), if_pos (.inl hk), if_pos ⟨hk, hw⟩, if_pos ha]
theorem miss1_noword (h : ¬ (t.kind < 1 ∨ 10 < t.kind ∨ ¬ v.kind = t.kind)) (hf : formedV v = true) (hk : t.kind = 4) (hw : 0 < t.words.length) (ha : (t.words.any fun x => decide (x = v.text)) = false) : miss1 R t v p = [.mk p 4] := by
  unfold miss1; rw [if_neg h, if_neg (by rw [hf]; simp), if_neg (by omega), if_neg (by omega), if_pos (.inl hk), if_pos ⟨hk, hw⟩, if_neg (by rw [ha]; simp)]
theorem miss1_text (h : ¬ (t.kind < 1 ∨ 10 < t.kind ∨ ¬ v.kind = t.kind)) (hf : formedV v = true) (hk : t.kind = 4 ∨ t.kind = 5) (hw : t.kind = 4 → t.words.length = 0) : miss1 R t v p = outM t.min t.max p v.text.length := by
  unfold miss1; rw [if_neg h, if_neg (by rw [hf]; simp), if_neg (by omega), if_neg (by omega), if_pos hk, if_neg (by intro hh; have := hw hh.1; omega)]
theorem miss1_list (h : ¬ (t.kind < 1 ∨ 10 < t.kind ∨ ¬ v.kind = t.kind)) (hf : formedV v = true) (hk : t.kind = 8) : miss1 R t v p = outM t.min t.max p v.lst.length ++ ixM (elemM R t.elem p) v.lst := by
  unfold miss1; rw [if_neg h, if_neg (by rw [hf]; simp), if_neg (by omega), if_neg (by omega), if_neg (by omega), if_pos hk]
theorem miss1_rec (h : ¬ (t.kind < 1 ∨ 10 < t.kind ∨ ¬ v.kind = t.kind)) (hf : formedV v = true) (hk : t.kind = 9) : miss1 R t v p = recM R t v p := by
  unfold miss1; rw [if_neg h, if_neg (by rw [hf]; simp), if_neg (by omega), if_neg (by omega), if_neg (by omega), if_neg (by omega), if_pos hk]
theorem miss1_var (h : ¬ (t.kind < 1 ∨ 10 < t.kind ∨ ¬ v.kind = t.kind)) (hf : formedV v = true) (hk : t.kind = 10) : miss1 R t v p = varM R t v p := by
  unfold miss1; rw [if_neg h, if_neg (by rw [hf]; simp), if_neg (by omega), if_neg (by omega), if_neg (by omega), if_neg (by omega), if_neg (by omega), if_pos hk]
theorem miss1_none (h : ¬ (t.kind < 1 ∨ 10 < t.kind ∨ ¬ v.kind = t.kind)) (hf : formedV v = true) (hk : t.kind = 1) : miss1 R t v p = [] := by
  unfold miss1; rw [if_neg h, if_neg (by rw [hf]; simp), if_neg (by omega), if_neg (by omega), if_neg (by omega), if_neg (by omega), if_neg (by omega), if_neg (by omega)]
theorem varM_some {c : TFd} (h : t.fields.find? (named v.text) = some c) : varM R t v p = R c.typ (v.lst.headD zeroV) (p ++ (63 :: v.text)) := by
  unfold varM; rw [h]
theorem varM_none (h : t.fields.find? (named v.text) = none) : varM R t v p = [.mk p 7] := by
  unfold varM; rw [h]
theorem elemM_one {e : List Typ} {y : Typ} {x : Val} {i : Nat} (h : e = [y]) : elemM R e p x i = R y x (atT p i) := by subst h; rfl
theorem elemM_bad {e : List Typ} {x : Val} {i : Nat} (h : ¬ e.length = 1) : elemM R e p x i = [.mk (atT p i) 1] := by
  match e, h with
  | [], _ => rfl
  | [_], h => exact absurd rfl h
  | _ :: _ :: _, _ => rfl
end
theorem atT_len (p : List UInt8) (i : Nat) : (atT p i).length ≤ p.length + 23 := by
  have := itoaT_len i
  unfold atT
  simp only [List.length_append, List.length_cons, List.length_nil]; omega
theorem missN_succ (n : Nat) (t : Typ) (v : Val) (p : List UInt8) : missN (n + 1) t v p = miss1 (missN n) t v p := rfl

set_option maxHeartbeats 4000000 in
theorem find56M_list (n : Nat) (ih : FindM n) (t : Typ) (v : Val) (p : List UInt8) (l : List Mis) (R : Bool × List Mis) (hd : dep (n + 1) v) (ht : tyOk (n + 1) t) (hv : v.ok) (hp : p.length + 200 * (n + 1) ≤ 100000) (hi : invM false l) (hR : R = addM false l (missN (n + 1) t v p)) (hk : t.kind = 8) (hvk : v.kind = 8) (hf : formedV v = true) :
    Lent Tryd.prog tabG 2 56 [.ptr 0 0, .pv t.pv, .pv v.pv, .pv (.str p)] (blkM false l) (.pv (.tup [])) (blkM R.1 R.2) := by
  have hd0 := hd
  simp only [dep] at hd0
  have h84 := formed84 v (by omega) (by omega) (by omega)
  have h85 := fun k => out85M false l t p k (by have := hi.1; omega) _ rfl
  rw [missN_succ, miss1_list (by omega) hf hk, addM_app] at hR
  have hinv := invM_add (outM t.min t.max p v.lst.length) hi
  have h85 := h85 v.lst.length
  rw [hf] at h84
  obtain ⟨k, m, M, s, w, e, fs⟩ := t
  obtain ⟨vk, vi, vs, vt, vl, vf⟩ := v
  simp only [dep, tyOk, Val.lst, Val.fields, Val.text, Typ.fields, Typ.words, Typ.elem, Typ.kind, Val.kind, Typ.min, Typ.max, Typ.scale, Val.num, Val.scale] at hd ht hR hk hvk h85 h84 hinv
  subst hk hvk
  obtain ⟨d1, d2, d3, d4, d5⟩ := hd
  obtain ⟨t1, t2, t3, t4⟩ := ht
  rw [Val.ok_mk] at hv
  generalize addM false l (outM m M p vl.length) = T at *
  obtain ⟨Td, Tl⟩ := T
  simp only at hR hinv
  generalize hF : elemM (missN n) e p = F at hR
  refine Lent.intro F56_ok (by simp [F56]) ?_
  rw [Typ.pv_mk, Val.pv_mk] at *
  simp only [blkM] at h85
  simp (maxSteps := 1000000) (disch := first | exact dI | fail) only [F56o0, F56o1, F56o2, F56o3, F56o4, F56o5, F56o6, F56o7, F56o8, F56o9, F56o10, F56o11, F56o12, F56o13, F56o14, F56o15, F56o16, F56o17, F56o18, F56o19, F56o20, F56o21, F56o22, F56o23, F56o24, F56o25, F56o26, F56o27, F56o28, F56p28, F56o29, F56o30, F56b31, F56o32, F56o33, F56o34, F56o35, F56o36, F56o37, F56p37, F56o38, F56c, F56, blkM, push_cast, ↓reduceIte, reduceEqDiff, reduceAdd, reduceMul, reduceLeDiff, reduceLT, Nat.reduceBEq, reduceSub, Int.reduceToNat, Int.reduceNeg]
  refine ACall.pure h84 rfl ?_
  simp (maxSteps := 1000000) (disch := first | exact dI | fail) only [push_cast, ↓reduceIte, reduceEqDiff, reduceAdd, reduceMul, reduceLeDiff, reduceLT, Nat.reduceBEq, reduceSub, Int.reduceToNat, Int.reduceNeg]
  refine ACall.lentK h85 [0, 1, 2] rfl (by simp (maxSteps := 1000000) (disch := first | exact dI | fail) only [push_cast, ↓reduceIte, reduceEqDiff, reduceAdd, reduceMul, reduceLeDiff, reduceLT, Nat.reduceBEq, reduceSub, Int.reduceToNat, Int.reduceNeg]) (by simp (maxSteps := 1000000) (disch := first | exact dI | fail) only [push_cast, ↓reduceIte, reduceEqDiff, reduceAdd, reduceMul, reduceLeDiff, reduceLT, Nat.reduceBEq, reduceSub, Int.reduceToNat, Int.reduceNeg]) ?_
  simp (maxSteps := 1000000) (disch := first | exact dI | fail) only [push_cast, ↓reduceIte, reduceEqDiff, reduceAdd, reduceMul, reduceLeDiff, reduceLT, Nat.reduceBEq, reduceSub, Int.reduceToNat, Int.reduceNeg]
  refine vc_over ([]) (fun i : Nat => [(112, .pv (.int .i64 (i : Int)))]) (fun i => [(0, .cells 120 true [.clo 55 [] [.ptr 1 0], .pv (.bool (addM Td Tl (ixM F (vl.take i))).1)]), (1, .cells 65 true [.olist 2 2 ((addM Td Tl (ixM F (vl.take i))).2.map Mis.pv)])]) (fun i => i ≤ vl.length) (fun i => vl.length - i) (0) ?_; intro e0 σ0 n0 h0; simp (maxSteps := 1000000) (disch := first | exact dI | fail) only [push_cast, ↓reduceIte, reduceEqDiff, reduceAdd, reduceMul, reduceLeDiff, reduceLT, Nat.reduceBEq, reduceSub, Int.reduceToNat, Int.reduceNeg] at h0; obtain ⟨rfl, rfl, rfl⟩ := h0; refine ⟨?_, ?_, ?_⟩
  · simp (maxSteps := 1000000) (disch := first | exact dI | fail) only [addM, ixM_nil, push_cast, ↓reduceIte, reduceEqDiff, reduceAdd, reduceMul, reduceLeDiff, reduceLT, Nat.reduceBEq, reduceSub, Int.reduceToNat, Int.reduceNeg]
  · omega
  · intro i hi2
    by_cases hlt : i < vl.length
    · have hltI : (i : Int) < vl.length := by omega
      obtain ⟨x, hx⟩ : ∃ x, vl[i]? = some x := ⟨_, List.getElem?_eq_getElem hlt⟩
      have hsn := ixM_snoc F hx
      have hinv2 := invM_add (ixM F (vl.take i)) hinv
      have happ := addM_app (ixM F (vl.take i)) (F x i) Td Tl
      rw [← hsn] at happ
      generalize addM Td Tl (ixM F (vl.take i)) = S at *
      obtain ⟨Sd, Sl⟩ := S
      simp only at hinv2 happ
      have hFx : F x i = elemM (missN n) e p x i := by rw [hF]
      have hal := atT_len p i
      have h87 := itoa_ok i (by omega) (by omega)
      have hil := itoaT_len i
      have hat : atT p i = p ++ (91 :: (itoaT i ++ [93])) := rfl
      have hxd := d4 x (List.mem_of_getElem? hx)
      have hxo := hv.2.2.2.2.2.1 x (List.mem_of_getElem? hx)
      by_cases he : e.length = 1
      · obtain ⟨y, rfl⟩ := List.length_eq_one_iff.1 he
        have hyt := t3 y (List.mem_singleton.2 rfl)
        rw [elemM_one rfl] at hFx
        have hih := ih y x (atT p i) Sd Sl _ hxd hyt hxo (by omega) hinv2 rfl
        rw [← hFx, ← happ] at hih
        obtain ⟨y1, y2, y3, y4, y5, y6, y7⟩ := y
        obtain ⟨x1, x2, x3, x4, x5, x6⟩ := x
        simp only [blkM, Typ.pv_mk, Val.pv_mk, hat] at hih
        simp (maxSteps := 1000000) (disch := first | exact dI | fail) only [hx, Val.pv_mk, Typ.pv_mk, push_cast, ↓reduceIte, reduceEqDiff, reduceAdd, reduceMul, reduceLeDiff, reduceLT, Nat.reduceBEq, reduceSub, Int.reduceToNat, Int.reduceNeg]
        refine ACall.pure h87 rfl ?_
        simp (maxSteps := 1000000) (disch := first | exact dI | fail) only [Typ.pv_mk, Val.pv_mk, rElem_zero, List.getElem?_cons_zero, push_cast, ↓reduceIte, reduceEqDiff, reduceAdd, reduceMul, reduceLeDiff, reduceLT, Nat.reduceBEq, reduceSub, Int.reduceToNat, Int.reduceNeg]
        refine ACall.lentK hih [0, 1, 2] rfl (by simp (maxSteps := 1000000) (disch := first | exact dI | fail) only [push_cast, ↓reduceIte, reduceEqDiff, reduceAdd, reduceMul, reduceLeDiff, reduceLT, Nat.reduceBEq, reduceSub, Int.reduceToNat, Int.reduceNeg]) (by simp (maxSteps := 1000000) (disch := first | exact dI | fail) only [push_cast, ↓reduceIte, reduceEqDiff, reduceAdd, reduceMul, reduceLeDiff, reduceLT, Nat.reduceBEq, reduceSub, Int.reduceToNat, Int.reduceNeg]) ?_
        simp (maxSteps := 1000000) (disch := first | exact dI | fail) only [push_cast, ↓reduceIte, reduceEqDiff, reduceAdd, reduceMul, reduceLeDiff, reduceLT, Nat.reduceBEq, reduceSub, Int.reduceToNat, Int.reduceNeg]
        exact ⟨i + 1, hd_z (by simp (maxSteps := 1000000) (disch := first | exact dI | fail) only [push_cast, ↓reduceIte, reduceEqDiff, reduceAdd, reduceMul, reduceLeDiff, reduceLT, Nat.reduceBEq, reduceSub, Int.reduceToNat, Int.reduceNeg]), by omega, by omega⟩
      · have heI : ¬ (e.length : Int) = 1 := by omega
        rw [elemM_bad he] at hFx
        rw [hFx, addM_one] at happ
        have h83 := add83M Sd Sl (atT p i) 1 (by have := hinv2.1; omega)
        rw [← happ] at h83
        obtain ⟨x1, x2, x3, x4, x5, x6⟩ := x
        simp only [blkM, hat] at h83
        simp (maxSteps := 1000000) (disch := first | exact dI | fail) only [hx, Val.pv_mk, Typ.pv_mk, push_cast, ↓reduceIte, reduceEqDiff, reduceAdd, reduceMul, reduceLeDiff, reduceLT, Nat.reduceBEq, reduceSub, Int.reduceToNat, Int.reduceNeg]
        refine ACall.pure h87 rfl ?_
        simp (maxSteps := 1000000) (disch := first | exact dI | fail) only [push_cast, ↓reduceIte, reduceEqDiff, reduceAdd, reduceMul, reduceLeDiff, reduceLT, Nat.reduceBEq, reduceSub, Int.reduceToNat, Int.reduceNeg]
        refine ACall.lentK h83 [0, 1, 2] rfl (by simp (maxSteps := 1000000) (disch := first | exact dI | fail) only [push_cast, ↓reduceIte, reduceEqDiff, reduceAdd, reduceMul, reduceLeDiff, reduceLT, Nat.reduceBEq, reduceSub, Int.reduceToNat, Int.reduceNeg]) (by simp (maxSteps := 1000000) (disch := first | exact dI | fail) only [push_cast, ↓reduceIte, reduceEqDiff, reduceAdd, reduceMul, reduceLeDiff, reduceLT, Nat.reduceBEq, reduceSub, Int.reduceToNat, Int.reduceNeg]) ?_
        simp (maxSteps := 1000000) (disch := first | exact dI | fail) only [push_cast, ↓reduceIte, reduceEqDiff, reduceAdd, reduceMul, reduceLeDiff, reduceLT, Nat.reduceBEq, reduceSub, Int.reduceToNat, Int.reduceNeg]
        exact ⟨i + 1, hd_z (by simp (maxSteps := 1000000) (disch := first | exact dI | fail) only [push_cast, ↓reduceIte, reduceEqDiff, reduceAdd, reduceMul, reduceLeDiff, reduceLT, Nat.reduceBEq, reduceSub, Int.reduceToNat, Int.reduceNeg]), by omega, by omega⟩
    · have hltI : ¬ (i : Int) < vl.length := by omega
      rw [take_end hlt]
      rw [← hR]
      simp (maxSteps := 1000000) (disch := first | exact dI | fail) only [push_cast, ↓reduceIte, reduceEqDiff, reduceAdd, reduceMul, reduceLeDiff, reduceLT, Nat.reduceBEq, reduceSub, Int.reduceToNat, Int.reduceNeg]
      exact lent_z [] (by simp (maxSteps := 1000000) (disch := first | exact dI | fail) only [push_cast, ↓reduceIte, reduceEqDiff, reduceAdd, reduceMul, reduceLeDiff, reduceLT, Nat.reduceBEq, reduceSub, Int.reduceToNat, Int.reduceNeg])
end Go.Proofs.YtikmckfppnmlnaaDoor
