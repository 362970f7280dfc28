/- A part of the proof for FitBackCardSaid. -/
import Derived.Test.YtikmckfppnmlnaaDoorBakYK
set_option maxRecDepth 100000
set_option linter.unusedVariables false
set_option linter.unusedSimpArgs false
namespace Go.Proofs.YtikmckfppnmlnaaDoor
open Go Go.Ab
open Nat renaming reduceEqDiff → qa, reduceAdd → qb, reduceMul → qc, reduceLeDiff → qd, reduceLT → qe, reduceBEq → qf, reduceSub → qg
open Int renaming reduceToNat → qh, reduceNeg → qi
attribute [local irreducible] vc
section
variable {R : Typ → Val → List UInt8 → List Mis} {t : Typ} {v : Val} {p : List UInt8}
theorem miss1_kind (h : t.kind < 1 ∨ 10 < t.kind ∨ ¬ v.kind = t.kind) : miss1 R t v p = [.mk p 1] := if_pos h
theorem miss1_bad (h : ¬ (t.kind < 1 ∨ 10 < t.kind ∨ ¬ v.kind = t.kind)) (hf : formedV v = false) : miss1 R t v p = [.mk p 8] := by
  unfold miss1; rw [if_neg h, if_pos hf]
theorem miss1_num (h : ¬ (t.kind < 1 ∨ 10 < t.kind ∨ ¬ v.kind = t.kind)) (hf : formedV v = true) (hk : t.kind = 2 ∨ t.kind = 6 ∨ t.kind = 7) : miss1 R t v p = outM t.min t.max p v.num := by
  unfold miss1; rw [if_neg h, if_neg (by rw [hf]; simp), if_pos hk]
theorem miss1_dec (h : ¬ (t.kind < 1 ∨ 10 < t.kind ∨ ¬ v.kind = t.kind)) (hf : formedV v = true) (hk : t.kind = 3) (hs : v.scale = t.scale) : miss1 R t v p = outM t.min t.max p v.num := by
  unfold miss1; rw [if_neg h, if_neg (by rw [hf]; simp), if_neg (by omega), if_pos hk, if_pos hs]
theorem miss1_scale (h : ¬ (t.kind < 1 ∨ 10 < t.kind ∨ ¬ v.kind = t.kind)) (hf : formedV v = true) (hk : t.kind = 3) (hs : ¬ v.scale = t.scale) : miss1 R t v p = [.mk p 3] := by
  unfold miss1; rw [if_neg h, if_neg (by rw [hf]; simp), if_neg (by omega), if_pos hk, if_neg hs]
theorem miss1_word (h : ¬ (t.kind < 1 ∨ 10 < t.kind ∨ ¬ v.kind = t.kind)) (hf : formedV v = true) (hk : t.kind = 4) (hw : 0 < t.words.length) (ha : (t.words.any fun x => decide (x = v.text)) = true) : miss1 R t v p = [] := by
  unfold miss1; rw [if_neg h, if_neg (by rw [hf]; simp), if_neg (by omega), if_neg (by omega), if_pos (.inl hk), if_pos ⟨hk, hw⟩, if_pos ha]
theorem miss1_noword (h : ¬ (t.kind < 1 ∨ 10 < t.kind ∨ ¬ v.kind = t.kind)) (hf : formedV v = true) (hk : t.kind = 4) (hw : 0 < t.words.length) (ha : (t.words.any fun x => decide (x = v.text)) = false) : miss1 R t v p = [.mk p 4] := by
  unfold miss1; rw [if_neg h, if_neg (by rw [hf]; simp), if_neg (by omega), if_neg (by omega), if_pos (.inl hk), if_pos ⟨hk, hw⟩, if_neg (by rw [ha]; simp)]
theorem miss1_text (h : ¬ (t.kind < 1 ∨ 10 < t.kind ∨ ¬ v.kind = t.kind)) (hf : formedV v = true) (hk : t.kind = 4 ∨ t.kind = 5) (hw : t.kind = 4 → t.words.length = 0) : miss1 R t v p = outM t.min t.max p v.text.length := by
  unfold miss1; rw [if_neg h, if_neg (by rw [hf]; simp), if_neg (by omega), if_neg (by omega), if_pos hk, if_neg (by intro hh; have := hw hh.1; omega)]
theorem miss1_list (h : ¬ (t.kind < 1 ∨ 10 < t.kind ∨ ¬ v.kind = t.kind)) (hf : formedV v = true) (hk : t.kind = 8) : miss1 R t v p = outM t.min t.max p v.lst.length ++ ixM (elemM R t.elem p) v.lst := by
  unfold miss1; rw [if_neg h, if_neg (by rw [hf]; simp), if_neg (by omega), if_neg (by omega), if_neg (by omega), if_pos hk]
theorem miss1_rec (h : ¬ (t.kind < 1 ∨ 10 < t.kind ∨ ¬ v.kind = t.kind)) (hf : formedV v = true) (hk : t.kind = 9) : miss1 R t v p = recM R t v p := by
  unfold miss1; rw [if_neg h, if_neg (by rw [hf]; simp), if_neg (by omega), if_neg (by omega), if_neg (by omega), if_neg (by omega), if_pos hk]
theorem miss1_var (h : ¬ (t.kind < 1 ∨ 10 < t.kind ∨ ¬ v.kind = t.kind)) (hf : formedV v = true) (hk : t.kind = 10) : miss1 R t v p = varM R t v p := by
  unfold miss1; rw [if_neg h, if_neg (by rw [hf]; simp), if_neg (by omega), if_neg (by omega), if_neg (by omega), if_neg (by omega), if_neg (by omega), if_pos hk]
theorem miss1_none (h : ¬ (t.kind < 1 ∨ 10 < t.kind ∨ ¬ v.kind = t.kind)) (hf : formedV v = true) (hk : t.kind = 1) : miss1 R t v p = [] := by
  unfold miss1; rw [if_neg h, if_neg (by rw [hf]; simp), if_neg (by omega), if_neg (by omega), if_neg (by omega), if_neg (by omega), if_neg (by omega), if_neg (by omega)]
theorem varM_some {c : TFd} (h : t.fields.find? (named v.text) = some c) : varM R t v p = R c.typ (v.lst.headD zeroV) (p ++ (63 :: v.text)) := by
  unfold varM; rw [h]
theorem varM_none (h : t.fields.find? (named v.text) = none) : varM R t v p = [.mk p 7] := by
  unfold varM; rw [h]
theorem elemM_one {e : List Typ} {y : Typ} {x : Val} {i : Nat} (h : e = [y]) : elemM R e p x i = R y x (atT p i) := by subst h; rfl
theorem elemM_bad {e : List Typ} {x : Val} {i : Nat} (h : ¬ e.length = 1) : elemM R e p x i = [.mk (atT p i) 1] := by
  match e, h with
  | [], _ => rfl
  | [_], h => exact absurd rfl h
  | _ :: _ :: _, _ => rfl
end
theorem atT_len (p : List UInt8) (i : Nat) : (atT p i).length ≤ p.length + 23 := by
  have := itoaT_len i
  unfold atT
  simp only [List.length_append, List.length_cons, List.length_nil]; omega
theorem missN_succ (n : Nat) (t : Typ) (v : Val) (p : List UInt8) : missN (n + 1) t v p = miss1 (missN n) t v p := rfl
end Go.Proofs.YtikmckfppnmlnaaDoor
