/- A part of the proof for FitReducesSameCardSaid. -/
import Derived.Test.YtikmckfppnmlnaaDoorSamYCb
set_option maxRecDepth 100000
set_option linter.unusedVariables false
set_option linter.unusedSimpArgs false
namespace Go.Proofs.YtikmckfppnmlnaaDoor
open Go Go.Ab
attribute [local irreducible] vc
theorem rowF_one (l : List Fld) : (rowF l).all AV.one = true := by
  rw [List.all_eq_true]
  intro y hy
  obtain ⟨x, _, hx⟩ := List.mem_flatMap.1 hy
  obtain ⟨p, hp, rfl⟩ := List.mem_map.1 hx
  exact (List.all_eq_true.1 (Fld.ones x)) p hp
structure Cut (l : List Fld) (L : List AV) (i : Nat) (K : List AV) : Prop where
  eq : L = rowF (l.take i) ++ (rowF (l.drop i) ++ K)
theorem cutR {l : List Fld} {K : List AV} (i : Nat) : rowF l ++ K = rowF (l.take i) ++ (rowF (l.drop i) ++ K) := by
  rw [← List.append_assoc, ← rowF_app, List.take_append_drop]
section
variable {l : List Fld} {i n : Nat} (hi : i ≤ l.length) (K : List AV)
theorem shift_eq {A B K L1 : List AV} {X : List AV} {o m : Nat} (hA : A.length = o) (hB : B.length = m) (hX : X.length = 7) (hK : 7 ≤ K.length)
    (h1 : (A ++ (B ++ K)).take (o + 7) ++ (((A ++ (B ++ K)).drop o).take (m + 7)).take m ++ (A ++ (B ++ K)).drop (o + 7 + m) = L1) : L1.length = (A ++ (B ++ K)).length ∧ L1.take o ++ X ++ L1.drop (o + 7) = A ++ (X ++ (B ++ K.drop 7)) := by
  subst hA hB
  have e1 : (A ++ (B ++ K)).drop A.length = B ++ K := List.drop_left
  have e2 : ((B ++ K).take (B.length + 7)).take B.length = B := by
    rw [List.take_take, Nat.min_eq_left (by omega), List.take_left]
  have e3 : (A ++ (B ++ K)).drop (A.length + 7 + B.length) = K.drop 7 := by
    rw [show A.length + 7 + B.length = A.length + (B.length + 7) by omega, ← List.drop_drop, e1, ← List.drop_drop, List.drop_left]
  rw [e1, e2, e3] at h1
  have hT : ((A ++ (B ++ K)).take (A.length + 7)).length = A.length + 7 := by simp; omega
  subst h1
  refine ⟨by simp; omega, ?_⟩
  have f1 : (((A ++ (B ++ K)).take (A.length + 7) ++ B) ++ K.drop 7).take A.length = A := by
    rw [List.append_assoc, List.take_append_of_le_length (by omega), List.take_take, Nat.min_eq_left (by omega), List.take_left]
  have f2 : (((A ++ (B ++ K)).take (A.length + 7) ++ B) ++ K.drop 7).drop (A.length + 7) = B ++ K.drop 7 := by
    rw [List.append_assoc]; exact List.drop_left' hT
  rw [f1, f2]
  simp
theorem grow_eq {A B Z M1 X : List AV} {o m : Nat} (hA : A.length = o) (hB : B.length = m) (hX : X.length = 7) (hZ : Z.length = m + 7)
    (h1 : (A ++ Z).take o ++ X ++ (A ++ Z).drop (o + 7) = M1) : M1.length = o + (m + 7) ∧ M1.take (o + 7) ++ B ++ M1.drop (o + 7 + m) = A ++ (X ++ B) := by
  subst hA hB
  have e1 : (A ++ Z).take A.length = A := List.take_left
  have e2 : (A ++ Z).drop (A.length + 7) = Z.drop 7 := by rw [← List.drop_drop, List.drop_left]
  rw [e1, e2] at h1
  subst h1
  have hT : (A ++ X).length = A.length + 7 := by simp; omega
  refine ⟨by simp; omega, ?_⟩
  have f1 : ((A ++ X) ++ Z.drop 7).take (A.length + 7) = A ++ X := by rw [← hT, List.take_left]
  have f2 : ((A ++ X) ++ Z.drop 7).drop (A.length + 7 + B.length) = [] := List.drop_eq_nil_of_le (by simp; omega)
  rw [f1, f2]
  simp
end
def insAt (l : List Fld) (i : Nat) (x : Fld) : List Fld := l.take i ++ x :: l.drop i
theorem insAt_row (l : List Fld) (i : Nat) (x : Fld) : (rowP (insAt l i x)).map AV.pv = rowF (l.take i) ++ (cellF x ++ rowF (l.drop i)) := by
  rw [← rowF_map, insAt, rowF_app, rowF_cons]
theorem insAt_end (l : List Fld) (x : Fld) : (rowP l).map AV.pv ++ (rowP [x]).map AV.pv = (rowP (insAt l l.length x)).map AV.pv := by
  rw [← rowF_map, ← rowF_map, insAt_row, List.take_length, List.drop_length]
  simp [rowF]
theorem flat_row (x : Fld) : flat [x.pv] = (rowP [x]).map AV.pv := by
  simp [flat, rowP]
theorem row_one (x : Fld) : (rowP [x]).map AV.pv = cellF x := by
  rw [← rowF_map]; simp [rowF]
end Go.Proofs.YtikmckfppnmlnaaDoor
