/- A part of the proof for ResolveWalksCardSaid. -/
import Derived.Test.YtfbakipopjoghaaDoorCore4
import Derived.Test.YtfbakipopjoghaaDoorWalkXC
set_option maxRecDepth 100000
set_option linter.unusedVariables false
set_option linter.unusedSimpArgs false
namespace Go.Proofs.YtfbakipopjoghaaDoor
open Go Go.Ab

/-- slices.Clone of a row of numbers. -/
theorem clone93 (p : List Int) (hp : 0 < p.length) (hm : p.length ≤ 1000000) : Lent Tryd.prog tabG 1 93 [.row 0 1 0 p.length] [.cells 3 false ((p.map (PV.int .i64)).map .pv)] (.pv (.list (p.map (PV.int .i64)))) [.cells 3 false ((p.map (PV.int .i64)).map .pv)] := by
  refine Lent.intro F93_ok (by simp [F93]) ?_
  simp (config := { maxSteps := 1000000 }) (disch := first | exact chk_rfl | (unfold Chk; decide +kernel) | omega | (simp only [cells_agg, List.length_cons, List.length_nil, List.length_map, List.length_take, List.length_append, Nat.zero_add, Nat.reduceAdd]; first | done | omega) | fail) only [F93o0, F93o1, F93o2, F93o3, F93c, F93, push_cast, ↓reduceIte, Nat.reduceEqDiff, Nat.reduceAdd, Nat.reduceMul, Nat.reduceLeDiff, Nat.reduceLT, Nat.reduceBEq, Nat.reduceSub, Int.reduceToNat, Int.reduceNeg]
  exact lent_zu [] (.pv (.list (p.map (PV.int .i64)))) (.list _ _ _ _ (NzL.refl _)) (by simp (config := { maxSteps := 1000000 }) (disch := first | exact chk_rfl | (unfold Chk; decide +kernel) | omega | (simp only [cells_agg, List.length_cons, List.length_nil, List.length_map, List.length_take, List.length_append, Nat.zero_add, Nat.reduceAdd]; first | done | omega) | fail) only [push_cast, ↓reduceIte, Nat.reduceEqDiff, Nat.reduceAdd, Nat.reduceMul, Nat.reduceLeDiff, Nat.reduceLT, Nat.reduceBEq, Nat.reduceSub, Int.reduceToNat, Int.reduceNeg])

set_option maxHeartbeats 4000000 in
/-- What walk does with a step. -/
theorem walk92 (p : List Int) (hp : 0 < p.length) (hm : p.length ≤ 1000000) (ws : List Wkd) (hw : ws.length ≤ 1000000000) (l : List Stp) (i : Nat) (s : Stp) (hs : l[i]? = some s) (ho : s.ok) (route : Int) :
    Lent Tryd.prog tabG 2 92 [.row 1 1 0 p.length, .pv (.eptr (l.map Stp.pv) i 0), .ptr 0 0, .pv (.eptr [.int .i64 route] 0 0)]
      [.cells 73 true [.olist 2 13 (ws.map Wkd.pv)], .cells 3 false ((p.map (PV.int .i64)).map .pv), .tok 79 13] (.pv (.tup []))
      [.cells 73 true [.olist 2 13 ((ws ++ [Wkd.mk route p s]).map Wkd.pv)], .cells 3 false ((p.map (PV.int .i64)).map .pv), .tok 79 13] := by
  refine Lent.intro F92_ok (by simp [F92]) ?_
  have hcall := cloned_ok _ s (Nat.lt_succ_self _) ho
  obtain ⟨w1, w2, w3, w4, w5, w6, w7, w8, w9, w10, w11⟩ := s
  rw [Stp.pv_mk] at hcall
  simp (config := { maxSteps := 1000000 }) (disch := first | exact chk_rfl | (unfold Chk; decide +kernel) | omega | (simp only [cells_agg, List.length_cons, List.length_nil, List.length_map, List.length_take, List.length_append, Nat.zero_add, Nat.reduceAdd]; first | done | omega) | fail) only [F92o0, F92p0, F92c, F92, hs, Stp.pv_mk, push_cast, ↓reduceIte, Nat.reduceEqDiff, Nat.reduceAdd, Nat.reduceMul, Nat.reduceLeDiff, Nat.reduceLT, Nat.reduceBEq, Nat.reduceSub, Int.reduceToNat, Int.reduceNeg]
  refine callDL_lentK (clone93 p hp hm) [1] rfl (by simp (config := { maxSteps := 1000000 }) (disch := first | exact chk_rfl | (unfold Chk; decide +kernel) | omega | (simp only [cells_agg, List.length_cons, List.length_nil, List.length_map, List.length_take, List.length_append, Nat.zero_add, Nat.reduceAdd]; first | done | omega) | fail) only [push_cast, ↓reduceIte, Nat.reduceEqDiff, Nat.reduceAdd, Nat.reduceMul, Nat.reduceLeDiff, Nat.reduceLT, Nat.reduceBEq, Nat.reduceSub, Int.reduceToNat, Int.reduceNeg]) (by simp (config := { maxSteps := 1000000 }) (disch := first | exact chk_rfl | (unfold Chk; decide +kernel) | omega | (simp only [cells_agg, List.length_cons, List.length_nil, List.length_map, List.length_take, List.length_append, Nat.zero_add, Nat.reduceAdd]; first | done | omega) | fail) only [push_cast, ↓reduceIte, Nat.reduceEqDiff, Nat.reduceAdd, Nat.reduceMul, Nat.reduceLeDiff, Nat.reduceLT, Nat.reduceBEq, Nat.reduceSub, Int.reduceToNat, Int.reduceNeg]) ?_
  simp (config := { maxSteps := 1000000 }) (disch := first | exact chk_rfl | (unfold Chk; decide +kernel) | omega | (simp only [cells_agg, List.length_cons, List.length_nil, List.length_map, List.length_take, List.length_append, Nat.zero_add, Nat.reduceAdd]; first | done | omega) | fail) only [hs, Stp.pv_mk, push_cast, ↓reduceIte, Nat.reduceEqDiff, Nat.reduceAdd, Nat.reduceMul, Nat.reduceLeDiff, Nat.reduceLT, Nat.reduceBEq, Nat.reduceSub, Int.reduceToNat, Int.reduceNeg]
  refine callDL_pure hcall rfl ?_
  simp (config := { maxSteps := 1000000 }) (disch := first | exact chk_rfl | (unfold Chk; decide +kernel) | omega | (simp only [cells_agg, List.length_cons, List.length_nil, List.length_map, List.length_take, List.length_append, Nat.zero_add, Nat.reduceAdd]; first | done | omega) | fail) only [push_cast, ↓reduceIte, Nat.reduceEqDiff, Nat.reduceAdd, Nat.reduceMul, Nat.reduceLeDiff, Nat.reduceLT, Nat.reduceBEq, Nat.reduceSub, Int.reduceToNat, Int.reduceNeg]
  exact lent_z [] (by simp (config := { maxSteps := 1000000 }) (disch := first | exact chk_rfl | (unfold Chk; decide +kernel) | omega | (simp only [cells_agg, List.length_cons, List.length_nil, List.length_map, List.length_take, List.length_append, Nat.zero_add, Nat.reduceAdd]; first | done | omega) | fail) only [List.map_append, Wkd.pv_mk, Stp.pv_mk, push_cast, ↓reduceIte, Nat.reduceEqDiff, Nat.reduceAdd, Nat.reduceMul, Nat.reduceLeDiff, Nat.reduceLT, Nat.reduceBEq, Nat.reduceSub, Int.reduceToNat, Int.reduceNeg])

/-- What is made of the elements of a list, with their numbers, one behind the other. -/
def ixMap {α β : Type} (F : α → Nat → List β) (l : List α) : List β := l.zipIdx.flatMap fun q => F q.1 q.2
theorem ixMap_nil {α β : Type} (F : α → Nat → List β) : ixMap F [] = [] := _root_.id rfl
theorem ixMap_snoc {α β : Type} (F : α → Nat → List β) {l : List α} {m : Nat} {x : α} (h : l[m]? = some x) : ixMap F (l.take (m + 1)) = ixMap F (l.take m) ++ F x m := by
  have hm : m < l.length := (List.getElem?_eq_some_iff.1 h).1
  have hl : (l.take m).length = m := by rw [List.length_take]; omega
  rw [take_snoc h]
  simp [ixMap, List.zipIdx_append, List.flatMap_append, hl]
/-- All steps of a list and below it, with their places. -/
def stepsW (route : Int) : Nat → List Int → List Stp → List Wkd
  | 0, _, _ => []
  | n + 1, p, l => ixMap (fun s i => Wkd.mk route (p ++ [(i : Int)]) s :: ixMap (fun b j => stepsW route n ((p ++ [(i : Int)]) ++ [(j : Int)]) b.steps) s.branches) l
/-- So many levels at most, so many steps and branches. -/
def Bnd : Nat → List Stp → Prop
  | 0, l => l = []
  | n + 1, l => l.length ≤ 8 ∧ ∀ s ∈ l, s.branches.length ≤ 4 ∧ ∀ b ∈ s.branches, Bnd n b.steps
def cnt : Nat → Nat
  | 0 => 0
  | n + 1 => 8 * (1 + 4 * cnt n)
theorem ixMap_len {α β : Type} (F : α → Nat → List β) (c : Nat) : ∀ (l : List α), (∀ x ∈ l, ∀ i, (F x i).length ≤ c) → (ixMap F l).length ≤ l.length * c := by
  intro l h
  have key : ∀ (l : List α) (k : Nat), (∀ x ∈ l, ∀ i, (F x i).length ≤ c) → ((l.zipIdx k).flatMap fun q => F q.1 q.2).length ≤ l.length * c := by
    intro l
    induction l with
    | nil => intro k _; simp
    | cons x r ih =>
      intro k h
      have h1 := h x (by simp) k
      have h2 := ih (k + 1) (fun y hy => h y (by simp [hy]))
      simp only [List.zipIdx_cons, List.flatMap_cons, List.length_append, List.length_cons, Nat.succ_mul]
      omega
  exact key l 0 h
theorem stepsW_len (route : Int) : ∀ (n : Nat) (p : List Int) (l : List Stp), Bnd n l → (stepsW route n p l).length ≤ cnt n
  | 0, p, l, h => by simp [stepsW]
  | n + 1, p, l, h => by
    obtain ⟨h1, h2⟩ := h
    rw [stepsW, cnt]
    refine Nat.le_trans (ixMap_len _ (1 + 4 * cnt n) l fun s hs i => ?_) (Nat.mul_le_mul_right _ h1)
    obtain ⟨h3, h4⟩ := h2 s hs
    have := ixMap_len (fun b j => stepsW route n ((p ++ [(i : Int)]) ++ [(j : Int)]) b.steps) (cnt n) s.branches fun b hb j => stepsW_len route n _ _ (h4 b hb)
    have h5 : s.branches.length * cnt n ≤ 4 * cnt n := Nat.mul_le_mul_right _ h3
    simp only [List.length_cons]
    omega
end Go.Proofs.YtfbakipopjoghaaDoor
