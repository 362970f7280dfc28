/- A part of the proof for FitBackCardSaid. -/
import Derived.Test.YtikmckfppnmlnaaDoorBakYZ4
set_option maxRecDepth 100000
set_option linter.unusedVariables false
set_option linter.unusedSimpArgs false
namespace Go.Proofs.YtikmckfppnmlnaaDoor
open Go Go.Ab
attribute [local irreducible] vc
section
variable {α β : Type} {f : α → List β} {k : Nat}
theorem fm_len (h : ∀ x, (f x).length = k) : ∀ l : List α, (l.flatMap f).length = l.length * k
  | [] => by simp
  | x :: r => by rw [List.flatMap_cons, List.length_append, h x, fm_len h r, List.length_cons, Nat.succ_mul]; omega
theorem fm_drop (h : ∀ x, (f x).length = k) : ∀ (l : List α) (i : Nat), (l.flatMap f).drop (i * k) = (l.drop i).flatMap f
  | l, 0 => by simp
  | [], i + 1 => by simp
  | x :: r, i + 1 => by
    rw [List.flatMap_cons, Nat.succ_mul, Nat.add_comm, ← List.drop_drop, List.drop_left' (h x), fm_drop h r i, List.drop_succ_cons]
theorem fm_take (h : ∀ x, (f x).length = k) : ∀ (l : List α) (i : Nat), (l.flatMap f).take (i * k) = (l.take i).flatMap f
  | l, 0 => by simp
  | [], i + 1 => by simp
  | x :: r, i + 1 => by
    have hx := h x
    rw [List.flatMap_cons, List.take_succ_cons, List.flatMap_cons, List.take_append, Nat.succ_mul, hx, Nat.add_sub_cancel, fm_take h r i, List.take_of_length_le (by omega)]
end
def cellF (x : Fld) : List AV := x.pv.cells.map .pv
def rowF (l : List Fld) : List AV := l.flatMap cellF
theorem cellF_len (x : Fld) : (cellF x).length = 7 := by
  unfold cellF; rw [List.length_map]; exact Fld.cells_len x
theorem rowF_flat (l : List Fld) : flat (l.map Fld.pv) = rowF l := by
  unfold flat rowF cellF
  induction l with
  | nil => rfl
  | cons x r ih => rw [List.map_cons, List.flatMap_cons, List.map_append, ih, List.flatMap_cons]
theorem rowF_len (l : List Fld) : (rowF l).length = l.length * 7 := fm_len cellF_len l
theorem rowF_drop (l : List Fld) (i : Nat) : (rowF l).drop (i * 7) = rowF (l.drop i) := fm_drop cellF_len l i
theorem rowF_take (l : List Fld) (i : Nat) : (rowF l).take (i * 7) = rowF (l.take i) := fm_take cellF_len l i
theorem rowF_app (a b : List Fld) : rowF (a ++ b) = rowF a ++ rowF b := List.flatMap_append
theorem rowF_cons (x : Fld) (r : List Fld) : rowF (x :: r) = cellF x ++ rowF r := List.flatMap_cons
theorem rowF_cell {l : List Fld} {i : Nat} {x : Fld} (h : l[i]? = some x) : ((rowF l).drop (i * 7)).take 7 = cellF x := by
  rw [rowF_drop, drop_at h, rowF_cons, List.take_left' (cellF_len x)]
theorem rowF_part {l : List Fld} {i : Nat} {x : Fld} (h : l[i]? = some x) : partA true 7 (i * 7) (rowF l) = some (mkAgg (cellF x)) := by
  have hl : i < l.length := (List.getElem?_eq_some_iff.1 h).1
  unfold partA
  simp only
  rw [if_pos (by rw [rowF_len]; omega), rowF_cell h]
theorem rowF_set (l : List Fld) (i : Nat) (x : Fld) : (rowF l).take (i * 7) ++ cellF x ++ (rowF l).drop (i * 7 + 7) = rowF (l.take i ++ x :: l.drop (i + 1)) := by
  rw [rowF_take, show i * 7 + 7 = (i + 1) * 7 by omega, rowF_drop, rowF_app, rowF_cons, List.append_assoc]
def rowP (l : List Fld) : List PV := l.flatMap fun x => x.pv.cells
theorem rowF_map (l : List Fld) : rowF l = (rowP l).map AV.pv := by
  unfold rowF rowP cellF
  rw [List.map_flatMap]
theorem rowP_len (l : List Fld) : (rowP l).length = l.length * 7 := by
  have := rowF_len l
  rwa [rowF_map, List.length_map] at this
theorem rowP_nil : rowP [] = [] := rfl
theorem rowP_flat (l : List Fld) : flat (l.map Fld.pv) = (rowP l).map AV.pv := by rw [rowF_flat, rowF_map]
theorem rowP_part {l : List Fld} {i : Nat} {x : Fld} (h : l[i]? = some x) : partA true 7 (i * 7) ((rowP l).map AV.pv) = some (mkAgg (cellF x)) := by
  rw [← rowF_map]; exact rowF_part h
theorem rowP_set (l : List Fld) (i : Nat) (x : Fld) : ((rowP l).map AV.pv).take (i * 7) ++ cellF x ++ ((rowP l).map AV.pv).drop (i * 7 + 7) = (rowP (l.take i ++ x :: l.drop (i + 1))).map AV.pv := by
  rw [← rowF_map, ← rowF_map]; exact rowF_set l i x
theorem rowP_take (l : List Fld) (i : Nat) : ((rowP l).map AV.pv).take (i * 7) = (rowP (l.take i)).map AV.pv := by
  rw [← rowF_map, ← rowF_map]; exact rowF_take l i
end Go.Proofs.YtikmckfppnmlnaaDoor
set_option maxRecDepth 100000
set_option linter.unusedVariables false
set_option linter.unusedSimpArgs false
namespace Go.Proofs.YtikmckfppnmlnaaDoor
open Go Go.Ab
open Nat renaming reduceEqDiff → qa, reduceAdd → qb, reduceMul → qc, reduceLeDiff → qd, reduceLT → qe, reduceBEq → qf, reduceSub → qg
open Int renaming reduceToNat → qh, reduceNeg → qi
attribute [local irreducible] vc
theorem fldAll : ∀ l : List Fld, ((l.map Fld.pv).all fun y => y.cells.length == 7) = true
  | [] => rfl
  | x :: r => by rw [List.map_cons, List.all_cons, fldAll r, Fld.cells_len]; rfl
theorem flat_nil : flat [] = [] := rfl
theorem clone96 (l : List Fld) (hl : l.length ≤ 300) : Lent Tryd.prog tabG 0 96 [.pv (.list (l.map Fld.pv))] [] (.row 0 7 0 l.length) [.cells 127 false ((rowP l).map .pv)] := by
  refine Lent.intro F96_ok (by simp [F96]) ?_
  have hfl := rowP_flat l
  have hall := fldAll l
  cases l with
  | nil =>
    simp (disch := first | exact dI | fail) only [F96o0, F96o1, F96o2, F96o3, F96c, F96, List.map_nil, push_cast, ↓reduceIte, qa, qb, qc, qd, qe, qf, qg, qh, qi]
    intro b
    cases b with
    | true =>
      simp (disch := first | exact dI | fail) only [push_cast, ↓reduceIte, qa, qb, qc, qd, qe, qf, qg, qh, qi]
      exact lent_z [(0, 0, 1000127, 7)] (by simp (disch := first | exact dI | fail) only [rowP_nil, push_cast, ↓reduceIte, qa, qb, qc, qd, qe, qf, qg, qh, qi])
    | false =>
      simp (disch := first | exact dI | fail) only [List.length_nil, push_cast, ↓reduceIte, qa, qb, qc, qd, qe, qf, qg, qh, qi]
      exact lent_z [] (by simp (disch := first | exact dI | fail) only [rowP_nil, flat_nil, push_cast, ↓reduceIte, qa, qb, qc, qd, qe, qf, qg, qh, qi])
  | cons x r =>
    rw [List.map_cons] at hfl hall
    have hl2 : r.length + 1 ≤ 300 := hl
    simp (disch := first | exact dI | fail) only [F96o0, F96o1, F96o2, F96o3, F96c, F96, List.map_cons, hall, push_cast, ↓reduceIte, qa, qb, qc, qd, qe, qf, qg, qh, qi]
    exact lent_z [] (by simp (disch := first | exact dI | fail) only [hfl, push_cast, ↓reduceIte, qa, qb, qc, qd, qe, qf, qg, qh, qi])
end Go.Proofs.YtikmckfppnmlnaaDoor
set_option maxRecDepth 100000
set_option linter.unusedVariables false
set_option linter.unusedSimpArgs false
namespace Go.Proofs.YtikmckfppnmlnaaDoor
open Go Go.Ab
open Nat renaming reduceEqDiff → qa, reduceAdd → qb, reduceMul → qc, reduceLeDiff → qd, reduceLT → qe, reduceBEq → qf, reduceSub → qg
open Int renaming reduceToNat → qh, reduceNeg → qi
attribute [local irreducible] vc
theorem cellF_agg (x : Fld) : mkAgg (cellF x) = .pv x.pv := by
  obtain ⟨cs, h, _, _⟩ := Fld.row x
  unfold cellF mkAgg
  rw [pvs_map, h]; rfl
theorem rowP_load {l : List Fld} {i : Nat} {x : Fld} (h : l[i]? = some x) : partT 7 (i * 7) ((rowP l).map AV.pv) = some (.pv x.pv) := by
  rw [← partA_t, rowP_part h, cellF_agg]
set_option maxHeartbeats 4000000 in
theorem index117L (l : List Fld) (g : Nat) (cs : List PV) (q : Fld → Bool) (hq : ∀ x ∈ l, Pure Tryd.prog tabG g (x.pv :: cs) (.bool (q x))) (hl : l.length ≤ 300) :
    Lent Tryd.prog tabG 1 117 [.row 0 7 0 l.length, .pv (.clo g [] cs)] [.cells 127 false ((rowP l).map .pv)] (.pv (.int .i64 (fstI q l 0))) [.cells 127 false ((rowP l).map .pv)] := by
  have hrl := rowP_len l
  refine Lent.intro F117_ok (by simp [F117]) ?_
  simp (disch := first | exact dI | fail) only [F117o0, F117o1, F117o2, F117o3, F117o4, F117o5, F117o6, F117b7, F117o8, F117c, F117, push_cast, ↓reduceIte, qa, qb, qc, qd, qe, qf, qg, qh, qi]
  refine vc_over ([]) (fun m : Nat => [(8, .pv (.int .i64 (m : Int)))]) (fun m => []) (fun m => m ≤ l.length ∧ fstI q l 0 = fstI q (l.drop m) m) (fun m => l.length - m) (0) ?_; intro e0 σ0 n0 h0; simp (disch := first | exact dI | fail) only [push_cast, ↓reduceIte, qa, qb, qc, qd, qe, qf, qg, qh, qi] at h0; obtain ⟨rfl, rfl, rfl⟩ := h0; refine ⟨?_, ?_, ?_⟩
  · simp (disch := first | exact dI | fail) only [push_cast, ↓reduceIte, qa, qb, qc, qd, qe, qf, qg, qh, qi]
  · exact ⟨by omega, by simp⟩
  · rintro m ⟨hm, he⟩
    by_cases hlt : m < l.length
    · have hltI : (m : Int) < l.length := by omega
      obtain ⟨x, hx⟩ : ∃ x, l[m]? = some x := ⟨_, List.getElem?_eq_getElem hlt⟩
      have hcall := hq x (List.mem_of_getElem? hx)
      have hld := rowP_load hx
      simp (disch := first | exact dI | fail) only [hx, hld, Fld.cells_len, Fld.isAgg, push_cast, ↓reduceIte, qa, qb, qc, qd, qe, qf, qg, qh, qi]
      refine ACall.pure hcall (by exact pvs_pv (x.pv :: cs)) ?_
      cases hqx : q x with
      | true =>
        rw [he, fst_hit hx hqx]
        simp (disch := first | exact dI | fail) only [push_cast, ↓reduceIte, qa, qb, qc, qd, qe, qf, qg, qh, qi]
        exact lent_z [] (by simp (disch := first | exact dI | fail) only [push_cast, ↓reduceIte, qa, qb, qc, qd, qe, qf, qg, qh, qi])
      | false =>
        rw [fst_miss hx hqx] at he
        simp (disch := first | exact dI | fail) only [push_cast, ↓reduceIte, qa, qb, qc, qd, qe, qf, qg, qh, qi]
        exact ⟨m + 1, hd_z (by simp (disch := first | exact dI | fail) only [push_cast, ↓reduceIte, qa, qb, qc, qd, qe, qf, qg, qh, qi]), ⟨by omega, he⟩, by omega⟩
    · have hltI : ¬ (m : Int) < l.length := by omega
      rw [he, fst_end hlt]
      simp (disch := first | exact dI | fail) only [push_cast, ↓reduceIte, qa, qb, qc, qd, qe, qf, qg, qh, qi]
      exact lent_z [] (by simp (disch := first | exact dI | fail) only [push_cast, ↓reduceIte, qa, qb, qc, qd, qe, qf, qg, qh, qi])
end Go.Proofs.YtikmckfppnmlnaaDoor
