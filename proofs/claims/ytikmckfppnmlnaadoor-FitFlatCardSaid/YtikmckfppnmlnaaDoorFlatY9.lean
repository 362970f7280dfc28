/- A part of the proof for FitFlatCardSaid. -/
import Derived.Test.YtikmckfppnmlnaaDoorFlatYTy
import Derived.Test.YtikmckfppnmlnaaDoorCore4
set_option maxRecDepth 100000
set_option linter.unusedVariables false
set_option linter.unusedSimpArgs false
namespace Go.Proofs.YtikmckfppnmlnaaDoor
open Go Go.Ab
attribute [local irreducible] vc

theorem index94 (l : List TFd) (g : Nat) (cs : List PV) (q : TFd → Bool) (hq : ∀ x ∈ l, Pure Tryd.prog tabG g (x.pv :: cs) (.bool (q x))) (hl : l.length ≤ 1000000000) :
    Pure Tryd.prog tabG 94 [.list (l.map TFd.pv), .clo g [] cs] (.int .i64 (fstI q l 0)) := by
  refine Pure.intro F94_ok (by simp [F94]) ?_
  simp (config := { maxSteps := 1000000 }) (disch := first | exact chk_rfl | (unfold Chk; decide +kernel) | (refine chk_of ?_; with_unfolding_all rfl) | omega | (simp only [cells_agg, List.length_cons, List.length_nil, List.length_map, List.length_take, List.length_append, Nat.zero_add, Nat.reduceAdd]; first | done | omega) | fail) only [F94o0, F94o1, F94o2, F94o3, F94o4, F94o5, F94o6, F94b7, F94o8, F94c, F94, push_cast, ↓reduceIte, Nat.reduceEqDiff, Nat.reduceAdd, Nat.reduceMul, Nat.reduceLeDiff, Nat.reduceLT, Nat.reduceBEq, Nat.reduceSub, Int.reduceToNat, Int.reduceNeg]
  refine vc_over ([]) (fun m : Nat => [(8, .pv (.int .i64 (m : Int)))]) (fun m => []) (fun m => m ≤ l.length ∧ fstI q l 0 = fstI q (l.drop m) m) (fun m => l.length - m) (0) ?_; intro e0 σ0 n0 h0; simp (config := { maxSteps := 1000000 }) (disch := first | exact chk_rfl | (unfold Chk; decide +kernel) | (refine chk_of ?_; with_unfolding_all rfl) | omega | (simp only [cells_agg, List.length_cons, List.length_nil, List.length_map, List.length_take, List.length_append, Nat.zero_add, Nat.reduceAdd]; first | done | omega) | fail) only [push_cast, ↓reduceIte, Nat.reduceEqDiff, Nat.reduceAdd, Nat.reduceMul, Nat.reduceLeDiff, Nat.reduceLT, Nat.reduceBEq, Nat.reduceSub, Int.reduceToNat, Int.reduceNeg] at h0; obtain ⟨rfl, rfl, rfl⟩ := h0; refine ⟨?_, ?_, ?_⟩
  · simp (config := { maxSteps := 1000000 }) (disch := first | exact chk_rfl | (unfold Chk; decide +kernel) | (refine chk_of ?_; with_unfolding_all rfl) | omega | (simp only [cells_agg, List.length_cons, List.length_nil, List.length_map, List.length_take, List.length_append, Nat.zero_add, Nat.reduceAdd]; first | done | omega) | fail) only [push_cast, ↓reduceIte, Nat.reduceEqDiff, Nat.reduceAdd, Nat.reduceMul, Nat.reduceLeDiff, Nat.reduceLT, Nat.reduceBEq, Nat.reduceSub, Int.reduceToNat, Int.reduceNeg]
  · exact ⟨by omega, by simp⟩
  · rintro m ⟨hm, he⟩
    by_cases hlt : m < l.length
    · have hltI : (m : Int) < l.length := by omega
      obtain ⟨x, hx⟩ : ∃ x, l[m]? = some x := ⟨_, List.getElem?_eq_getElem hlt⟩
      have hcall := hq x (List.mem_of_getElem? hx)
      simp (config := { maxSteps := 1000000 }) (disch := first | exact chk_rfl | (unfold Chk; decide +kernel) | (refine chk_of ?_; with_unfolding_all rfl) | omega | (simp only [cells_agg, List.length_cons, List.length_nil, List.length_map, List.length_take, List.length_append, Nat.zero_add, Nat.reduceAdd]; first | done | omega) | fail) only [hx, TFd.cells_len, TFd.isAgg, push_cast, ↓reduceIte, Nat.reduceEqDiff, Nat.reduceAdd, Nat.reduceMul, Nat.reduceLeDiff, Nat.reduceLT, Nat.reduceBEq, Nat.reduceSub, Int.reduceToNat, Int.reduceNeg]
      refine ACall.pure hcall (by exact pvs_pv (x.pv :: cs)) ?_
      cases hqx : q x with
      | true =>
        rw [he, fst_hit hx hqx]
        simp (config := { maxSteps := 1000000 }) (disch := first | exact chk_rfl | (unfold Chk; decide +kernel) | (refine chk_of ?_; with_unfolding_all rfl) | omega | (simp only [cells_agg, List.length_cons, List.length_nil, List.length_map, List.length_take, List.length_append, Nat.zero_add, Nat.reduceAdd]; first | done | omega) | fail) only [push_cast, ↓reduceIte, Nat.reduceEqDiff, Nat.reduceAdd, Nat.reduceMul, Nat.reduceLeDiff, Nat.reduceLT, Nat.reduceBEq, Nat.reduceSub, Int.reduceToNat, Int.reduceNeg]
      | false =>
        rw [fst_miss hx hqx] at he
        simp (config := { maxSteps := 1000000 }) (disch := first | exact chk_rfl | (unfold Chk; decide +kernel) | (refine chk_of ?_; with_unfolding_all rfl) | omega | (simp only [cells_agg, List.length_cons, List.length_nil, List.length_map, List.length_take, List.length_append, Nat.zero_add, Nat.reduceAdd]; first | done | omega) | fail) only [push_cast, ↓reduceIte, Nat.reduceEqDiff, Nat.reduceAdd, Nat.reduceMul, Nat.reduceLeDiff, Nat.reduceLT, Nat.reduceBEq, Nat.reduceSub, Int.reduceToNat, Int.reduceNeg]
        exact ⟨m + 1, hd_z (by simp (config := { maxSteps := 1000000 }) (disch := first | exact chk_rfl | (unfold Chk; decide +kernel) | (refine chk_of ?_; with_unfolding_all rfl) | omega | (simp only [cells_agg, List.length_cons, List.length_nil, List.length_map, List.length_take, List.length_append, Nat.zero_add, Nat.reduceAdd]; first | done | omega) | fail) only [push_cast, ↓reduceIte, Nat.reduceEqDiff, Nat.reduceAdd, Nat.reduceMul, Nat.reduceLeDiff, Nat.reduceLT, Nat.reduceBEq, Nat.reduceSub, Int.reduceToNat, Int.reduceNeg]), ⟨by omega, he⟩, by omega⟩
    · have hltI : ¬ (m : Int) < l.length := by omega
      rw [he, fst_end hlt]
      simp (config := { maxSteps := 1000000 }) (disch := first | exact chk_rfl | (unfold Chk; decide +kernel) | (refine chk_of ?_; with_unfolding_all rfl) | omega | (simp only [cells_agg, List.length_cons, List.length_nil, List.length_map, List.length_take, List.length_append, Nat.zero_add, Nat.reduceAdd]; first | done | omega) | fail) only [push_cast, ↓reduceIte, Nat.reduceEqDiff, Nat.reduceAdd, Nat.reduceMul, Nat.reduceLeDiff, Nat.reduceLT, Nat.reduceBEq, Nat.reduceSub, Int.reduceToNat, Int.reduceNeg]

theorem contains64 (l : List TFd) (g : Nat) (cs : List PV) (q : TFd → Bool) (hq : ∀ x ∈ l, Pure Tryd.prog tabG g (x.pv :: cs) (.bool (q x))) (hl : l.length ≤ 1000000000) :
    Pure Tryd.prog tabG 64 [.list (l.map TFd.pv), .clo g [] cs] (.bool (l.any q)) := by
  have h94 := index94 l g cs q hq hl
  have hfa := find_any (p := q) l
  refine Pure.intro F64_ok (by simp [F64]) ?_
  rcases fst_find (p := q) l 0 with ⟨h1, h2⟩ | ⟨k, x, h1, h2, h3⟩
  · rw [h2] at h94
    rw [h1] at hfa
    rw [← hfa]
    simp (config := { maxSteps := 1000000 }) (disch := first | exact chk_rfl | (unfold Chk; decide +kernel) | (refine chk_of ?_; with_unfolding_all rfl) | omega | (simp only [cells_agg, List.length_cons, List.length_nil, List.length_map, List.length_take, List.length_append, Nat.zero_add, Nat.reduceAdd]; first | done | omega) | fail) only [F64o0, F64o1, F64c, F64, push_cast, ↓reduceIte, Nat.reduceEqDiff, Nat.reduceAdd, Nat.reduceMul, Nat.reduceLeDiff, Nat.reduceLT, Nat.reduceBEq, Nat.reduceSub, Int.reduceToNat, Int.reduceNeg]
    refine ACall.pure h94 rfl ?_
    simp (config := { maxSteps := 1000000 }) (disch := first | exact chk_rfl | (unfold Chk; decide +kernel) | (refine chk_of ?_; with_unfolding_all rfl) | omega | (simp only [cells_agg, List.length_cons, List.length_nil, List.length_map, List.length_take, List.length_append, Nat.zero_add, Nat.reduceAdd]; first | done | omega) | fail) only [push_cast, ↓reduceIte, Nat.reduceEqDiff, Nat.reduceAdd, Nat.reduceMul, Nat.reduceLeDiff, Nat.reduceLT, Nat.reduceBEq, Nat.reduceSub, Int.reduceToNat, Int.reduceNeg]
    exact .refl _
  · rw [h3] at h94
    rw [h2] at hfa
    rw [← hfa]
    have hk : (0 : Int) ≤ ((0 + k : Nat) : Int) := by omega
    generalize ((0 + k : Nat) : Int) = z at *
    simp (config := { maxSteps := 1000000 }) (disch := first | exact chk_rfl | (unfold Chk; decide +kernel) | (refine chk_of ?_; with_unfolding_all rfl) | omega | (simp only [cells_agg, List.length_cons, List.length_nil, List.length_map, List.length_take, List.length_append, Nat.zero_add, Nat.reduceAdd]; first | done | omega) | fail) only [F64o0, F64o1, F64c, F64, push_cast, ↓reduceIte, Nat.reduceEqDiff, Nat.reduceAdd, Nat.reduceMul, Nat.reduceLeDiff, Nat.reduceLT, Nat.reduceBEq, Nat.reduceSub, Int.reduceToNat, Int.reduceNeg]
    refine ACall.pure h94 rfl ?_
    simp (config := { maxSteps := 1000000 }) (disch := first | exact chk_rfl | (unfold Chk; decide +kernel) | (refine chk_of ?_; with_unfolding_all rfl) | omega | (simp only [cells_agg, List.length_cons, List.length_nil, List.length_map, List.length_take, List.length_append, Nat.zero_add, Nat.reduceAdd]; first | done | omega) | fail) only [push_cast, ↓reduceIte, Nat.reduceEqDiff, Nat.reduceAdd, Nat.reduceMul, Nat.reduceLeDiff, Nat.reduceLT, Nat.reduceBEq, Nat.reduceSub, Int.reduceToNat, Int.reduceNeg]
    exact .refl _

def deepF (f : TFd) : Bool := decide (f.typ.kind < 1) || decide (7 < f.typ.kind)
theorem deep65 (f : TFd) : Pure Tryd.prog tabG 65 [f.pv] (.bool (deepF f)) := by
  obtain ⟨a, b, c, ⟨k, m, n, s, w, e, fs⟩, d⟩ := f
  refine Pure.intro F65_ok (by simp [F65]) ?_
  simp only [deepF, TFd.typ, Typ.kind]
  by_cases h1 : k < 1
  · simp (config := { maxSteps := 1000000 }) (disch := first | exact chk_rfl | (unfold Chk; decide +kernel) | (refine chk_of ?_; with_unfolding_all rfl) | omega | (simp only [cells_agg, List.length_cons, List.length_nil, List.length_map, List.length_take, List.length_append, Nat.zero_add, Nat.reduceAdd]; first | done | omega) | fail) only [F65o0, F65o1, F65c, F65, TFd.pv_mk, Typ.pv_mk, push_cast, ↓reduceIte, Nat.reduceEqDiff, Nat.reduceAdd, Nat.reduceMul, Nat.reduceLeDiff, Nat.reduceLT, Nat.reduceBEq, Nat.reduceSub, Int.reduceToNat, Int.reduceNeg]
    simp [h1]
  · by_cases h2 : 7 < k
    · simp (config := { maxSteps := 1000000 }) (disch := first | exact chk_rfl | (unfold Chk; decide +kernel) | (refine chk_of ?_; with_unfolding_all rfl) | omega | (simp only [cells_agg, List.length_cons, List.length_nil, List.length_map, List.length_take, List.length_append, Nat.zero_add, Nat.reduceAdd]; first | done | omega) | fail) only [F65o0, F65o1, F65c, F65, TFd.pv_mk, Typ.pv_mk, push_cast, ↓reduceIte, Nat.reduceEqDiff, Nat.reduceAdd, Nat.reduceMul, Nat.reduceLeDiff, Nat.reduceLT, Nat.reduceBEq, Nat.reduceSub, Int.reduceToNat, Int.reduceNeg]
      simp [h1, h2]
    · simp (config := { maxSteps := 1000000 }) (disch := first | exact chk_rfl | (unfold Chk; decide +kernel) | (refine chk_of ?_; with_unfolding_all rfl) | omega | (simp only [cells_agg, List.length_cons, List.length_nil, List.length_map, List.length_take, List.length_append, Nat.zero_add, Nat.reduceAdd]; first | done | omega) | fail) only [F65o0, F65o1, F65c, F65, TFd.pv_mk, Typ.pv_mk, push_cast, ↓reduceIte, Nat.reduceEqDiff, Nat.reduceAdd, Nat.reduceMul, Nat.reduceLeDiff, Nat.reduceLT, Nat.reduceBEq, Nat.reduceSub, Int.reduceToNat, Int.reduceNeg]
      simp [h1, h2]

def flatT : Typ → Bool
  | .mk k _ _ _ _ _ f => decide (k = 9) && (decide (0 < f.length) && !(f.any deepF))
theorem flat28 (t : Typ) (h : t.fields.length ≤ 1000000) : Pure Tryd.prog tabG 28 [t.pv] (.bool (flatT t)) := by
  obtain ⟨k, m, n, s, w, e, f⟩ := t
  simp only [Typ.fields] at h
  have h64 := contains64 f 65 [] deepF (fun x _ => deep65 x) (by omega)
  refine Pure.intro F28_ok (by simp [F28]) ?_
  simp only [flatT]
  by_cases h1 : k = 9
  · by_cases h2 : 0 < f.length
    · have h2I : (0 : Int) < f.length := by omega
      simp (config := { maxSteps := 1000000 }) (disch := first | exact chk_rfl | (unfold Chk; decide +kernel) | (refine chk_of ?_; with_unfolding_all rfl) | omega | (simp only [cells_agg, List.length_cons, List.length_nil, List.length_map, List.length_take, List.length_append, Nat.zero_add, Nat.reduceAdd]; first | done | omega) | fail) only [F28o0, F28o1, F28c, F28, Typ.pv_mk, h1, push_cast, ↓reduceIte, Nat.reduceEqDiff, Nat.reduceAdd, Nat.reduceMul, Nat.reduceLeDiff, Nat.reduceLT, Nat.reduceBEq, Nat.reduceSub, Int.reduceToNat, Int.reduceNeg]
      refine ACall.pure h64 rfl ?_
      simp (config := { maxSteps := 1000000 }) (disch := first | exact chk_rfl | (unfold Chk; decide +kernel) | (refine chk_of ?_; with_unfolding_all rfl) | omega | (simp only [cells_agg, List.length_cons, List.length_nil, List.length_map, List.length_take, List.length_append, Nat.zero_add, Nat.reduceAdd]; first | done | omega) | fail) only [push_cast, ↓reduceIte, Nat.reduceEqDiff, Nat.reduceAdd, Nat.reduceMul, Nat.reduceLeDiff, Nat.reduceLT, Nat.reduceBEq, Nat.reduceSub, Int.reduceToNat, Int.reduceNeg]
    · have h2I : ¬ (0 : Int) < f.length := by omega
      simp (config := { maxSteps := 1000000 }) (disch := first | exact chk_rfl | (unfold Chk; decide +kernel) | (refine chk_of ?_; with_unfolding_all rfl) | omega | (simp only [cells_agg, List.length_cons, List.length_nil, List.length_map, List.length_take, List.length_append, Nat.zero_add, Nat.reduceAdd]; first | done | omega) | fail) only [F28o0, F28o1, F28c, F28, Typ.pv_mk, h1, push_cast, ↓reduceIte, Nat.reduceEqDiff, Nat.reduceAdd, Nat.reduceMul, Nat.reduceLeDiff, Nat.reduceLT, Nat.reduceBEq, Nat.reduceSub, Int.reduceToNat, Int.reduceNeg]
  · simp (config := { maxSteps := 1000000 }) (disch := first | exact chk_rfl | (unfold Chk; decide +kernel) | (refine chk_of ?_; with_unfolding_all rfl) | omega | (simp only [cells_agg, List.length_cons, List.length_nil, List.length_map, List.length_take, List.length_append, Nat.zero_add, Nat.reduceAdd]; first | done | omega) | fail) only [F28o0, F28o1, F28c, F28, Typ.pv_mk, h1, push_cast, ↓reduceIte, Nat.reduceEqDiff, Nat.reduceAdd, Nat.reduceMul, Nat.reduceLeDiff, Nat.reduceLT, Nat.reduceBEq, Nat.reduceSub, Int.reduceToNat, Int.reduceNeg]

theorem shortTF_typ (rec : Typ → Typ) (f : TFd) : (shortTF rec f).typ = rec f.typ := by
  obtain ⟨a, b, c, t, d⟩ := f; rfl
theorem shortT_len (n : Nat) (t : Typ) : (shortT n t).fields.length ≤ 6 := by
  obtain ⟨k, a, b, c, w, e, f⟩ := t
  cases n with
  | zero => simp [shortT, shortT1, Typ.fields]
  | succ n => simp only [shortT, shortT1, Typ.fields]; split <;> simp <;> omega

/-- The law's own answer, up to a field. -/
def wantF (k : Int) (f : List TFd) (m : Nat) : Bool := decide (k = 9) && (decide (0 < f.length) && !((f.take m).any deepF))
theorem wantF_snoc {k : Int} {f : List TFd} {m : Nat} {x : TFd} (h : f[m]? = some x) : wantF k f (m + 1) = (wantF k f m && (decide (1 ≤ x.typ.kind) && decide (x.typ.kind ≤ 7))) := by
  simp only [wantF, take_snoc h, List.any_append, List.any_cons, List.any_nil, Bool.or_false, Bool.not_or, deepF]
  have e1 : (!decide (x.typ.kind < 1)) = decide (1 ≤ x.typ.kind) := by
    by_cases h : x.typ.kind < 1
    · simp [h] <;> omega
    · simp [h] <;> omega
  have e2 : (!decide (7 < x.typ.kind)) = decide (x.typ.kind ≤ 7) := by
    by_cases h : 7 < x.typ.kind
    · simp [h]
    · simp [h]; omega
  rw [e1, e2]
  cases decide (k = 9) <;> cases decide (0 < f.length) <;> simp

set_option maxHeartbeats 2000000 in
theorem flat_law (t : Typ) (ht : t.ok) : Pure Tryd.prog tabG 7 [t.pv] (.bool true) := by
  have h27 := shortT_pure 4 (by omega) t ht
  have hlen := shortT_len 4 t
  have h28 := flat28 (shortT 4 t) (by omega)
  refine Pure.intro F7_ok (by simp [F7]) ?_
  generalize shortT 4 t = T at *
  obtain ⟨k, a, b, c, w, e, f⟩ := T
  obtain ⟨k', a', b', c', w', e', f'⟩ := t
  simp only [Typ.fields] at hlen
  rw [Typ.pv_mk] at h27 h28
  rw [Typ.pv_mk] at h27
  have hfin : wantF k f f.length = flatT (.mk k a b c w e f) := by simp [wantF, flatT]
  have h0 : wantF k f 0 = (decide (k = 9) && decide (0 < f.length)) := by simp [wantF]
  have hI0 : (decide ((0 : Int) < f.length)) = decide (0 < f.length) := by
    by_cases h : 0 < f.length
    · simp [h]
    · simp [h]
  have hbody : ∀ (B : Bool), B = wantF k f 0 → True := fun _ _ => trivial
  by_cases hk : k = 9
  · subst hk
    simp only [decide_true, Bool.true_and] at h0
    simp (config := { maxSteps := 1000000 }) (disch := first | exact chk_rfl | (unfold Chk; decide +kernel) | (refine chk_of ?_; with_unfolding_all rfl) | omega | (simp only [cells_agg, List.length_cons, List.length_nil, List.length_map, List.length_take, List.length_append, Nat.zero_add, Nat.reduceAdd]; first | done | omega) | fail) only [F7o0, F7o1, F7o2, F7o3, F7o4, F7o5, F7o6, F7o7, F7b8, F7o9, F7c, F7, Typ.pv_mk, push_cast, ↓reduceIte, Nat.reduceEqDiff, Nat.reduceAdd, Nat.reduceMul, Nat.reduceLeDiff, Nat.reduceLT, Nat.reduceBEq, Nat.reduceSub, Int.reduceToNat, Int.reduceNeg]
    refine ACall.pure h27 rfl ?_
    simp (config := { maxSteps := 1000000 }) (disch := first | exact chk_rfl | (unfold Chk; decide +kernel) | (refine chk_of ?_; with_unfolding_all rfl) | omega | (simp only [cells_agg, List.length_cons, List.length_nil, List.length_map, List.length_take, List.length_append, Nat.zero_add, Nat.reduceAdd]; first | done | omega) | fail) only [hI0, ← h0, push_cast, ↓reduceIte, Nat.reduceEqDiff, Nat.reduceAdd, Nat.reduceMul, Nat.reduceLeDiff, Nat.reduceLT, Nat.reduceBEq, Nat.reduceSub, Int.reduceToNat, Int.reduceNeg]
    refine vc_over ([]) (fun m : Nat => [(3, .pv (.bool (wantF 9 f m))), (4, .pv (.int .i64 (m : Int)))]) (fun m => []) (fun m => m ≤ f.length) (fun m => f.length - m) (0) ?_; intro e0 σ0 n0 h0; simp (config := { maxSteps := 1000000 }) (disch := first | exact chk_rfl | (unfold Chk; decide +kernel) | (refine chk_of ?_; with_unfolding_all rfl) | omega | (simp only [cells_agg, List.length_cons, List.length_nil, List.length_map, List.length_take, List.length_append, Nat.zero_add, Nat.reduceAdd]; first | done | omega) | fail) only [push_cast, ↓reduceIte, Nat.reduceEqDiff, Nat.reduceAdd, Nat.reduceMul, Nat.reduceLeDiff, Nat.reduceLT, Nat.reduceBEq, Nat.reduceSub, Int.reduceToNat, Int.reduceNeg] at h0; obtain ⟨rfl, rfl, rfl⟩ := h0; refine ⟨?_, ?_, ?_⟩
    · simp (config := { maxSteps := 1000000 }) (disch := first | exact chk_rfl | (unfold Chk; decide +kernel) | (refine chk_of ?_; with_unfolding_all rfl) | omega | (simp only [cells_agg, List.length_cons, List.length_nil, List.length_map, List.length_take, List.length_append, Nat.zero_add, Nat.reduceAdd]; first | done | omega) | fail) only [push_cast, ↓reduceIte, Nat.reduceEqDiff, Nat.reduceAdd, Nat.reduceMul, Nat.reduceLeDiff, Nat.reduceLT, Nat.reduceBEq, Nat.reduceSub, Int.reduceToNat, Int.reduceNeg]
    · omega
    · intro m hm
      by_cases hlt : m < f.length
      · have hltI : (m : Int) < f.length := by omega
        obtain ⟨x, hx⟩ : ∃ x, f[m]? = some x := ⟨_, List.getElem?_eq_getElem hlt⟩
        have hs := wantF_snoc (k := 9) hx
        obtain ⟨x1, x2, x3, ⟨y1, y2, y3, y4, y5, y6, y7⟩, x5⟩ := x
        simp only [TFd.typ, Typ.kind] at hs
        cases hw : wantF 9 f m with
        | false =>
          simp (config := { maxSteps := 1000000 }) (disch := first | exact chk_rfl | (unfold Chk; decide +kernel) | (refine chk_of ?_; with_unfolding_all rfl) | omega | (simp only [cells_agg, List.length_cons, List.length_nil, List.length_map, List.length_take, List.length_append, Nat.zero_add, Nat.reduceAdd]; first | done | omega) | fail) only [hx, TFd.pv_mk, Typ.pv_mk, hw, push_cast, ↓reduceIte, Nat.reduceEqDiff, Nat.reduceAdd, Nat.reduceMul, Nat.reduceLeDiff, Nat.reduceLT, Nat.reduceBEq, Nat.reduceSub, Int.reduceToNat, Int.reduceNeg]
          exact ⟨m + 1, hd_z (by simp (config := { maxSteps := 1000000 }) (disch := first | exact chk_rfl | (unfold Chk; decide +kernel) | (refine chk_of ?_; with_unfolding_all rfl) | omega | (simp only [cells_agg, List.length_cons, List.length_nil, List.length_map, List.length_take, List.length_append, Nat.zero_add, Nat.reduceAdd]; first | done | omega) | fail) only [hs, hw, push_cast, ↓reduceIte, Nat.reduceEqDiff, Nat.reduceAdd, Nat.reduceMul, Nat.reduceLeDiff, Nat.reduceLT, Nat.reduceBEq, Nat.reduceSub, Int.reduceToNat, Int.reduceNeg]), by omega, by omega⟩
        | true =>
          by_cases h1 : 1 ≤ y1
          · simp (config := { maxSteps := 1000000 }) (disch := first | exact chk_rfl | (unfold Chk; decide +kernel) | (refine chk_of ?_; with_unfolding_all rfl) | omega | (simp only [cells_agg, List.length_cons, List.length_nil, List.length_map, List.length_take, List.length_append, Nat.zero_add, Nat.reduceAdd]; first | done | omega) | fail) only [hx, TFd.pv_mk, Typ.pv_mk, hw, push_cast, ↓reduceIte, Nat.reduceEqDiff, Nat.reduceAdd, Nat.reduceMul, Nat.reduceLeDiff, Nat.reduceLT, Nat.reduceBEq, Nat.reduceSub, Int.reduceToNat, Int.reduceNeg]
            exact ⟨m + 1, hd_z (by simp (config := { maxSteps := 1000000 }) (disch := first | exact chk_rfl | (unfold Chk; decide +kernel) | (refine chk_of ?_; with_unfolding_all rfl) | omega | (simp only [cells_agg, List.length_cons, List.length_nil, List.length_map, List.length_take, List.length_append, Nat.zero_add, Nat.reduceAdd]; first | done | omega) | fail) only [hs, hw, push_cast, ↓reduceIte, Nat.reduceEqDiff, Nat.reduceAdd, Nat.reduceMul, Nat.reduceLeDiff, Nat.reduceLT, Nat.reduceBEq, Nat.reduceSub, Int.reduceToNat, Int.reduceNeg]; by_cases h9 : y1 ≤ 7 <;> simp [h1, h9]), by omega, by omega⟩
          · simp (config := { maxSteps := 1000000 }) (disch := first | exact chk_rfl | (unfold Chk; decide +kernel) | (refine chk_of ?_; with_unfolding_all rfl) | omega | (simp only [cells_agg, List.length_cons, List.length_nil, List.length_map, List.length_take, List.length_append, Nat.zero_add, Nat.reduceAdd]; first | done | omega) | fail) only [hx, TFd.pv_mk, Typ.pv_mk, hw, push_cast, ↓reduceIte, Nat.reduceEqDiff, Nat.reduceAdd, Nat.reduceMul, Nat.reduceLeDiff, Nat.reduceLT, Nat.reduceBEq, Nat.reduceSub, Int.reduceToNat, Int.reduceNeg]
            exact ⟨m + 1, hd_z (by simp (config := { maxSteps := 1000000 }) (disch := first | exact chk_rfl | (unfold Chk; decide +kernel) | (refine chk_of ?_; with_unfolding_all rfl) | omega | (simp only [cells_agg, List.length_cons, List.length_nil, List.length_map, List.length_take, List.length_append, Nat.zero_add, Nat.reduceAdd]; first | done | omega) | fail) only [hs, hw, push_cast, ↓reduceIte, Nat.reduceEqDiff, Nat.reduceAdd, Nat.reduceMul, Nat.reduceLeDiff, Nat.reduceLT, Nat.reduceBEq, Nat.reduceSub, Int.reduceToNat, Int.reduceNeg]; by_cases h9 : y1 ≤ 7 <;> simp [h1, h9]), by omega, by omega⟩
      · have hltI : ¬ (m : Int) < f.length := by omega
        obtain rfl : m = f.length := by omega
        simp (config := { maxSteps := 1000000 }) (disch := first | exact chk_rfl | (unfold Chk; decide +kernel) | (refine chk_of ?_; with_unfolding_all rfl) | omega | (simp only [cells_agg, List.length_cons, List.length_nil, List.length_map, List.length_take, List.length_append, Nat.zero_add, Nat.reduceAdd]; first | done | omega) | fail) only [hfin, push_cast, ↓reduceIte, Nat.reduceEqDiff, Nat.reduceAdd, Nat.reduceMul, Nat.reduceLeDiff, Nat.reduceLT, Nat.reduceBEq, Nat.reduceSub, Int.reduceToNat, Int.reduceNeg]
        refine ACall.pure known_ok rfl ?_
        simp (config := { maxSteps := 1000000 }) (disch := first | exact chk_rfl | (unfold Chk; decide +kernel) | (refine chk_of ?_; with_unfolding_all rfl) | omega | (simp only [cells_agg, List.length_cons, List.length_nil, List.length_map, List.length_take, List.length_append, Nat.zero_add, Nat.reduceAdd]; first | done | omega) | fail) only [push_cast, ↓reduceIte, Nat.reduceEqDiff, Nat.reduceAdd, Nat.reduceMul, Nat.reduceLeDiff, Nat.reduceLT, Nat.reduceBEq, Nat.reduceSub, Int.reduceToNat, Int.reduceNeg]
        refine ACall.pure h28 rfl ?_
        simp (config := { maxSteps := 1000000 }) (disch := first | exact chk_rfl | (unfold Chk; decide +kernel) | (refine chk_of ?_; with_unfolding_all rfl) | omega | (simp only [cells_agg, List.length_cons, List.length_nil, List.length_map, List.length_take, List.length_append, Nat.zero_add, Nat.reduceAdd]; first | done | omega) | fail) only [push_cast, ↓reduceIte, Nat.reduceEqDiff, Nat.reduceAdd, Nat.reduceMul, Nat.reduceLeDiff, Nat.reduceLT, Nat.reduceBEq, Nat.reduceSub, Int.reduceToNat, Int.reduceNeg]
        simp
  · simp only [decide_eq_false hk, Bool.false_and] at h0
    simp (config := { maxSteps := 1000000 }) (disch := first | exact chk_rfl | (unfold Chk; decide +kernel) | (refine chk_of ?_; with_unfolding_all rfl) | omega | (simp only [cells_agg, List.length_cons, List.length_nil, List.length_map, List.length_take, List.length_append, Nat.zero_add, Nat.reduceAdd]; first | done | omega) | fail) only [F7o0, F7o1, F7o2, F7o3, F7o4, F7o5, F7o6, F7o7, F7b8, F7o9, F7c, F7, Typ.pv_mk, push_cast, ↓reduceIte, Nat.reduceEqDiff, Nat.reduceAdd, Nat.reduceMul, Nat.reduceLeDiff, Nat.reduceLT, Nat.reduceBEq, Nat.reduceSub, Int.reduceToNat, Int.reduceNeg]
    refine ACall.pure h27 rfl ?_
    simp (config := { maxSteps := 1000000 }) (disch := first | exact chk_rfl | (unfold Chk; decide +kernel) | (refine chk_of ?_; with_unfolding_all rfl) | omega | (simp only [cells_agg, List.length_cons, List.length_nil, List.length_map, List.length_take, List.length_append, Nat.zero_add, Nat.reduceAdd]; first | done | omega) | fail) only [hk, push_cast, ↓reduceIte, Nat.reduceEqDiff, Nat.reduceAdd, Nat.reduceMul, Nat.reduceLeDiff, Nat.reduceLT, Nat.reduceBEq, Nat.reduceSub, Int.reduceToNat, Int.reduceNeg]
    refine vc_over ([]) (fun m : Nat => [(3, .pv (.bool (wantF k f m))), (4, .pv (.int .i64 (m : Int)))]) (fun m => []) (fun m => m ≤ f.length) (fun m => f.length - m) (0) ?_; intro e0 σ0 n0 h0; simp (config := { maxSteps := 1000000 }) (disch := first | exact chk_rfl | (unfold Chk; decide +kernel) | (refine chk_of ?_; with_unfolding_all rfl) | omega | (simp only [cells_agg, List.length_cons, List.length_nil, List.length_map, List.length_take, List.length_append, Nat.zero_add, Nat.reduceAdd]; first | done | omega) | fail) only [push_cast, ↓reduceIte, Nat.reduceEqDiff, Nat.reduceAdd, Nat.reduceMul, Nat.reduceLeDiff, Nat.reduceLT, Nat.reduceBEq, Nat.reduceSub, Int.reduceToNat, Int.reduceNeg] at h0; obtain ⟨rfl, rfl, rfl⟩ := h0; refine ⟨?_, ?_, ?_⟩
    · simp (config := { maxSteps := 1000000 }) (disch := first | exact chk_rfl | (unfold Chk; decide +kernel) | (refine chk_of ?_; with_unfolding_all rfl) | omega | (simp only [cells_agg, List.length_cons, List.length_nil, List.length_map, List.length_take, List.length_append, Nat.zero_add, Nat.reduceAdd]; first | done | omega) | fail) only [h0, push_cast, ↓reduceIte, Nat.reduceEqDiff, Nat.reduceAdd, Nat.reduceMul, Nat.reduceLeDiff, Nat.reduceLT, Nat.reduceBEq, Nat.reduceSub, Int.reduceToNat, Int.reduceNeg]
    · omega
    · intro m hm
      by_cases hlt : m < f.length
      · have hltI : (m : Int) < f.length := by omega
        obtain ⟨x, hx⟩ : ∃ x, f[m]? = some x := ⟨_, List.getElem?_eq_getElem hlt⟩
        have hs := wantF_snoc (k := k) hx
        obtain ⟨x1, x2, x3, ⟨y1, y2, y3, y4, y5, y6, y7⟩, x5⟩ := x
        simp only [TFd.typ, Typ.kind] at hs
        cases hw : wantF k f m with
        | false =>
          simp (config := { maxSteps := 1000000 }) (disch := first | exact chk_rfl | (unfold Chk; decide +kernel) | (refine chk_of ?_; with_unfolding_all rfl) | omega | (simp only [cells_agg, List.length_cons, List.length_nil, List.length_map, List.length_take, List.length_append, Nat.zero_add, Nat.reduceAdd]; first | done | omega) | fail) only [hx, TFd.pv_mk, Typ.pv_mk, hw, push_cast, ↓reduceIte, Nat.reduceEqDiff, Nat.reduceAdd, Nat.reduceMul, Nat.reduceLeDiff, Nat.reduceLT, Nat.reduceBEq, Nat.reduceSub, Int.reduceToNat, Int.reduceNeg]
          exact ⟨m + 1, hd_z (by simp (config := { maxSteps := 1000000 }) (disch := first | exact chk_rfl | (unfold Chk; decide +kernel) | (refine chk_of ?_; with_unfolding_all rfl) | omega | (simp only [cells_agg, List.length_cons, List.length_nil, List.length_map, List.length_take, List.length_append, Nat.zero_add, Nat.reduceAdd]; first | done | omega) | fail) only [hs, hw, push_cast, ↓reduceIte, Nat.reduceEqDiff, Nat.reduceAdd, Nat.reduceMul, Nat.reduceLeDiff, Nat.reduceLT, Nat.reduceBEq, Nat.reduceSub, Int.reduceToNat, Int.reduceNeg]), by omega, by omega⟩
        | true =>
          by_cases h1 : 1 ≤ y1
          · simp (config := { maxSteps := 1000000 }) (disch := first | exact chk_rfl | (unfold Chk; decide +kernel) | (refine chk_of ?_; with_unfolding_all rfl) | omega | (simp only [cells_agg, List.length_cons, List.length_nil, List.length_map, List.length_take, List.length_append, Nat.zero_add, Nat.reduceAdd]; first | done | omega) | fail) only [hx, TFd.pv_mk, Typ.pv_mk, hw, push_cast, ↓reduceIte, Nat.reduceEqDiff, Nat.reduceAdd, Nat.reduceMul, Nat.reduceLeDiff, Nat.reduceLT, Nat.reduceBEq, Nat.reduceSub, Int.reduceToNat, Int.reduceNeg]
            exact ⟨m + 1, hd_z (by simp (config := { maxSteps := 1000000 }) (disch := first | exact chk_rfl | (unfold Chk; decide +kernel) | (refine chk_of ?_; with_unfolding_all rfl) | omega | (simp only [cells_agg, List.length_cons, List.length_nil, List.length_map, List.length_take, List.length_append, Nat.zero_add, Nat.reduceAdd]; first | done | omega) | fail) only [hs, hw, push_cast, ↓reduceIte, Nat.reduceEqDiff, Nat.reduceAdd, Nat.reduceMul, Nat.reduceLeDiff, Nat.reduceLT, Nat.reduceBEq, Nat.reduceSub, Int.reduceToNat, Int.reduceNeg]; by_cases h9 : y1 ≤ 7 <;> simp [h1, h9]), by omega, by omega⟩
          · simp (config := { maxSteps := 1000000 }) (disch := first | exact chk_rfl | (unfold Chk; decide +kernel) | (refine chk_of ?_; with_unfolding_all rfl) | omega | (simp only [cells_agg, List.length_cons, List.length_nil, List.length_map, List.length_take, List.length_append, Nat.zero_add, Nat.reduceAdd]; first | done | omega) | fail) only [hx, TFd.pv_mk, Typ.pv_mk, hw, push_cast, ↓reduceIte, Nat.reduceEqDiff, Nat.reduceAdd, Nat.reduceMul, Nat.reduceLeDiff, Nat.reduceLT, Nat.reduceBEq, Nat.reduceSub, Int.reduceToNat, Int.reduceNeg]
            exact ⟨m + 1, hd_z (by simp (config := { maxSteps := 1000000 }) (disch := first | exact chk_rfl | (unfold Chk; decide +kernel) | (refine chk_of ?_; with_unfolding_all rfl) | omega | (simp only [cells_agg, List.length_cons, List.length_nil, List.length_map, List.length_take, List.length_append, Nat.zero_add, Nat.reduceAdd]; first | done | omega) | fail) only [hs, hw, push_cast, ↓reduceIte, Nat.reduceEqDiff, Nat.reduceAdd, Nat.reduceMul, Nat.reduceLeDiff, Nat.reduceLT, Nat.reduceBEq, Nat.reduceSub, Int.reduceToNat, Int.reduceNeg]; by_cases h9 : y1 ≤ 7 <;> simp [h1, h9]), by omega, by omega⟩
      · have hltI : ¬ (m : Int) < f.length := by omega
        obtain rfl : m = f.length := by omega
        simp (config := { maxSteps := 1000000 }) (disch := first | exact chk_rfl | (unfold Chk; decide +kernel) | (refine chk_of ?_; with_unfolding_all rfl) | omega | (simp only [cells_agg, List.length_cons, List.length_nil, List.length_map, List.length_take, List.length_append, Nat.zero_add, Nat.reduceAdd]; first | done | omega) | fail) only [hfin, push_cast, ↓reduceIte, Nat.reduceEqDiff, Nat.reduceAdd, Nat.reduceMul, Nat.reduceLeDiff, Nat.reduceLT, Nat.reduceBEq, Nat.reduceSub, Int.reduceToNat, Int.reduceNeg]
        refine ACall.pure known_ok rfl ?_
        simp (config := { maxSteps := 1000000 }) (disch := first | exact chk_rfl | (unfold Chk; decide +kernel) | (refine chk_of ?_; with_unfolding_all rfl) | omega | (simp only [cells_agg, List.length_cons, List.length_nil, List.length_map, List.length_take, List.length_append, Nat.zero_add, Nat.reduceAdd]; first | done | omega) | fail) only [push_cast, ↓reduceIte, Nat.reduceEqDiff, Nat.reduceAdd, Nat.reduceMul, Nat.reduceLeDiff, Nat.reduceLT, Nat.reduceBEq, Nat.reduceSub, Int.reduceToNat, Int.reduceNeg]
        refine ACall.pure h28 rfl ?_
        simp (config := { maxSteps := 1000000 }) (disch := first | exact chk_rfl | (unfold Chk; decide +kernel) | (refine chk_of ?_; with_unfolding_all rfl) | omega | (simp only [cells_agg, List.length_cons, List.length_nil, List.length_map, List.length_take, List.length_append, Nat.zero_add, Nat.reduceAdd]; first | done | omega) | fail) only [push_cast, ↓reduceIte, Nat.reduceEqDiff, Nat.reduceAdd, Nat.reduceMul, Nat.reduceLeDiff, Nat.reduceLT, Nat.reduceBEq, Nat.reduceSub, Int.reduceToNat, Int.reduceNeg]
        simp
theorem flat_of (p0 : PV) (h0 : HasT Tryd.prog 58 p0) : Pure Tryd.prog tabG 7 [p0] (.bool true) := by
  obtain ⟨t, rfl, ht⟩ := hasT_Typ h0
  exact flat_law t ht
end Go.Proofs.YtikmckfppnmlnaaDoor
