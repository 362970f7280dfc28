/- A part of the proof for ResolveSchemasCardSaid. -/
import Derived.Test.YtfbakipopjoghaaDoorScheX5
set_option maxRecDepth 100000
set_option linter.unusedVariables false
set_option linter.unusedSimpArgs false
namespace Go.Proofs.YtfbakipopjoghaaDoor
open Go Go.Ab

def vsn (name : List UInt8) (version : Int) (x : Sch) : Bool := decide (x.name = name) && decide (x.version = version)

theorem clo59 (x : Sch) (name : List UInt8) (version : Int) : Pure Tryd.prog tabG 59 [x.pv, .eptr [.str name] 0 0, .eptr [.int .i64 version] 0 0] (.bool (vsn name version x)) := by
  obtain ⟨nm, ve, ty⟩ := x
  obtain ⟨w1, w2, w3, w4, w5, w6, w7⟩ := ty
  refine Pure.intro F59_ok (by simp [F59]) ?_
  by_cases h : nm = name
  · by_cases h2 : ve = version
    · simp (config := { maxSteps := 1000000 }) (disch := first | exact chk_rfl | (unfold Chk; decide +kernel) | omega | (simp only [cells_agg, List.length_cons, List.length_nil, List.length_map, List.length_take, List.length_append, Nat.zero_add, Nat.reduceAdd]; first | done | omega) | fail) only [F59o0, F59o1, F59c, F59, Sch.pv_mk, Typ.pv_mk, h, h2, eq_self, push_cast, ↓reduceIte, Nat.reduceEqDiff, Nat.reduceAdd, Nat.reduceMul, Nat.reduceLeDiff, Nat.reduceLT, Nat.reduceBEq, Nat.reduceSub, Int.reduceToNat, Int.reduceNeg]
      simp [vsn, Sch.name, Sch.version, h, h2]
    · simp (config := { maxSteps := 1000000 }) (disch := first | exact chk_rfl | (unfold Chk; decide +kernel) | omega | (simp only [cells_agg, List.length_cons, List.length_nil, List.length_map, List.length_take, List.length_append, Nat.zero_add, Nat.reduceAdd]; first | done | omega) | fail) only [F59o0, F59o1, F59c, F59, Sch.pv_mk, Typ.pv_mk, h, h2, eq_self, push_cast, ↓reduceIte, Nat.reduceEqDiff, Nat.reduceAdd, Nat.reduceMul, Nat.reduceLeDiff, Nat.reduceLT, Nat.reduceBEq, Nat.reduceSub, Int.reduceToNat, Int.reduceNeg]
      simp [vsn, Sch.name, Sch.version, h, h2]
  · simp (config := { maxSteps := 1000000 }) (disch := first | exact chk_rfl | (unfold Chk; decide +kernel) | omega | (simp only [cells_agg, List.length_cons, List.length_nil, List.length_map, List.length_take, List.length_append, Nat.zero_add, Nat.reduceAdd]; first | done | omega) | fail) only [F59o0, F59o1, F59c, F59, Sch.pv_mk, Typ.pv_mk, h, push_cast, ↓reduceIte, Nat.reduceEqDiff, Nat.reduceAdd, Nat.reduceMul, Nat.reduceLeDiff, Nat.reduceLT, Nat.reduceBEq, Nat.reduceSub, Int.reduceToNat, Int.reduceNeg]
    simp [vsn, Sch.name, Sch.version, h]

theorem schema26 (p : Prg) (name : List UInt8) (version : Int) (hp : p.ok) : Pure Tryd.prog tabG 26 [p.pv, .str name, .int .i64 version] (.tup [.int .i64 (max (idxI (p.schemas.findIdx? (vsn name version))) 0), .bool (hasI (p.schemas.findIdx? (vsn name version)))]) := by
  obtain ⟨v, ss, es, ws, rs⟩ := p
  rw [Prg.ok_mk] at hp
  refine Pure.intro F26_ok (by simp [F26]) ?_
  simp (config := { maxSteps := 1000000 }) (disch := first | exact chk_rfl | (unfold Chk; decide +kernel) | omega | (simp only [cells_agg, List.length_cons, List.length_nil, List.length_map, List.length_take, List.length_append, Nat.zero_add, Nat.reduceAdd]; first | done | omega) | fail) only [F26o0, F26o1, F26c, F26, Prg.pv_mk, push_cast, ↓reduceIte, Nat.reduceEqDiff, Nat.reduceAdd, Nat.reduceMul, Nat.reduceLeDiff, Nat.reduceLT, Nat.reduceBEq, Nat.reduceSub, Int.reduceToNat, Int.reduceNeg]
  refine ACall.pure (idx58 _ 59 [.eptr [.str name] 0 0, .eptr [.int .i64 version] 0 0] _ (fun x _ => clo59 x name version) hp.2.1) rfl ?_
  simp (config := { maxSteps := 1000000 }) (disch := first | exact chk_rfl | (unfold Chk; decide +kernel) | omega | (simp only [cells_agg, List.length_cons, List.length_nil, List.length_map, List.length_take, List.length_append, Nat.zero_add, Nat.reduceAdd]; first | done | omega) | fail) only [push_cast, ↓reduceIte, Nat.reduceEqDiff, Nat.reduceAdd, Nat.reduceMul, Nat.reduceLeDiff, Nat.reduceLT, Nat.reduceBEq, Nat.reduceSub, Int.reduceToNat, Int.reduceNeg]
  exact ⟨rfl, rfl⟩

theorem versioned28 (p : Prg) (name : List UInt8) (version : Int) (hp : p.ok) : Pure Tryd.prog tabG 28 [p.pv, .str name, .int .i64 version] (.int .i64 (idxI (p.schemas.findIdx? (vsn name version)))) := by
  obtain ⟨v, ss, es, ws, rs⟩ := p
  rw [Prg.ok_mk] at hp
  have hm : ss.length ≤ 9223372036854775807 := by have := hp.2.1; unfold maxLen at this; omega
  show Pure Tryd.prog tabG 28 [_, _, _] (.int .i64 (idxI (ss.findIdx? (vsn name version))))
  refine Pure.intro F28_ok (by simp [F28]) ?_
  simp (config := { maxSteps := 1000000 }) (disch := first | exact chk_rfl | (unfold Chk; decide +kernel) | omega | (simp only [cells_agg, List.length_cons, List.length_nil, List.length_map, List.length_take, List.length_append, Nat.zero_add, Nat.reduceAdd]; first | done | omega) | fail) only [F28o0, F28o1, F28o2, F28o3, F28o4, F28o5, F28b6, F28o7, F28c, F28, Prg.pv_mk, push_cast, ↓reduceIte, Nat.reduceEqDiff, Nat.reduceAdd, Nat.reduceMul, Nat.reduceLeDiff, Nat.reduceLT, Nat.reduceBEq, Nat.reduceSub, Int.reduceToNat, Int.reduceNeg]
  refine vc_over ([]) (fun i : Nat => [(7, .pv (.int .i64 (i : Int)))]) (fun _ => []) (fun i => i ≤ ss.length ∧ ∀ j x, j < i → ss[j]? = some x → vsn name version x = false) (fun i => ss.length - i) (0) ?_; intro e0 σ0 n0 h0; simp (config := { maxSteps := 1000000 }) (disch := first | exact chk_rfl | (unfold Chk; decide +kernel) | omega | (simp only [cells_agg, List.length_cons, List.length_nil, List.length_map, List.length_take, List.length_append, Nat.zero_add, Nat.reduceAdd]; first | done | omega) | fail) only [push_cast, ↓reduceIte, Nat.reduceEqDiff, Nat.reduceAdd, Nat.reduceMul, Nat.reduceLeDiff, Nat.reduceLT, Nat.reduceBEq, Nat.reduceSub, Int.reduceToNat, Int.reduceNeg] at h0; obtain ⟨rfl, rfl, rfl⟩ := h0; refine ⟨?_, ?_, ?_⟩
  · simp (config := { maxSteps := 1000000 }) (disch := first | exact chk_rfl | (unfold Chk; decide +kernel) | omega | (simp only [cells_agg, List.length_cons, List.length_nil, List.length_map, List.length_take, List.length_append, Nat.zero_add, Nat.reduceAdd]; first | done | omega) | fail) only [push_cast, ↓reduceIte, Nat.reduceEqDiff, Nat.reduceAdd, Nat.reduceMul, Nat.reduceLeDiff, Nat.reduceLT, Nat.reduceBEq, Nat.reduceSub, Int.reduceToNat, Int.reduceNeg]
  · exact ⟨Nat.zero_le _, by omega⟩
  rintro i ⟨hi, hpre⟩
  by_cases hlt : i < ss.length
  · have hltI : (i : Int) < ss.length := by omega
    obtain ⟨x, hx⟩ : ∃ x, ss[i]? = some x := ⟨ss[i], List.getElem?_eq_getElem hlt⟩
    have hstep : vsn name version x = false → ∀ j y, j < i + 1 → ss[j]? = some y → vsn name version y = false := by
      intro hq j y hj hjy
      rcases Nat.lt_or_ge j i with h | h
      · exact hpre j y h hjy
      · have : j = i := by omega
        subst this
        rw [hx] at hjy; cases hjy; exact hq
    obtain ⟨nm, ve, ty⟩ := x
    obtain ⟨w1, w2, w3, w4, w5, w6, w7⟩ := ty
    by_cases h : nm = name
    · by_cases h2 : ve = version
      · have hq : vsn name version (.mk nm ve (.mk w1 w2 w3 w4 w5 w6 w7)) = true := by simp [vsn, Sch.name, Sch.version, h, h2]
        simp (config := { maxSteps := 1000000 }) (disch := first | exact chk_rfl | (unfold Chk; decide +kernel) | omega | (simp only [cells_agg, List.length_cons, List.length_nil, List.length_map, List.length_take, List.length_append, Nat.zero_add, Nat.reduceAdd]; first | done | omega) | fail) only [hx, Sch.pv_mk, Typ.pv_mk, h, h2, eq_self, push_cast, ↓reduceIte, Nat.reduceEqDiff, Nat.reduceAdd, Nat.reduceMul, Nat.reduceLeDiff, Nat.reduceLT, Nat.reduceBEq, Nat.reduceSub, Int.reduceToNat, Int.reduceNeg]
        rw [find_some hx hq hpre]; rfl
      · have hq : vsn name version (.mk nm ve (.mk w1 w2 w3 w4 w5 w6 w7)) = false := by simp [vsn, Sch.name, Sch.version, h, h2]
        simp (config := { maxSteps := 1000000 }) (disch := first | exact chk_rfl | (unfold Chk; decide +kernel) | omega | (simp only [cells_agg, List.length_cons, List.length_nil, List.length_map, List.length_take, List.length_append, Nat.zero_add, Nat.reduceAdd]; first | done | omega) | fail) only [hx, Sch.pv_mk, Typ.pv_mk, h, h2, eq_self, push_cast, ↓reduceIte, Nat.reduceEqDiff, Nat.reduceAdd, Nat.reduceMul, Nat.reduceLeDiff, Nat.reduceLT, Nat.reduceBEq, Nat.reduceSub, Int.reduceToNat, Int.reduceNeg]
        exact ⟨i + 1, hd_z (by simp (config := { maxSteps := 1000000 }) (disch := first | exact chk_rfl | (unfold Chk; decide +kernel) | omega | (simp only [cells_agg, List.length_cons, List.length_nil, List.length_map, List.length_take, List.length_append, Nat.zero_add, Nat.reduceAdd]; first | done | omega) | fail) only [push_cast, ↓reduceIte, Nat.reduceEqDiff, Nat.reduceAdd, Nat.reduceMul, Nat.reduceLeDiff, Nat.reduceLT, Nat.reduceBEq, Nat.reduceSub, Int.reduceToNat, Int.reduceNeg]), ⟨by omega, hstep hq⟩, by omega⟩
    · have hq : vsn name version (.mk nm ve (.mk w1 w2 w3 w4 w5 w6 w7)) = false := by simp [vsn, Sch.name, Sch.version, h]
      simp (config := { maxSteps := 1000000 }) (disch := first | exact chk_rfl | (unfold Chk; decide +kernel) | omega | (simp only [cells_agg, List.length_cons, List.length_nil, List.length_map, List.length_take, List.length_append, Nat.zero_add, Nat.reduceAdd]; first | done | omega) | fail) only [hx, Sch.pv_mk, Typ.pv_mk, h, push_cast, ↓reduceIte, Nat.reduceEqDiff, Nat.reduceAdd, Nat.reduceMul, Nat.reduceLeDiff, Nat.reduceLT, Nat.reduceBEq, Nat.reduceSub, Int.reduceToNat, Int.reduceNeg]
      exact ⟨i + 1, hd_z (by simp (config := { maxSteps := 1000000 }) (disch := first | exact chk_rfl | (unfold Chk; decide +kernel) | omega | (simp only [cells_agg, List.length_cons, List.length_nil, List.length_map, List.length_take, List.length_append, Nat.zero_add, Nat.reduceAdd]; first | done | omega) | fail) only [push_cast, ↓reduceIte, Nat.reduceEqDiff, Nat.reduceAdd, Nat.reduceMul, Nat.reduceLeDiff, Nat.reduceLT, Nat.reduceBEq, Nat.reduceSub, Int.reduceToNat, Int.reduceNeg]), ⟨by omega, hstep hq⟩, by omega⟩
  · have hltI : ¬ (i : Int) < ss.length := by omega
    simp (config := { maxSteps := 1000000 }) (disch := first | exact chk_rfl | (unfold Chk; decide +kernel) | omega | (simp only [cells_agg, List.length_cons, List.length_nil, List.length_map, List.length_take, List.length_append, Nat.zero_add, Nat.reduceAdd]; first | done | omega) | fail) only [push_cast, ↓reduceIte, Nat.reduceEqDiff, Nat.reduceAdd, Nat.reduceMul, Nat.reduceLeDiff, Nat.reduceLT, Nat.reduceBEq, Nat.reduceSub, Int.reduceToNat, Int.reduceNeg]
    rw [find_none (fun j x hj hjx => hpre j x (by omega) hjx)]; rfl

/-! ### the greatest version -/
def later (l : List Sch) (s : Sch) : Option Nat → Bool
  | none => true
  | some b => match l[b]? with
    | some t => decide (t.version < s.version)
    | none => false
def latN (l : List Sch) (name : List UInt8) : Nat → Option Nat
  | 0 => none
  | i + 1 => match l[i]? with
    | some s => if s.name = name ∧ later l s (latN l name i) = true then some i else latN l name i
    | none => latN l name i
theorem latN_lt (l : List Sch) (name : List UInt8) : ∀ i b, latN l name i = some b → b < i ∧ b < l.length
  | 0, b, h => by cases h
  | i + 1, b, h => by
    rw [latN] at h
    split at h
    · rename_i s hs
      split at h
      · cases h; exact ⟨by omega, (List.getElem?_eq_some_iff.1 hs).1⟩
      · have := latN_lt l name i b h; omega
    · have := latN_lt l name i b h; omega
/-- What may become of the one found so far. -/
theorem latN_step (l : List Sch) (name : List UInt8) {i : Nat} {s : Sch} (hs : l[i]? = some s) :
    (s.name ≠ name ∧ latN l name (i + 1) = latN l name i) ∨ (s.name = name ∧ latN l name i = none ∧ latN l name (i + 1) = some i) ∨
    (∃ b t, s.name = name ∧ latN l name i = some b ∧ l[b]? = some t ∧ b < l.length ∧ t.version < s.version ∧ latN l name (i + 1) = some i) ∨
    (∃ b t, s.name = name ∧ latN l name i = some b ∧ l[b]? = some t ∧ b < l.length ∧ ¬ t.version < s.version ∧ latN l name (i + 1) = some b) := by
  have e : latN l name (i + 1) = if s.name = name ∧ later l s (latN l name i) = true then some i else latN l name i := by rw [latN, hs]
  by_cases h : s.name = name
  · cases hl : latN l name i with
    | none => exact .inr (.inl ⟨h, rfl, by rw [e, hl, if_pos ⟨h, rfl⟩]⟩)
    | some b =>
      obtain ⟨_, hb⟩ := latN_lt l name i b hl
      have ht := List.getElem?_eq_getElem hb
      by_cases hv : l[b].version < s.version
      · exact .inr (.inr (.inl ⟨b, _, h, rfl, ht, hb, hv, by rw [e, hl, if_pos ⟨h, by simp [later, ht, hv]⟩]⟩))
      · exact .inr (.inr (.inr ⟨b, _, h, rfl, ht, hb, hv, by rw [e, hl, if_neg (by simp [later, ht, hv])]⟩))
  · exact .inl ⟨h, by rw [e, if_neg (fun h' => h h'.1)]⟩
def latB (o : Option Nat) : Int := (o.getD 0 : Nat)

theorem latest27 (p : Prg) (name : List UInt8) (hp : p.ok) : Pure Tryd.prog tabG 27 [p.pv, .str name] (.tup [.int .i64 (latB (latN p.schemas name p.schemas.length)), .bool (latN p.schemas name p.schemas.length).isSome]) := by
  obtain ⟨v, ss, es, ws, rs⟩ := p
  rw [Prg.ok_mk] at hp
  have hm : ss.length ≤ 9223372036854775807 := by have := hp.2.1; unfold maxLen at this; omega
  show Pure Tryd.prog tabG 27 [_, _] (.tup [.int .i64 (latB (latN ss name ss.length)), .bool (latN ss name ss.length).isSome])
  refine Pure.intro F27_ok (by simp [F27]) ?_
  simp (config := { maxSteps := 1000000 }) (disch := first | exact chk_rfl | (unfold Chk; decide +kernel) | omega | (simp only [cells_agg, List.length_cons, List.length_nil, List.length_map, List.length_take, List.length_append, Nat.zero_add, Nat.reduceAdd]; first | done | omega) | fail) only [F27o0, F27o1, F27o2, F27o3, F27o4, F27o5, F27p5, F27o6, F27o7, F27b8, F27o9, F27c, F27, Prg.pv_mk, push_cast, ↓reduceIte, Nat.reduceEqDiff, Nat.reduceAdd, Nat.reduceMul, Nat.reduceLeDiff, Nat.reduceLT, Nat.reduceBEq, Nat.reduceSub, Int.reduceToNat, Int.reduceNeg]
  refine vc_over ([]) (fun i : Nat => [(6, .pv (.int .i64 (latB (latN ss name i)))), (7, .pv (.bool (latN ss name i).isSome)), (13, .pv (.int .i64 (i : Int)))]) (fun _ => []) (fun i => i ≤ ss.length) (fun i => ss.length - i) (0) ?_; intro e0 σ0 n0 h0; simp (config := { maxSteps := 1000000 }) (disch := first | exact chk_rfl | (unfold Chk; decide +kernel) | omega | (simp only [cells_agg, List.length_cons, List.length_nil, List.length_map, List.length_take, List.length_append, Nat.zero_add, Nat.reduceAdd]; first | done | omega) | fail) only [push_cast, ↓reduceIte, Nat.reduceEqDiff, Nat.reduceAdd, Nat.reduceMul, Nat.reduceLeDiff, Nat.reduceLT, Nat.reduceBEq, Nat.reduceSub, Int.reduceToNat, Int.reduceNeg] at h0; obtain ⟨rfl, rfl, rfl⟩ := h0; refine ⟨?_, ?_, ?_⟩
  · simp (config := { maxSteps := 1000000 }) (disch := first | exact chk_rfl | (unfold Chk; decide +kernel) | omega | (simp only [cells_agg, List.length_cons, List.length_nil, List.length_map, List.length_take, List.length_append, Nat.zero_add, Nat.reduceAdd]; first | done | omega) | fail) only [push_cast, ↓reduceIte, Nat.reduceEqDiff, Nat.reduceAdd, Nat.reduceMul, Nat.reduceLeDiff, Nat.reduceLT, Nat.reduceBEq, Nat.reduceSub, Int.reduceToNat, Int.reduceNeg]
    simp [latN, latB]
  · omega
  intro i hi
  by_cases hlt : i < ss.length
  · have hltI : (i : Int) < ss.length := by omega
    obtain ⟨x, hx⟩ : ∃ x, ss[i]? = some x := ⟨ss[i], List.getElem?_eq_getElem hlt⟩
    have hst := latN_step ss name hx
    obtain ⟨nm, ve, ty⟩ := x
    obtain ⟨w1, w2, w3, w4, w5, w6, w7⟩ := ty
    simp only [Sch.name, Sch.version] at hst
    rcases hst with ⟨k1, k2⟩ | ⟨k1, k2, k3⟩ | ⟨b, t, k1, k2, k3, k4, k5, k6⟩ | ⟨b, t, k1, k2, k3, k4, k5, k6⟩
    · simp (config := { maxSteps := 1000000 }) (disch := first | exact chk_rfl | (unfold Chk; decide +kernel) | omega | (simp only [cells_agg, List.length_cons, List.length_nil, List.length_map, List.length_take, List.length_append, Nat.zero_add, Nat.reduceAdd]; first | done | omega) | fail) only [hx, Sch.pv_mk, Typ.pv_mk, k1, push_cast, ↓reduceIte, Nat.reduceEqDiff, Nat.reduceAdd, Nat.reduceMul, Nat.reduceLeDiff, Nat.reduceLT, Nat.reduceBEq, Nat.reduceSub, Int.reduceToNat, Int.reduceNeg]
      exact ⟨i + 1, hd_z (by simp (config := { maxSteps := 1000000 }) (disch := first | exact chk_rfl | (unfold Chk; decide +kernel) | omega | (simp only [cells_agg, List.length_cons, List.length_nil, List.length_map, List.length_take, List.length_append, Nat.zero_add, Nat.reduceAdd]; first | done | omega) | fail) only [k2, push_cast, ↓reduceIte, Nat.reduceEqDiff, Nat.reduceAdd, Nat.reduceMul, Nat.reduceLeDiff, Nat.reduceLT, Nat.reduceBEq, Nat.reduceSub, Int.reduceToNat, Int.reduceNeg]), by omega, by omega⟩
    · simp (config := { maxSteps := 1000000 }) (disch := first | exact chk_rfl | (unfold Chk; decide +kernel) | omega | (simp only [cells_agg, List.length_cons, List.length_nil, List.length_map, List.length_take, List.length_append, Nat.zero_add, Nat.reduceAdd]; first | done | omega) | fail) only [hx, Sch.pv_mk, Typ.pv_mk, k1, eq_self, k2, Option.isSome_none, push_cast, ↓reduceIte, Nat.reduceEqDiff, Nat.reduceAdd, Nat.reduceMul, Nat.reduceLeDiff, Nat.reduceLT, Nat.reduceBEq, Nat.reduceSub, Int.reduceToNat, Int.reduceNeg]
      exact ⟨i + 1, hd_z (by simp (config := { maxSteps := 1000000 }) (disch := first | exact chk_rfl | (unfold Chk; decide +kernel) | omega | (simp only [cells_agg, List.length_cons, List.length_nil, List.length_map, List.length_take, List.length_append, Nat.zero_add, Nat.reduceAdd]; first | done | omega) | fail) only [k3, latB, Option.getD_some, Option.isSome_some, push_cast, ↓reduceIte, Nat.reduceEqDiff, Nat.reduceAdd, Nat.reduceMul, Nat.reduceLeDiff, Nat.reduceLT, Nat.reduceBEq, Nat.reduceSub, Int.reduceToNat, Int.reduceNeg]), by omega, by omega⟩
    · obtain ⟨tn, tv, ⟨z1, z2, z3, z4, z5, z6, z7⟩⟩ := t
      simp only [Sch.version] at k5
      simp (config := { maxSteps := 1000000 }) (disch := first | exact chk_rfl | (unfold Chk; decide +kernel) | omega | (simp only [cells_agg, List.length_cons, List.length_nil, List.length_map, List.length_take, List.length_append, Nat.zero_add, Nat.reduceAdd]; first | done | omega) | fail) only [hx, Sch.pv_mk, Typ.pv_mk, k1, eq_self, k2, Option.isSome_some, latB, Option.getD_some, k3, push_cast, ↓reduceIte, Nat.reduceEqDiff, Nat.reduceAdd, Nat.reduceMul, Nat.reduceLeDiff, Nat.reduceLT, Nat.reduceBEq, Nat.reduceSub, Int.reduceToNat, Int.reduceNeg]
      exact ⟨i + 1, hd_z (by simp (config := { maxSteps := 1000000 }) (disch := first | exact chk_rfl | (unfold Chk; decide +kernel) | omega | (simp only [cells_agg, List.length_cons, List.length_nil, List.length_map, List.length_take, List.length_append, Nat.zero_add, Nat.reduceAdd]; first | done | omega) | fail) only [k6, latB, Option.getD_some, Option.isSome_some, push_cast, ↓reduceIte, Nat.reduceEqDiff, Nat.reduceAdd, Nat.reduceMul, Nat.reduceLeDiff, Nat.reduceLT, Nat.reduceBEq, Nat.reduceSub, Int.reduceToNat, Int.reduceNeg]), by omega, by omega⟩
    · obtain ⟨tn, tv, ⟨z1, z2, z3, z4, z5, z6, z7⟩⟩ := t
      simp only [Sch.version] at k5
      simp (config := { maxSteps := 1000000 }) (disch := first | exact chk_rfl | (unfold Chk; decide +kernel) | omega | (simp only [cells_agg, List.length_cons, List.length_nil, List.length_map, List.length_take, List.length_append, Nat.zero_add, Nat.reduceAdd]; first | done | omega) | fail) only [hx, Sch.pv_mk, Typ.pv_mk, k1, eq_self, k2, Option.isSome_some, latB, Option.getD_some, k3, push_cast, ↓reduceIte, Nat.reduceEqDiff, Nat.reduceAdd, Nat.reduceMul, Nat.reduceLeDiff, Nat.reduceLT, Nat.reduceBEq, Nat.reduceSub, Int.reduceToNat, Int.reduceNeg]
      exact ⟨i + 1, hd_z (by simp (config := { maxSteps := 1000000 }) (disch := first | exact chk_rfl | (unfold Chk; decide +kernel) | omega | (simp only [cells_agg, List.length_cons, List.length_nil, List.length_map, List.length_take, List.length_append, Nat.zero_add, Nat.reduceAdd]; first | done | omega) | fail) only [k6, latB, Option.getD_some, Option.isSome_some, push_cast, ↓reduceIte, Nat.reduceEqDiff, Nat.reduceAdd, Nat.reduceMul, Nat.reduceLeDiff, Nat.reduceLT, Nat.reduceBEq, Nat.reduceSub, Int.reduceToNat, Int.reduceNeg]), by omega, by omega⟩
  · have hltI : ¬ (i : Int) < ss.length := by omega
    have he : i = ss.length := by omega
    subst he
    simp (config := { maxSteps := 1000000 }) (disch := first | exact chk_rfl | (unfold Chk; decide +kernel) | omega | (simp only [cells_agg, List.length_cons, List.length_nil, List.length_map, List.length_take, List.length_append, Nat.zero_add, Nat.reduceAdd]; first | done | omega) | fail) only [push_cast, ↓reduceIte, Nat.reduceEqDiff, Nat.reduceAdd, Nat.reduceMul, Nat.reduceLeDiff, Nat.reduceLT, Nat.reduceBEq, Nat.reduceSub, Int.reduceToNat, Int.reduceNeg]

theorem latest29 (p : Prg) (name : List UInt8) (hp : p.ok) : Pure Tryd.prog tabG 29 [p.pv, .str name] (.int .i64 (idxI (latN p.schemas name p.schemas.length))) := by
  obtain ⟨v, ss, es, ws, rs⟩ := p
  rw [Prg.ok_mk] at hp
  have hm : ss.length ≤ 9223372036854775807 := by have := hp.2.1; unfold maxLen at this; omega
  show Pure Tryd.prog tabG 29 [_, _] (.int .i64 (idxI (latN ss name ss.length)))
  refine Pure.intro F29_ok (by simp [F29]) ?_
  simp (config := { maxSteps := 1000000 }) (disch := first | exact chk_rfl | (unfold Chk; decide +kernel) | omega | (simp only [cells_agg, List.length_cons, List.length_nil, List.length_map, List.length_take, List.length_append, Nat.zero_add, Nat.reduceAdd]; first | done | omega) | fail) only [F29o0, F29o1, F29o2, F29o3, F29o4, F29p4, F29o5, F29o6, F29b7, F29o8, F29c, F29, Prg.pv_mk, push_cast, ↓reduceIte, Nat.reduceEqDiff, Nat.reduceAdd, Nat.reduceMul, Nat.reduceLeDiff, Nat.reduceLT, Nat.reduceBEq, Nat.reduceSub, Int.reduceToNat, Int.reduceNeg]
  refine vc_over ([]) (fun i : Nat => [(5, .pv (.int .i64 (idxI (latN ss name i)))), (6, .pv (.int .i64 (i : Int)))]) (fun _ => []) (fun i => i ≤ ss.length) (fun i => ss.length - i) (0) ?_; intro e0 σ0 n0 h0; simp (config := { maxSteps := 1000000 }) (disch := first | exact chk_rfl | (unfold Chk; decide +kernel) | omega | (simp only [cells_agg, List.length_cons, List.length_nil, List.length_map, List.length_take, List.length_append, Nat.zero_add, Nat.reduceAdd]; first | done | omega) | fail) only [push_cast, ↓reduceIte, Nat.reduceEqDiff, Nat.reduceAdd, Nat.reduceMul, Nat.reduceLeDiff, Nat.reduceLT, Nat.reduceBEq, Nat.reduceSub, Int.reduceToNat, Int.reduceNeg] at h0; obtain ⟨rfl, rfl, rfl⟩ := h0; refine ⟨?_, ?_, ?_⟩
  · simp (config := { maxSteps := 1000000 }) (disch := first | exact chk_rfl | (unfold Chk; decide +kernel) | omega | (simp only [cells_agg, List.length_cons, List.length_nil, List.length_map, List.length_take, List.length_append, Nat.zero_add, Nat.reduceAdd]; first | done | omega) | fail) only [push_cast, ↓reduceIte, Nat.reduceEqDiff, Nat.reduceAdd, Nat.reduceMul, Nat.reduceLeDiff, Nat.reduceLT, Nat.reduceBEq, Nat.reduceSub, Int.reduceToNat, Int.reduceNeg]
    simp [latN, idxI]
  · omega
  intro i hi
  by_cases hlt : i < ss.length
  · have hltI : (i : Int) < ss.length := by omega
    obtain ⟨x, hx⟩ : ∃ x, ss[i]? = some x := ⟨ss[i], List.getElem?_eq_getElem hlt⟩
    have hst := latN_step ss name hx
    obtain ⟨nm, ve, ty⟩ := x
    obtain ⟨w1, w2, w3, w4, w5, w6, w7⟩ := ty
    simp only [Sch.name, Sch.version] at hst
    rcases hst with ⟨k1, k2⟩ | ⟨k1, k2, k3⟩ | ⟨b, t, k1, k2, k3, k4, k5, k6⟩ | ⟨b, t, k1, k2, k3, k4, k5, k6⟩
    · simp (config := { maxSteps := 1000000 }) (disch := first | exact chk_rfl | (unfold Chk; decide +kernel) | omega | (simp only [cells_agg, List.length_cons, List.length_nil, List.length_map, List.length_take, List.length_append, Nat.zero_add, Nat.reduceAdd]; first | done | omega) | fail) only [hx, Sch.pv_mk, Typ.pv_mk, k1, push_cast, ↓reduceIte, Nat.reduceEqDiff, Nat.reduceAdd, Nat.reduceMul, Nat.reduceLeDiff, Nat.reduceLT, Nat.reduceBEq, Nat.reduceSub, Int.reduceToNat, Int.reduceNeg]
      exact ⟨i + 1, hd_z (by simp (config := { maxSteps := 1000000 }) (disch := first | exact chk_rfl | (unfold Chk; decide +kernel) | omega | (simp only [cells_agg, List.length_cons, List.length_nil, List.length_map, List.length_take, List.length_append, Nat.zero_add, Nat.reduceAdd]; first | done | omega) | fail) only [k2, push_cast, ↓reduceIte, Nat.reduceEqDiff, Nat.reduceAdd, Nat.reduceMul, Nat.reduceLeDiff, Nat.reduceLT, Nat.reduceBEq, Nat.reduceSub, Int.reduceToNat, Int.reduceNeg]), by omega, by omega⟩
    · have hn : (-1 : Int) < 0 := by omega
      simp (config := { maxSteps := 1000000 }) (disch := first | exact chk_rfl | (unfold Chk; decide +kernel) | omega | (simp only [cells_agg, List.length_cons, List.length_nil, List.length_map, List.length_take, List.length_append, Nat.zero_add, Nat.reduceAdd]; first | done | omega) | fail) only [hx, Sch.pv_mk, Typ.pv_mk, k1, eq_self, k2, idxI, hn, push_cast, ↓reduceIte, Nat.reduceEqDiff, Nat.reduceAdd, Nat.reduceMul, Nat.reduceLeDiff, Nat.reduceLT, Nat.reduceBEq, Nat.reduceSub, Int.reduceToNat, Int.reduceNeg]
      exact ⟨i + 1, hd_z (by simp (config := { maxSteps := 1000000 }) (disch := first | exact chk_rfl | (unfold Chk; decide +kernel) | omega | (simp only [cells_agg, List.length_cons, List.length_nil, List.length_map, List.length_take, List.length_append, Nat.zero_add, Nat.reduceAdd]; first | done | omega) | fail) only [k3, idxI, push_cast, ↓reduceIte, Nat.reduceEqDiff, Nat.reduceAdd, Nat.reduceMul, Nat.reduceLeDiff, Nat.reduceLT, Nat.reduceBEq, Nat.reduceSub, Int.reduceToNat, Int.reduceNeg]), by omega, by omega⟩
    · obtain ⟨tn, tv, ⟨z1, z2, z3, z4, z5, z6, z7⟩⟩ := t
      simp only [Sch.version] at k5
      simp (config := { maxSteps := 1000000 }) (disch := first | exact chk_rfl | (unfold Chk; decide +kernel) | omega | (simp only [cells_agg, List.length_cons, List.length_nil, List.length_map, List.length_take, List.length_append, Nat.zero_add, Nat.reduceAdd]; first | done | omega) | fail) only [hx, Sch.pv_mk, Typ.pv_mk, k1, eq_self, k2, idxI, k3, push_cast, ↓reduceIte, Nat.reduceEqDiff, Nat.reduceAdd, Nat.reduceMul, Nat.reduceLeDiff, Nat.reduceLT, Nat.reduceBEq, Nat.reduceSub, Int.reduceToNat, Int.reduceNeg]
      exact ⟨i + 1, hd_z (by simp (config := { maxSteps := 1000000 }) (disch := first | exact chk_rfl | (unfold Chk; decide +kernel) | omega | (simp only [cells_agg, List.length_cons, List.length_nil, List.length_map, List.length_take, List.length_append, Nat.zero_add, Nat.reduceAdd]; first | done | omega) | fail) only [k6, idxI, push_cast, ↓reduceIte, Nat.reduceEqDiff, Nat.reduceAdd, Nat.reduceMul, Nat.reduceLeDiff, Nat.reduceLT, Nat.reduceBEq, Nat.reduceSub, Int.reduceToNat, Int.reduceNeg]), by omega, by omega⟩
    · obtain ⟨tn, tv, ⟨z1, z2, z3, z4, z5, z6, z7⟩⟩ := t
      simp only [Sch.version] at k5
      simp (config := { maxSteps := 1000000 }) (disch := first | exact chk_rfl | (unfold Chk; decide +kernel) | omega | (simp only [cells_agg, List.length_cons, List.length_nil, List.length_map, List.length_take, List.length_append, Nat.zero_add, Nat.reduceAdd]; first | done | omega) | fail) only [hx, Sch.pv_mk, Typ.pv_mk, k1, eq_self, k2, idxI, k3, push_cast, ↓reduceIte, Nat.reduceEqDiff, Nat.reduceAdd, Nat.reduceMul, Nat.reduceLeDiff, Nat.reduceLT, Nat.reduceBEq, Nat.reduceSub, Int.reduceToNat, Int.reduceNeg]
      exact ⟨i + 1, hd_z (by simp (config := { maxSteps := 1000000 }) (disch := first | exact chk_rfl | (unfold Chk; decide +kernel) | omega | (simp only [cells_agg, List.length_cons, List.length_nil, List.length_map, List.length_take, List.length_append, Nat.zero_add, Nat.reduceAdd]; first | done | omega) | fail) only [k6, idxI, push_cast, ↓reduceIte, Nat.reduceEqDiff, Nat.reduceAdd, Nat.reduceMul, Nat.reduceLeDiff, Nat.reduceLT, Nat.reduceBEq, Nat.reduceSub, Int.reduceToNat, Int.reduceNeg]), by omega, by omega⟩
  · have hltI : ¬ (i : Int) < ss.length := by omega
    have he : i = ss.length := by omega
    subst he
    simp (config := { maxSteps := 1000000 }) (disch := first | exact chk_rfl | (unfold Chk; decide +kernel) | omega | (simp only [cells_agg, List.length_cons, List.length_nil, List.length_map, List.length_take, List.length_append, Nat.zero_add, Nat.reduceAdd]; first | done | omega) | fail) only [push_cast, ↓reduceIte, Nat.reduceEqDiff, Nat.reduceAdd, Nat.reduceMul, Nat.reduceLeDiff, Nat.reduceLT, Nat.reduceBEq, Nat.reduceSub, Int.reduceToNat, Int.reduceNeg]

theorem latB_idx (o : Option Nat) : latB o = max (idxI o) 0 := by
  cases o <;> simp only [latB, idxI, Option.getD_none, Option.getD_some] <;> omega
theorem isSome_idx (o : Option Nat) : o.isSome = decide (0 ≤ idxI o) := by
  cases o with
  | none => rfl
  | some i => simp only [idxI, Option.isSome_some]; exact (decide_eq_true (by omega)).symm

set_option maxHeartbeats 4000000 in
theorem schemas_law (p : Prg) (name : List UInt8) (version : Int) (hp : p.ok) : Pure Tryd.prog tabG 6 [p.pv, .str name, .int .i64 version] (.bool true) := by
  have hs := short_ok p hp
  have ho := shortP_ok p hp
  have h1 := schema26 (shortP p) (name.take 70) version ho
  have h2 := latest27 (shortP p) (name.take 70) ho
  have h3 := versioned28 (shortP p) (name.take 70) version ho
  have h4 := latest29 (shortP p) (name.take 70) ho
  have hcut := cut_ok name
  obtain ⟨v0, ss0, es0, ws0, rs0⟩ := p
  generalize shortP (.mk v0 ss0 es0 ws0 rs0) = P at *
  obtain ⟨v, ss, es, ws, rs⟩ := P
  rw [Prg.pv_mk] at h1 h2 h3 h4
  rw [Prg.pv_mk, Prg.pv_mk] at hs
  simp only [Prg.schemas] at h1 h2 h3 h4
  generalize name.take 70 = nm at *
  refine Pure.intro F6_ok (by simp [F6]) ?_
  simp (config := { maxSteps := 1000000 }) (disch := first | exact chk_rfl | (unfold Chk; decide +kernel) | omega | (simp only [cells_agg, List.length_cons, List.length_nil, List.length_map, List.length_take, List.length_append, Nat.zero_add, Nat.reduceAdd]; first | done | omega) | fail) only [F6o0, F6o1, F6o2, F6o3, F6o4, F6p4, F6o5, F6c, F6, Prg.pv_mk, push_cast, ↓reduceIte, Nat.reduceEqDiff, Nat.reduceAdd, Nat.reduceMul, Nat.reduceLeDiff, Nat.reduceLT, Nat.reduceBEq, Nat.reduceSub, Int.reduceToNat, Int.reduceNeg]
  refine ACall.pure hs rfl ?_
  simp (config := { maxSteps := 1000000 }) (disch := first | exact chk_rfl | (unfold Chk; decide +kernel) | omega | (simp only [cells_agg, List.length_cons, List.length_nil, List.length_map, List.length_take, List.length_append, Nat.zero_add, Nat.reduceAdd]; first | done | omega) | fail) only [push_cast, ↓reduceIte, Nat.reduceEqDiff, Nat.reduceAdd, Nat.reduceMul, Nat.reduceLeDiff, Nat.reduceLT, Nat.reduceBEq, Nat.reduceSub, Int.reduceToNat, Int.reduceNeg]
  refine ACall.pure hcut rfl ?_
  simp (config := { maxSteps := 1000000 }) (disch := first | exact chk_rfl | (unfold Chk; decide +kernel) | omega | (simp only [cells_agg, List.length_cons, List.length_nil, List.length_map, List.length_take, List.length_append, Nat.zero_add, Nat.reduceAdd]; first | done | omega) | fail) only [push_cast, ↓reduceIte, Nat.reduceEqDiff, Nat.reduceAdd, Nat.reduceMul, Nat.reduceLeDiff, Nat.reduceLT, Nat.reduceBEq, Nat.reduceSub, Int.reduceToNat, Int.reduceNeg]
  refine ACall.pure h1 rfl ?_
  simp (config := { maxSteps := 1000000 }) (disch := first | exact chk_rfl | (unfold Chk; decide +kernel) | omega | (simp only [cells_agg, List.length_cons, List.length_nil, List.length_map, List.length_take, List.length_append, Nat.zero_add, Nat.reduceAdd]; first | done | omega) | fail) only [push_cast, ↓reduceIte, Nat.reduceEqDiff, Nat.reduceAdd, Nat.reduceMul, Nat.reduceLeDiff, Nat.reduceLT, Nat.reduceBEq, Nat.reduceSub, Int.reduceToNat, Int.reduceNeg]
  refine ACall.pure h2 rfl ?_
  simp (config := { maxSteps := 1000000 }) (disch := first | exact chk_rfl | (unfold Chk; decide +kernel) | omega | (simp only [cells_agg, List.length_cons, List.length_nil, List.length_map, List.length_take, List.length_append, Nat.zero_add, Nat.reduceAdd]; first | done | omega) | fail) only [push_cast, ↓reduceIte, Nat.reduceEqDiff, Nat.reduceAdd, Nat.reduceMul, Nat.reduceLeDiff, Nat.reduceLT, Nat.reduceBEq, Nat.reduceSub, Int.reduceToNat, Int.reduceNeg]
  refine callDL_pure h3 rfl ?_
  simp (config := { maxSteps := 1000000 }) (disch := first | exact chk_rfl | (unfold Chk; decide +kernel) | omega | (simp only [cells_agg, List.length_cons, List.length_nil, List.length_map, List.length_take, List.length_append, Nat.zero_add, Nat.reduceAdd]; first | done | omega) | fail) only [push_cast, ↓reduceIte, Nat.reduceEqDiff, Nat.reduceAdd, Nat.reduceMul, Nat.reduceLeDiff, Nat.reduceLT, Nat.reduceBEq, Nat.reduceSub, Int.reduceToNat, Int.reduceNeg]
  refine ACall.pure h4 rfl ?_
  simp (config := { maxSteps := 1000000 }) (disch := first | exact chk_rfl | (unfold Chk; decide +kernel) | omega | (simp only [cells_agg, List.length_cons, List.length_nil, List.length_map, List.length_take, List.length_append, Nat.zero_add, Nat.reduceAdd]; first | done | omega) | fail) only [push_cast, ↓reduceIte, Nat.reduceEqDiff, Nat.reduceAdd, Nat.reduceMul, Nat.reduceLeDiff, Nat.reduceLT, Nat.reduceBEq, Nat.reduceSub, Int.reduceToNat, Int.reduceNeg]
  refine ACall.pure known_ok rfl ?_
  simp (config := { maxSteps := 1000000 }) (disch := first | exact chk_rfl | (unfold Chk; decide +kernel) | omega | (simp only [cells_agg, List.length_cons, List.length_nil, List.length_map, List.length_take, List.length_append, Nat.zero_add, Nat.reduceAdd]; first | done | omega) | fail) only [hasI, latB_idx, isSome_idx, beq_self_eq_true, push_cast, ↓reduceIte, Nat.reduceEqDiff, Nat.reduceAdd, Nat.reduceMul, Nat.reduceLeDiff, Nat.reduceLT, Nat.reduceBEq, Nat.reduceSub, Int.reduceToNat, Int.reduceNeg]

theorem schemas_of (p0 p1 p2 : PV) (h0 : HasT Tryd.prog 44 p0) (h1 : HasT Tryd.prog 9 p1) (h2 : HasT Tryd.prog 3 p2) : Pure Tryd.prog tabG 6 [p0, p1, p2] (.bool true) := by
  obtain ⟨p, rfl, hp⟩ := hasT_Prg h0
  obtain ⟨s, rfl, hs⟩ := hasT_str h1 Tryd.underlying9
  obtain ⟨n, rfl, hn⟩ := hasT_i64 h2 Tryd.underlying3
  exact schemas_law p s n hp
end Go.Proofs.YtfbakipopjoghaaDoor
