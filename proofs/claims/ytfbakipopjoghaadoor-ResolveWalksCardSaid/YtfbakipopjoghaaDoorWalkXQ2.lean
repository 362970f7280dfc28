/- A part of the proof for ResolveWalksCardSaid. -/
import Derived.Test.YtfbakipopjoghaaDoorWalkXQ
set_option maxRecDepth 100000
set_option linter.unusedVariables false
set_option linter.unusedSimpArgs false
namespace Go.Proofs.YtfbakipopjoghaaDoor
open Go Go.Ab

set_option maxHeartbeats 4000000 in
theorem same71 (l : List Exp) (ho : ∀ x ∈ l, x.ok) (hl : l.length * 80 ≤ 140737488351232) : Pure Tryd.prog tabG 71 [.list (l.map Exp.pv), .list (l.map Exp.pv)] (.bool true) := by
  refine Pure.intro F71_ok (by simp [F71]) ?_
  simp (config := { maxSteps := 1000000 }) (disch := first | exact chk_rfl | (unfold Chk; decide +kernel) | omega | (simp only [cells_agg, List.length_cons, List.length_nil, List.length_map, List.length_take, List.length_append, Nat.zero_add, Nat.reduceAdd]; first | done | omega) | fail) only [F71o0, F71o1, F71o2, F71o3, F71o4, F71o5, F71p5, F71o6, F71o7, F71b8, F71o9, F71c, F71, push_cast, ↓reduceIte, Nat.reduceEqDiff, Nat.reduceAdd, Nat.reduceMul, Nat.reduceLeDiff, Nat.reduceLT, Nat.reduceBEq, Nat.reduceSub, Int.reduceToNat, Int.reduceNeg]
  refine vc_over ([]) (fun m : Nat => [(5, .pv (.int .i64 (m : Int)))]) (fun m => []) (fun m => m ≤ l.length) (fun m => l.length - m) (0) ?_; intro e0 σ0 n0 h0; simp (config := { maxSteps := 1000000 }) (disch := first | exact chk_rfl | (unfold Chk; decide +kernel) | omega | (simp only [cells_agg, List.length_cons, List.length_nil, List.length_map, List.length_take, List.length_append, Nat.zero_add, Nat.reduceAdd]; first | done | omega) | fail) only [push_cast, ↓reduceIte, Nat.reduceEqDiff, Nat.reduceAdd, Nat.reduceMul, Nat.reduceLeDiff, Nat.reduceLT, Nat.reduceBEq, Nat.reduceSub, Int.reduceToNat, Int.reduceNeg] at h0; obtain ⟨rfl, rfl, rfl⟩ := h0; refine ⟨?_, ?_, ?_⟩
  · simp (config := { maxSteps := 1000000 }) (disch := first | exact chk_rfl | (unfold Chk; decide +kernel) | omega | (simp only [cells_agg, List.length_cons, List.length_nil, List.length_map, List.length_take, List.length_append, Nat.zero_add, Nat.reduceAdd]; first | done | omega) | fail) only [push_cast, ↓reduceIte, Nat.reduceEqDiff, Nat.reduceAdd, Nat.reduceMul, Nat.reduceLeDiff, Nat.reduceLT, Nat.reduceBEq, Nat.reduceSub, Int.reduceToNat, Int.reduceNeg]
  · omega
  · intro m hm
    by_cases hlt : m < l.length
    · have hltI : (m : Int) < l.length := by omega
      obtain ⟨x, hx⟩ : ∃ x, l[m]? = some x := ⟨_, List.getElem?_eq_getElem hlt⟩
      have hcall := same101 _ x (Nat.lt_succ_self _) (ho x (List.mem_of_getElem? hx))
      obtain ⟨w1, w2, w3, w4, w5⟩ := x
      rw [Exp.pv_mk] at hcall
      simp (config := { maxSteps := 1000000 }) (disch := first | exact chk_rfl | (unfold Chk; decide +kernel) | omega | (simp only [cells_agg, List.length_cons, List.length_nil, List.length_map, List.length_take, List.length_append, Nat.zero_add, Nat.reduceAdd]; first | done | omega) | fail) only [hx, Exp.pv_mk, push_cast, ↓reduceIte, Nat.reduceEqDiff, Nat.reduceAdd, Nat.reduceMul, Nat.reduceLeDiff, Nat.reduceLT, Nat.reduceBEq, Nat.reduceSub, Int.reduceToNat, Int.reduceNeg]
      refine ACall.pure hcall rfl ?_
      simp (config := { maxSteps := 1000000 }) (disch := first | exact chk_rfl | (unfold Chk; decide +kernel) | omega | (simp only [cells_agg, List.length_cons, List.length_nil, List.length_map, List.length_take, List.length_append, Nat.zero_add, Nat.reduceAdd]; first | done | omega) | fail) only [push_cast, ↓reduceIte, Nat.reduceEqDiff, Nat.reduceAdd, Nat.reduceMul, Nat.reduceLeDiff, Nat.reduceLT, Nat.reduceBEq, Nat.reduceSub, Int.reduceToNat, Int.reduceNeg]
      exact ⟨m + 1, hd_z (by simp (config := { maxSteps := 1000000 }) (disch := first | exact chk_rfl | (unfold Chk; decide +kernel) | omega | (simp only [cells_agg, List.length_cons, List.length_nil, List.length_map, List.length_take, List.length_append, Nat.zero_add, Nat.reduceAdd]; first | done | omega) | fail) only [push_cast, ↓reduceIte, Nat.reduceEqDiff, Nat.reduceAdd, Nat.reduceMul, Nat.reduceLeDiff, Nat.reduceLT, Nat.reduceBEq, Nat.reduceSub, Int.reduceToNat, Int.reduceNeg]), by omega, by omega⟩
    · have hltI : ¬ (m : Int) < l.length := by omega
      simp (config := { maxSteps := 1000000 }) (disch := first | exact chk_rfl | (unfold Chk; decide +kernel) | omega | (simp only [cells_agg, List.length_cons, List.length_nil, List.length_map, List.length_take, List.length_append, Nat.zero_add, Nat.reduceAdd]; first | done | omega) | fail) only [push_cast, ↓reduceIte, Nat.reduceEqDiff, Nat.reduceAdd, Nat.reduceMul, Nat.reduceLeDiff, Nat.reduceLT, Nat.reduceBEq, Nat.reduceSub, Int.reduceToNat, Int.reduceNeg]

set_option maxHeartbeats 4000000 in
theorem same72 (l : List Rul) (ho : ∀ x ∈ l, x.ok) (hl : l.length * 96 ≤ 140737488351232) : Pure Tryd.prog tabG 72 [.agg [.list (l.map Rul.pv)], .agg [.list (l.map Rul.pv)]] (.bool true) := by
  refine Pure.intro F72_ok (by simp [F72]) ?_
  simp (config := { maxSteps := 1000000 }) (disch := first | exact chk_rfl | (unfold Chk; decide +kernel) | omega | (simp only [cells_agg, List.length_cons, List.length_nil, List.length_map, List.length_take, List.length_append, Nat.zero_add, Nat.reduceAdd]; first | done | omega) | fail) only [F72o0, F72o1, F72o2, F72o3, F72o4, F72o5, F72p5, F72o6, F72o7, F72b8, F72o9, F72c, F72, push_cast, ↓reduceIte, Nat.reduceEqDiff, Nat.reduceAdd, Nat.reduceMul, Nat.reduceLeDiff, Nat.reduceLT, Nat.reduceBEq, Nat.reduceSub, Int.reduceToNat, Int.reduceNeg]
  refine vc_over ([]) (fun m : Nat => [(5, .pv (.int .i64 (m : Int)))]) (fun m => []) (fun m => m ≤ l.length) (fun m => l.length - m) (0) ?_; intro e0 σ0 n0 h0; simp (config := { maxSteps := 1000000 }) (disch := first | exact chk_rfl | (unfold Chk; decide +kernel) | omega | (simp only [cells_agg, List.length_cons, List.length_nil, List.length_map, List.length_take, List.length_append, Nat.zero_add, Nat.reduceAdd]; first | done | omega) | fail) only [push_cast, ↓reduceIte, Nat.reduceEqDiff, Nat.reduceAdd, Nat.reduceMul, Nat.reduceLeDiff, Nat.reduceLT, Nat.reduceBEq, Nat.reduceSub, Int.reduceToNat, Int.reduceNeg] at h0; obtain ⟨rfl, rfl, rfl⟩ := h0; refine ⟨?_, ?_, ?_⟩
  · simp (config := { maxSteps := 1000000 }) (disch := first | exact chk_rfl | (unfold Chk; decide +kernel) | omega | (simp only [cells_agg, List.length_cons, List.length_nil, List.length_map, List.length_take, List.length_append, Nat.zero_add, Nat.reduceAdd]; first | done | omega) | fail) only [push_cast, ↓reduceIte, Nat.reduceEqDiff, Nat.reduceAdd, Nat.reduceMul, Nat.reduceLeDiff, Nat.reduceLT, Nat.reduceBEq, Nat.reduceSub, Int.reduceToNat, Int.reduceNeg]
  · omega
  · intro m hm
    by_cases hlt : m < l.length
    · have hltI : (m : Int) < l.length := by omega
      obtain ⟨x, hx⟩ : ∃ x, l[m]? = some x := ⟨_, List.getElem?_eq_getElem hlt⟩
      have hxo := ho x (List.mem_of_getElem? hx)
      obtain ⟨a, e⟩ := x
      rw [Rul.ok_mk] at hxo
      have hcall := same101 _ e (Nat.lt_succ_self _) hxo.2
      obtain ⟨w1, w2, w3, w4, w5⟩ := e
      rw [Exp.pv_mk] at hcall
      simp (config := { maxSteps := 1000000 }) (disch := first | exact chk_rfl | (unfold Chk; decide +kernel) | omega | (simp only [cells_agg, List.length_cons, List.length_nil, List.length_map, List.length_take, List.length_append, Nat.zero_add, Nat.reduceAdd]; first | done | omega) | fail) only [hx, Rul.pv_mk, Exp.pv_mk, push_cast, ↓reduceIte, Nat.reduceEqDiff, Nat.reduceAdd, Nat.reduceMul, Nat.reduceLeDiff, Nat.reduceLT, Nat.reduceBEq, Nat.reduceSub, Int.reduceToNat, Int.reduceNeg]
      refine ACall.pure hcall rfl ?_
      simp (config := { maxSteps := 1000000 }) (disch := first | exact chk_rfl | (unfold Chk; decide +kernel) | omega | (simp only [cells_agg, List.length_cons, List.length_nil, List.length_map, List.length_take, List.length_append, Nat.zero_add, Nat.reduceAdd]; first | done | omega) | fail) only [push_cast, ↓reduceIte, Nat.reduceEqDiff, Nat.reduceAdd, Nat.reduceMul, Nat.reduceLeDiff, Nat.reduceLT, Nat.reduceBEq, Nat.reduceSub, Int.reduceToNat, Int.reduceNeg]
      exact ⟨m + 1, hd_z (by simp (config := { maxSteps := 1000000 }) (disch := first | exact chk_rfl | (unfold Chk; decide +kernel) | omega | (simp only [cells_agg, List.length_cons, List.length_nil, List.length_map, List.length_take, List.length_append, Nat.zero_add, Nat.reduceAdd]; first | done | omega) | fail) only [push_cast, ↓reduceIte, Nat.reduceEqDiff, Nat.reduceAdd, Nat.reduceMul, Nat.reduceLeDiff, Nat.reduceLT, Nat.reduceBEq, Nat.reduceSub, Int.reduceToNat, Int.reduceNeg]), by omega, by omega⟩
    · have hltI : ¬ (m : Int) < l.length := by omega
      simp (config := { maxSteps := 1000000 }) (disch := first | exact chk_rfl | (unfold Chk; decide +kernel) | omega | (simp only [cells_agg, List.length_cons, List.length_nil, List.length_map, List.length_take, List.length_append, Nat.zero_add, Nat.reduceAdd]; first | done | omega) | fail) only [push_cast, ↓reduceIte, Nat.reduceEqDiff, Nat.reduceAdd, Nat.reduceMul, Nat.reduceLeDiff, Nat.reduceLT, Nat.reduceBEq, Nat.reduceSub, Int.reduceToNat, Int.reduceNeg]

/-- Of two steps all but their branches: with names, their names, too. -/
def flatEq (nm : Bool) (s t : Stp) : Prop := (nm = true → s.name = t.name) ∧ s.kind = t.kind ∧ s.number = t.number ∧ s.time = t.time ∧ s.limit = t.limit ∧ s.text = t.text ∧ s.schema = t.schema ∧ s.exprs = t.exprs ∧ s.mapping = t.mapping ∧ s.calls = t.calls ∧
  s.branches.length = t.branches.length ∧ ∀ (j : Nat) (b c : Bra), s.branches[j]? = some b → t.branches[j]? = some c → b.when = c.when
inductive Sim (nm : Bool) : List Stp → List Stp → Prop
  | mk (l k : List Stp) : l.length = k.length → (∀ (i : Nat) (s t : Stp), l[i]? = some s → k[i]? = some t → flatEq nm s t) →
      (∀ (i j : Nat) (s t : Stp) (b c : Bra), l[i]? = some s → k[i]? = some t → s.branches[j]? = some b → t.branches[j]? = some c → Sim nm b.steps c.steps) → Sim nm l k
theorem Sim.refl (nm : Bool) : ∀ (n : Nat) (l : List Stp), SizeOf.sizeOf l < n → Sim nm l l := by
  intro n
  induction n with
  | zero => intro l h; omega
  | succ n ih =>
    intro l hl
    refine .mk l l rfl (fun i s t hs ht => ?_) (fun i j s t b c hs ht hb hc => ?_)
    · rw [hs] at ht; cases ht
      exact ⟨fun _ => rfl, rfl, rfl, rfl, rfl, rfl, rfl, rfl, rfl, rfl, rfl, fun j b c hb hc => by rw [hb] at hc; cases hc; rfl⟩
    · rw [hs] at ht; cases ht
      rw [hb] at hc; cases hc
      refine ih b.steps ?_
      have h1 := List.sizeOf_lt_of_mem (List.mem_of_getElem? hs)
      have h2 := List.sizeOf_lt_of_mem (List.mem_of_getElem? hb)
      obtain ⟨x1, x2, x3, x4, x5, x6, x7, x8, x9, x10, k⟩ := s
      obtain ⟨y1, y2⟩ := b
      simp only [Stp.branches, Stp.mk.sizeOf_spec, Bra.mk.sizeOf_spec, Bra.steps] at h1 h2 ⊢
      omega

set_option maxHeartbeats 8000000 in
theorem same41 (nm : Bool) (l k : List Stp) (h : Sim nm l k) : okL l → Pure Tryd.prog tabG 41 [.list (l.map Stp.pv), .list (k.map Stp.pv), .bool nm] (.bool true) := by
  induction h with
  | mk l k hlk hfl hsub ih =>
    intro hok
    obtain ⟨hl, hso⟩ := hok
    have hlkI : (k.length : Int) = l.length := by omega
    refine Pure.intro F41_ok (by simp [F41]) ?_
    simp (config := { maxSteps := 1000000 }) (disch := first | exact chk_rfl | (unfold Chk; decide +kernel) | omega | (simp only [cells_agg, List.length_cons, List.length_nil, List.length_map, List.length_take, List.length_append, Nat.zero_add, Nat.reduceAdd]; first | done | omega) | fail) only [F41o0, F41o1, F41o2, F41o3, F41o4, F41o5, F41p5, F41o6, F41o7, F41o8, F41o9, F41o10, F41p10, F41o11, F41o12, F41b13, F41o14, F41o15, F41o16, F41p16, F41o17, F41o18, F41b19, F41o20, F41b21, F41o22, F41c, F41, hlkI, push_cast, ↓reduceIte, Nat.reduceEqDiff, Nat.reduceAdd, Nat.reduceMul, Nat.reduceLeDiff, Nat.reduceLT, Nat.reduceBEq, Nat.reduceSub, Int.reduceToNat, Int.reduceNeg]
    refine vc_over ([]) (fun m : Nat => [(7, .pv (.int .i64 (m : Int)))]) (fun m => []) (fun m => m ≤ l.length) (fun m => l.length - m) (0) ?_; intro e0 σ0 n0 h0; simp (config := { maxSteps := 1000000 }) (disch := first | exact chk_rfl | (unfold Chk; decide +kernel) | omega | (simp only [cells_agg, List.length_cons, List.length_nil, List.length_map, List.length_take, List.length_append, Nat.zero_add, Nat.reduceAdd]; first | done | omega) | fail) only [push_cast, ↓reduceIte, Nat.reduceEqDiff, Nat.reduceAdd, Nat.reduceMul, Nat.reduceLeDiff, Nat.reduceLT, Nat.reduceBEq, Nat.reduceSub, Int.reduceToNat, Int.reduceNeg] at h0; obtain ⟨rfl, rfl, rfl⟩ := h0; refine ⟨?_, ?_, ?_⟩
    · simp (config := { maxSteps := 1000000 }) (disch := first | exact chk_rfl | (unfold Chk; decide +kernel) | omega | (simp only [cells_agg, List.length_cons, List.length_nil, List.length_map, List.length_take, List.length_append, Nat.zero_add, Nat.reduceAdd]; first | done | omega) | fail) only [push_cast, ↓reduceIte, Nat.reduceEqDiff, Nat.reduceAdd, Nat.reduceMul, Nat.reduceLeDiff, Nat.reduceLT, Nat.reduceBEq, Nat.reduceSub, Int.reduceToNat, Int.reduceNeg]
    · omega
    · intro m hm
      by_cases hlt : m < l.length
      · have hltI : (m : Int) < l.length := by omega
        obtain ⟨s, hs⟩ : ∃ x, l[m]? = some x := ⟨_, List.getElem?_eq_getElem hlt⟩
        obtain ⟨t, ht⟩ : ∃ x, k[m]? = some x := ⟨_, List.getElem?_eq_getElem (by omega)⟩
        have hf := hfl m s t hs ht
        have hsb := fun j b c hb hc => ih m j s t b c hs ht hb hc
        have hsok := hso s (List.mem_of_getElem? hs)
        obtain ⟨s1, s2, s3, s4, s5, s6, s7, s8, s9, s10, sb⟩ := s
        obtain ⟨t1, t2, t3, t4, t5, t6, t7, t8, t9, t10, tb⟩ := t
        simp only [flatEq, Stp.name, Stp.kind, Stp.number, Stp.time, Stp.limit, Stp.text, Stp.schema, Stp.exprs, Stp.mapping, Stp.calls, Stp.branches] at hf hsb
        obtain ⟨hf0, rfl, rfl, rfl, rfl, rfl, rfl, rfl, rfl, rfl, hfb, hfw⟩ := hf
        rw [Stp.ok_mk] at hsok
        obtain ⟨o1, o2, o3, o4, o5, o6, o7, o8, o9, o10, o11, o12, o13, o14, o15⟩ := hsok
        have hfbI : (tb.length : Int) = sb.length := by omega
        have hnm : nm = true → s1 = t1 := hf0
        cases nm with
        | false =>
          simp (config := { maxSteps := 1000000 }) (disch := first | exact chk_rfl | (unfold Chk; decide +kernel) | omega | (simp only [cells_agg, List.length_cons, List.length_nil, List.length_map, List.length_take, List.length_append, Nat.zero_add, Nat.reduceAdd]; first | done | omega) | fail) only [hs, ht, Stp.pv_mk, push_cast, ↓reduceIte, Nat.reduceEqDiff, Nat.reduceAdd, Nat.reduceMul, Nat.reduceLeDiff, Nat.reduceLT, Nat.reduceBEq, Nat.reduceSub, Int.reduceToNat, Int.reduceNeg]
          refine ACall.pure (same71 s8 o9 o8) rfl ?_
          simp (config := { maxSteps := 1000000 }) (disch := first | exact chk_rfl | (unfold Chk; decide +kernel) | omega | (simp only [cells_agg, List.length_cons, List.length_nil, List.length_map, List.length_take, List.length_append, Nat.zero_add, Nat.reduceAdd]; first | done | omega) | fail) only [push_cast, ↓reduceIte, Nat.reduceEqDiff, Nat.reduceAdd, Nat.reduceMul, Nat.reduceLeDiff, Nat.reduceLT, Nat.reduceBEq, Nat.reduceSub, Int.reduceToNat, Int.reduceNeg]
          refine ACall.pure (same72 s9 o11 o10) rfl ?_
          simp (config := { maxSteps := 1000000 }) (disch := first | exact chk_rfl | (unfold Chk; decide +kernel) | omega | (simp only [cells_agg, List.length_cons, List.length_nil, List.length_map, List.length_take, List.length_append, Nat.zero_add, Nat.reduceAdd]; first | done | omega) | fail) only [hfbI, push_cast, ↓reduceIte, Nat.reduceEqDiff, Nat.reduceAdd, Nat.reduceMul, Nat.reduceLeDiff, Nat.reduceLT, Nat.reduceBEq, Nat.reduceSub, Int.reduceToNat, Int.reduceNeg]
          refine vc_over ([]) (fun q : Nat => [(10, .pv (.int .i64 (q : Int)))]) (fun q => []) (fun q => q ≤ s10.length) (fun q => s10.length - q) (0) ?_; intro e0 σ0 n0 h0; simp (config := { maxSteps := 1000000 }) (disch := first | exact chk_rfl | (unfold Chk; decide +kernel) | omega | (simp only [cells_agg, List.length_cons, List.length_nil, List.length_map, List.length_take, List.length_append, Nat.zero_add, Nat.reduceAdd]; first | done | omega) | fail) only [push_cast, ↓reduceIte, Nat.reduceEqDiff, Nat.reduceAdd, Nat.reduceMul, Nat.reduceLeDiff, Nat.reduceLT, Nat.reduceBEq, Nat.reduceSub, Int.reduceToNat, Int.reduceNeg] at h0; obtain ⟨rfl, rfl, rfl⟩ := h0; refine ⟨?_, ?_, ?_⟩
          · simp (config := { maxSteps := 1000000 }) (disch := first | exact chk_rfl | (unfold Chk; decide +kernel) | omega | (simp only [cells_agg, List.length_cons, List.length_nil, List.length_map, List.length_take, List.length_append, Nat.zero_add, Nat.reduceAdd]; first | done | omega) | fail) only [push_cast, ↓reduceIte, Nat.reduceEqDiff, Nat.reduceAdd, Nat.reduceMul, Nat.reduceLeDiff, Nat.reduceLT, Nat.reduceBEq, Nat.reduceSub, Int.reduceToNat, Int.reduceNeg]
          · omega
          · intro q hq
            by_cases hlq : q < s10.length
            · have hlqI : (q : Int) < s10.length := by omega
              obtain ⟨c, hc⟩ : ∃ c, s10[q]? = some c := ⟨_, List.getElem?_eq_getElem hlq⟩
              have hco := o13 c (List.mem_of_getElem? hc)
              obtain ⟨c1, c2⟩ := c
              rw [Cal.ok_mk] at hco
              simp (config := { maxSteps := 1000000 }) (disch := first | exact chk_rfl | (unfold Chk; decide +kernel) | omega | (simp only [cells_agg, List.length_cons, List.length_nil, List.length_map, List.length_take, List.length_append, Nat.zero_add, Nat.reduceAdd]; first | done | omega) | fail) only [hc, Cal.pv_mk, push_cast, ↓reduceIte, Nat.reduceEqDiff, Nat.reduceAdd, Nat.reduceMul, Nat.reduceLeDiff, Nat.reduceLT, Nat.reduceBEq, Nat.reduceSub, Int.reduceToNat, Int.reduceNeg]
              refine ACall.pure (same72 c2 hco.2.2 hco.2.1) rfl ?_
              simp (config := { maxSteps := 1000000 }) (disch := first | exact chk_rfl | (unfold Chk; decide +kernel) | omega | (simp only [cells_agg, List.length_cons, List.length_nil, List.length_map, List.length_take, List.length_append, Nat.zero_add, Nat.reduceAdd]; first | done | omega) | fail) only [push_cast, ↓reduceIte, Nat.reduceEqDiff, Nat.reduceAdd, Nat.reduceMul, Nat.reduceLeDiff, Nat.reduceLT, Nat.reduceBEq, Nat.reduceSub, Int.reduceToNat, Int.reduceNeg]
              exact ⟨q + 1, hd_z (by simp (config := { maxSteps := 1000000 }) (disch := first | exact chk_rfl | (unfold Chk; decide +kernel) | omega | (simp only [cells_agg, List.length_cons, List.length_nil, List.length_map, List.length_take, List.length_append, Nat.zero_add, Nat.reduceAdd]; first | done | omega) | fail) only [push_cast, ↓reduceIte, Nat.reduceEqDiff, Nat.reduceAdd, Nat.reduceMul, Nat.reduceLeDiff, Nat.reduceLT, Nat.reduceBEq, Nat.reduceSub, Int.reduceToNat, Int.reduceNeg]), by omega, by omega⟩
            · have hlqI : ¬ (q : Int) < s10.length := by omega
              simp (config := { maxSteps := 1000000 }) (disch := first | exact chk_rfl | (unfold Chk; decide +kernel) | omega | (simp only [cells_agg, List.length_cons, List.length_nil, List.length_map, List.length_take, List.length_append, Nat.zero_add, Nat.reduceAdd]; first | done | omega) | fail) only [push_cast, ↓reduceIte, Nat.reduceEqDiff, Nat.reduceAdd, Nat.reduceMul, Nat.reduceLeDiff, Nat.reduceLT, Nat.reduceBEq, Nat.reduceSub, Int.reduceToNat, Int.reduceNeg]
              refine vc_over ([]) (fun q : Nat => [(11, .pv (.int .i64 (q : Int)))]) (fun q => []) (fun q => q ≤ sb.length) (fun q => sb.length - q) (0) ?_; intro e0 σ0 n0 h0; simp (config := { maxSteps := 1000000 }) (disch := first | exact chk_rfl | (unfold Chk; decide +kernel) | omega | (simp only [cells_agg, List.length_cons, List.length_nil, List.length_map, List.length_take, List.length_append, Nat.zero_add, Nat.reduceAdd]; first | done | omega) | fail) only [push_cast, ↓reduceIte, Nat.reduceEqDiff, Nat.reduceAdd, Nat.reduceMul, Nat.reduceLeDiff, Nat.reduceLT, Nat.reduceBEq, Nat.reduceSub, Int.reduceToNat, Int.reduceNeg] at h0; obtain ⟨rfl, rfl, rfl⟩ := h0; refine ⟨?_, ?_, ?_⟩
              · simp (config := { maxSteps := 1000000 }) (disch := first | exact chk_rfl | (unfold Chk; decide +kernel) | omega | (simp only [cells_agg, List.length_cons, List.length_nil, List.length_map, List.length_take, List.length_append, Nat.zero_add, Nat.reduceAdd]; first | done | omega) | fail) only [push_cast, ↓reduceIte, Nat.reduceEqDiff, Nat.reduceAdd, Nat.reduceMul, Nat.reduceLeDiff, Nat.reduceLT, Nat.reduceBEq, Nat.reduceSub, Int.reduceToNat, Int.reduceNeg]
              · omega
              · intro q hq
                by_cases hlq : q < sb.length
                · have hlqI : (q : Int) < sb.length := by omega
                  obtain ⟨b, hb⟩ : ∃ c, sb[q]? = some c := ⟨_, List.getElem?_eq_getElem hlq⟩
                  obtain ⟨c, hc⟩ : ∃ c, tb[q]? = some c := ⟨_, List.getElem?_eq_getElem (by omega)⟩
                  have hbo := o15 b (List.mem_of_getElem? hb)
                  have hwe := hfw q b c hb hc
                  have hih := hsb q b c hb hc
                  obtain ⟨b1, b2⟩ := b
                  obtain ⟨c1, c2⟩ := c
                  simp only [Bra.when, Bra.steps] at hwe hih
                  obtain rfl := hwe
                  rw [Bra.ok_mk] at hbo
                  have hih' := hih ⟨hbo.2.2.1, hbo.2.2.2⟩
                  simp (config := { maxSteps := 1000000 }) (disch := first | exact chk_rfl | (unfold Chk; decide +kernel) | omega | (simp only [cells_agg, List.length_cons, List.length_nil, List.length_map, List.length_take, List.length_append, Nat.zero_add, Nat.reduceAdd]; first | done | omega) | fail) only [hb, hc, Bra.pv_mk, push_cast, ↓reduceIte, Nat.reduceEqDiff, Nat.reduceAdd, Nat.reduceMul, Nat.reduceLeDiff, Nat.reduceLT, Nat.reduceBEq, Nat.reduceSub, Int.reduceToNat, Int.reduceNeg]
                  refine callDL_pure (same71 b1 hbo.2.1 hbo.1) rfl ?_
                  simp (config := { maxSteps := 1000000 }) (disch := first | exact chk_rfl | (unfold Chk; decide +kernel) | omega | (simp only [cells_agg, List.length_cons, List.length_nil, List.length_map, List.length_take, List.length_append, Nat.zero_add, Nat.reduceAdd]; first | done | omega) | fail) only [hb, hc, Bra.pv_mk, push_cast, ↓reduceIte, Nat.reduceEqDiff, Nat.reduceAdd, Nat.reduceMul, Nat.reduceLeDiff, Nat.reduceLT, Nat.reduceBEq, Nat.reduceSub, Int.reduceToNat, Int.reduceNeg]
                  refine ACall.pure hih' rfl ?_
                  simp (config := { maxSteps := 1000000 }) (disch := first | exact chk_rfl | (unfold Chk; decide +kernel) | omega | (simp only [cells_agg, List.length_cons, List.length_nil, List.length_map, List.length_take, List.length_append, Nat.zero_add, Nat.reduceAdd]; first | done | omega) | fail) only [push_cast, ↓reduceIte, Nat.reduceEqDiff, Nat.reduceAdd, Nat.reduceMul, Nat.reduceLeDiff, Nat.reduceLT, Nat.reduceBEq, Nat.reduceSub, Int.reduceToNat, Int.reduceNeg]
                  exact ⟨q + 1, hd_z (by simp (config := { maxSteps := 1000000 }) (disch := first | exact chk_rfl | (unfold Chk; decide +kernel) | omega | (simp only [cells_agg, List.length_cons, List.length_nil, List.length_map, List.length_take, List.length_append, Nat.zero_add, Nat.reduceAdd]; first | done | omega) | fail) only [push_cast, ↓reduceIte, Nat.reduceEqDiff, Nat.reduceAdd, Nat.reduceMul, Nat.reduceLeDiff, Nat.reduceLT, Nat.reduceBEq, Nat.reduceSub, Int.reduceToNat, Int.reduceNeg]), by omega, by omega⟩
                · have hlqI : ¬ (q : Int) < sb.length := by omega
                  simp (config := { maxSteps := 1000000 }) (disch := first | exact chk_rfl | (unfold Chk; decide +kernel) | omega | (simp only [cells_agg, List.length_cons, List.length_nil, List.length_map, List.length_take, List.length_append, Nat.zero_add, Nat.reduceAdd]; first | done | omega) | fail) only [push_cast, ↓reduceIte, Nat.reduceEqDiff, Nat.reduceAdd, Nat.reduceMul, Nat.reduceLeDiff, Nat.reduceLT, Nat.reduceBEq, Nat.reduceSub, Int.reduceToNat, Int.reduceNeg]
                  exact ⟨m + 1, hd_z (by simp (config := { maxSteps := 1000000 }) (disch := first | exact chk_rfl | (unfold Chk; decide +kernel) | omega | (simp only [cells_agg, List.length_cons, List.length_nil, List.length_map, List.length_take, List.length_append, Nat.zero_add, Nat.reduceAdd]; first | done | omega) | fail) only [push_cast, ↓reduceIte, Nat.reduceEqDiff, Nat.reduceAdd, Nat.reduceMul, Nat.reduceLeDiff, Nat.reduceLT, Nat.reduceBEq, Nat.reduceSub, Int.reduceToNat, Int.reduceNeg]), by omega, by omega⟩
        | true =>
          obtain rfl := hnm rfl
          simp (config := { maxSteps := 1000000 }) (disch := first | exact chk_rfl | (unfold Chk; decide +kernel) | omega | (simp only [cells_agg, List.length_cons, List.length_nil, List.length_map, List.length_take, List.length_append, Nat.zero_add, Nat.reduceAdd]; first | done | omega) | fail) only [hs, ht, Stp.pv_mk, push_cast, ↓reduceIte, Nat.reduceEqDiff, Nat.reduceAdd, Nat.reduceMul, Nat.reduceLeDiff, Nat.reduceLT, Nat.reduceBEq, Nat.reduceSub, Int.reduceToNat, Int.reduceNeg]
          refine ACall.pure (same71 s8 o9 o8) rfl ?_
          simp (config := { maxSteps := 1000000 }) (disch := first | exact chk_rfl | (unfold Chk; decide +kernel) | omega | (simp only [cells_agg, List.length_cons, List.length_nil, List.length_map, List.length_take, List.length_append, Nat.zero_add, Nat.reduceAdd]; first | done | omega) | fail) only [push_cast, ↓reduceIte, Nat.reduceEqDiff, Nat.reduceAdd, Nat.reduceMul, Nat.reduceLeDiff, Nat.reduceLT, Nat.reduceBEq, Nat.reduceSub, Int.reduceToNat, Int.reduceNeg]
          refine ACall.pure (same72 s9 o11 o10) rfl ?_
          simp (config := { maxSteps := 1000000 }) (disch := first | exact chk_rfl | (unfold Chk; decide +kernel) | omega | (simp only [cells_agg, List.length_cons, List.length_nil, List.length_map, List.length_take, List.length_append, Nat.zero_add, Nat.reduceAdd]; first | done | omega) | fail) only [hfbI, push_cast, ↓reduceIte, Nat.reduceEqDiff, Nat.reduceAdd, Nat.reduceMul, Nat.reduceLeDiff, Nat.reduceLT, Nat.reduceBEq, Nat.reduceSub, Int.reduceToNat, Int.reduceNeg]
          refine vc_over ([]) (fun q : Nat => [(10, .pv (.int .i64 (q : Int)))]) (fun q => []) (fun q => q ≤ s10.length) (fun q => s10.length - q) (0) ?_; intro e0 σ0 n0 h0; simp (config := { maxSteps := 1000000 }) (disch := first | exact chk_rfl | (unfold Chk; decide +kernel) | omega | (simp only [cells_agg, List.length_cons, List.length_nil, List.length_map, List.length_take, List.length_append, Nat.zero_add, Nat.reduceAdd]; first | done | omega) | fail) only [push_cast, ↓reduceIte, Nat.reduceEqDiff, Nat.reduceAdd, Nat.reduceMul, Nat.reduceLeDiff, Nat.reduceLT, Nat.reduceBEq, Nat.reduceSub, Int.reduceToNat, Int.reduceNeg] at h0; obtain ⟨rfl, rfl, rfl⟩ := h0; refine ⟨?_, ?_, ?_⟩
          · simp (config := { maxSteps := 1000000 }) (disch := first | exact chk_rfl | (unfold Chk; decide +kernel) | omega | (simp only [cells_agg, List.length_cons, List.length_nil, List.length_map, List.length_take, List.length_append, Nat.zero_add, Nat.reduceAdd]; first | done | omega) | fail) only [push_cast, ↓reduceIte, Nat.reduceEqDiff, Nat.reduceAdd, Nat.reduceMul, Nat.reduceLeDiff, Nat.reduceLT, Nat.reduceBEq, Nat.reduceSub, Int.reduceToNat, Int.reduceNeg]
          · omega
          · intro q hq
            by_cases hlq : q < s10.length
            · have hlqI : (q : Int) < s10.length := by omega
              obtain ⟨c, hc⟩ : ∃ c, s10[q]? = some c := ⟨_, List.getElem?_eq_getElem hlq⟩
              have hco := o13 c (List.mem_of_getElem? hc)
              obtain ⟨c1, c2⟩ := c
              rw [Cal.ok_mk] at hco
              simp (config := { maxSteps := 1000000 }) (disch := first | exact chk_rfl | (unfold Chk; decide +kernel) | omega | (simp only [cells_agg, List.length_cons, List.length_nil, List.length_map, List.length_take, List.length_append, Nat.zero_add, Nat.reduceAdd]; first | done | omega) | fail) only [hc, Cal.pv_mk, push_cast, ↓reduceIte, Nat.reduceEqDiff, Nat.reduceAdd, Nat.reduceMul, Nat.reduceLeDiff, Nat.reduceLT, Nat.reduceBEq, Nat.reduceSub, Int.reduceToNat, Int.reduceNeg]
              refine ACall.pure (same72 c2 hco.2.2 hco.2.1) rfl ?_
              simp (config := { maxSteps := 1000000 }) (disch := first | exact chk_rfl | (unfold Chk; decide +kernel) | omega | (simp only [cells_agg, List.length_cons, List.length_nil, List.length_map, List.length_take, List.length_append, Nat.zero_add, Nat.reduceAdd]; first | done | omega) | fail) only [push_cast, ↓reduceIte, Nat.reduceEqDiff, Nat.reduceAdd, Nat.reduceMul, Nat.reduceLeDiff, Nat.reduceLT, Nat.reduceBEq, Nat.reduceSub, Int.reduceToNat, Int.reduceNeg]
              exact ⟨q + 1, hd_z (by simp (config := { maxSteps := 1000000 }) (disch := first | exact chk_rfl | (unfold Chk; decide +kernel) | omega | (simp only [cells_agg, List.length_cons, List.length_nil, List.length_map, List.length_take, List.length_append, Nat.zero_add, Nat.reduceAdd]; first | done | omega) | fail) only [push_cast, ↓reduceIte, Nat.reduceEqDiff, Nat.reduceAdd, Nat.reduceMul, Nat.reduceLeDiff, Nat.reduceLT, Nat.reduceBEq, Nat.reduceSub, Int.reduceToNat, Int.reduceNeg]), by omega, by omega⟩
            · have hlqI : ¬ (q : Int) < s10.length := by omega
              simp (config := { maxSteps := 1000000 }) (disch := first | exact chk_rfl | (unfold Chk; decide +kernel) | omega | (simp only [cells_agg, List.length_cons, List.length_nil, List.length_map, List.length_take, List.length_append, Nat.zero_add, Nat.reduceAdd]; first | done | omega) | fail) only [push_cast, ↓reduceIte, Nat.reduceEqDiff, Nat.reduceAdd, Nat.reduceMul, Nat.reduceLeDiff, Nat.reduceLT, Nat.reduceBEq, Nat.reduceSub, Int.reduceToNat, Int.reduceNeg]
              refine vc_over ([]) (fun q : Nat => [(11, .pv (.int .i64 (q : Int)))]) (fun q => []) (fun q => q ≤ sb.length) (fun q => sb.length - q) (0) ?_; intro e0 σ0 n0 h0; simp (config := { maxSteps := 1000000 }) (disch := first | exact chk_rfl | (unfold Chk; decide +kernel) | omega | (simp only [cells_agg, List.length_cons, List.length_nil, List.length_map, List.length_take, List.length_append, Nat.zero_add, Nat.reduceAdd]; first | done | omega) | fail) only [push_cast, ↓reduceIte, Nat.reduceEqDiff, Nat.reduceAdd, Nat.reduceMul, Nat.reduceLeDiff, Nat.reduceLT, Nat.reduceBEq, Nat.reduceSub, Int.reduceToNat, Int.reduceNeg] at h0; obtain ⟨rfl, rfl, rfl⟩ := h0; refine ⟨?_, ?_, ?_⟩
              · simp (config := { maxSteps := 1000000 }) (disch := first | exact chk_rfl | (unfold Chk; decide +kernel) | omega | (simp only [cells_agg, List.length_cons, List.length_nil, List.length_map, List.length_take, List.length_append, Nat.zero_add, Nat.reduceAdd]; first | done | omega) | fail) only [push_cast, ↓reduceIte, Nat.reduceEqDiff, Nat.reduceAdd, Nat.reduceMul, Nat.reduceLeDiff, Nat.reduceLT, Nat.reduceBEq, Nat.reduceSub, Int.reduceToNat, Int.reduceNeg]
              · omega
              · intro q hq
                by_cases hlq : q < sb.length
                · have hlqI : (q : Int) < sb.length := by omega
                  obtain ⟨b, hb⟩ : ∃ c, sb[q]? = some c := ⟨_, List.getElem?_eq_getElem hlq⟩
                  obtain ⟨c, hc⟩ : ∃ c, tb[q]? = some c := ⟨_, List.getElem?_eq_getElem (by omega)⟩
                  have hbo := o15 b (List.mem_of_getElem? hb)
                  have hwe := hfw q b c hb hc
                  have hih := hsb q b c hb hc
                  obtain ⟨b1, b2⟩ := b
                  obtain ⟨c1, c2⟩ := c
                  simp only [Bra.when, Bra.steps] at hwe hih
                  obtain rfl := hwe
                  rw [Bra.ok_mk] at hbo
                  have hih' := hih ⟨hbo.2.2.1, hbo.2.2.2⟩
                  simp (config := { maxSteps := 1000000 }) (disch := first | exact chk_rfl | (unfold Chk; decide +kernel) | omega | (simp only [cells_agg, List.length_cons, List.length_nil, List.length_map, List.length_take, List.length_append, Nat.zero_add, Nat.reduceAdd]; first | done | omega) | fail) only [hb, hc, Bra.pv_mk, push_cast, ↓reduceIte, Nat.reduceEqDiff, Nat.reduceAdd, Nat.reduceMul, Nat.reduceLeDiff, Nat.reduceLT, Nat.reduceBEq, Nat.reduceSub, Int.reduceToNat, Int.reduceNeg]
                  refine callDL_pure (same71 b1 hbo.2.1 hbo.1) rfl ?_
                  simp (config := { maxSteps := 1000000 }) (disch := first | exact chk_rfl | (unfold Chk; decide +kernel) | omega | (simp only [cells_agg, List.length_cons, List.length_nil, List.length_map, List.length_take, List.length_append, Nat.zero_add, Nat.reduceAdd]; first | done | omega) | fail) only [hb, hc, Bra.pv_mk, push_cast, ↓reduceIte, Nat.reduceEqDiff, Nat.reduceAdd, Nat.reduceMul, Nat.reduceLeDiff, Nat.reduceLT, Nat.reduceBEq, Nat.reduceSub, Int.reduceToNat, Int.reduceNeg]
                  refine ACall.pure hih' rfl ?_
                  simp (config := { maxSteps := 1000000 }) (disch := first | exact chk_rfl | (unfold Chk; decide +kernel) | omega | (simp only [cells_agg, List.length_cons, List.length_nil, List.length_map, List.length_take, List.length_append, Nat.zero_add, Nat.reduceAdd]; first | done | omega) | fail) only [push_cast, ↓reduceIte, Nat.reduceEqDiff, Nat.reduceAdd, Nat.reduceMul, Nat.reduceLeDiff, Nat.reduceLT, Nat.reduceBEq, Nat.reduceSub, Int.reduceToNat, Int.reduceNeg]
                  exact ⟨q + 1, hd_z (by simp (config := { maxSteps := 1000000 }) (disch := first | exact chk_rfl | (unfold Chk; decide +kernel) | omega | (simp only [cells_agg, List.length_cons, List.length_nil, List.length_map, List.length_take, List.length_append, Nat.zero_add, Nat.reduceAdd]; first | done | omega) | fail) only [push_cast, ↓reduceIte, Nat.reduceEqDiff, Nat.reduceAdd, Nat.reduceMul, Nat.reduceLeDiff, Nat.reduceLT, Nat.reduceBEq, Nat.reduceSub, Int.reduceToNat, Int.reduceNeg]), by omega, by omega⟩
                · have hlqI : ¬ (q : Int) < sb.length := by omega
                  simp (config := { maxSteps := 1000000 }) (disch := first | exact chk_rfl | (unfold Chk; decide +kernel) | omega | (simp only [cells_agg, List.length_cons, List.length_nil, List.length_map, List.length_take, List.length_append, Nat.zero_add, Nat.reduceAdd]; first | done | omega) | fail) only [push_cast, ↓reduceIte, Nat.reduceEqDiff, Nat.reduceAdd, Nat.reduceMul, Nat.reduceLeDiff, Nat.reduceLT, Nat.reduceBEq, Nat.reduceSub, Int.reduceToNat, Int.reduceNeg]
                  exact ⟨m + 1, hd_z (by simp (config := { maxSteps := 1000000 }) (disch := first | exact chk_rfl | (unfold Chk; decide +kernel) | omega | (simp only [cells_agg, List.length_cons, List.length_nil, List.length_map, List.length_take, List.length_append, Nat.zero_add, Nat.reduceAdd]; first | done | omega) | fail) only [push_cast, ↓reduceIte, Nat.reduceEqDiff, Nat.reduceAdd, Nat.reduceMul, Nat.reduceLeDiff, Nat.reduceLT, Nat.reduceBEq, Nat.reduceSub, Int.reduceToNat, Int.reduceNeg]), by omega, by omega⟩
      · have hltI : ¬ (m : Int) < l.length := by omega
        simp (config := { maxSteps := 1000000 }) (disch := first | exact chk_rfl | (unfold Chk; decide +kernel) | omega | (simp only [cells_agg, List.length_cons, List.length_nil, List.length_map, List.length_take, List.length_append, Nat.zero_add, Nat.reduceAdd]; first | done | omega) | fail) only [push_cast, ↓reduceIte, Nat.reduceEqDiff, Nat.reduceAdd, Nat.reduceMul, Nat.reduceLeDiff, Nat.reduceLT, Nat.reduceBEq, Nat.reduceSub, Int.reduceToNat, Int.reduceNeg]
end Go.Proofs.YtfbakipopjoghaaDoor
