/- A part of the proof for ResolveSchemasCardSaid. -/
import Derived.Test.YtfbakipopjoghaaDoorScheXI
set_option maxRecDepth 100000
set_option linter.unusedVariables false
set_option linter.unusedSimpArgs false
namespace Go.Proofs.YtfbakipopjoghaaDoor
open Go Go.Ab

theorem shortV1_ok {rec : Val → Val} {on : Bool} (hr : on = true → ∀ v, v.ok → (rec v).ok) (v : Val) (h : v.ok) : (shortV1 rec on v).ok := by
  obtain ⟨a, b, c, d, e, f⟩ := v
  rw [Val.ok_mk] at h
  rw [shortV1, Val.ok_mk]
  obtain ⟨h1, h2, h3, h4, h5, h6, h7, h8⟩ := h
  refine ⟨h1, h2, h3, take_le h4, ?_, ?_, ?_, ?_⟩
  · split
    · rw [List.length_map]; exact take_le h5
    · simp
  · split
    · rename_i hon
      intro x hx
      obtain ⟨y, hy, rfl⟩ := List.mem_map.1 hx
      exact hr hon y (mem_take h6 _ hy)
    · simp
  · split
    · rw [List.length_map]; exact take_le h7
    · simp
  · split
    · rename_i hon
      intro x hx
      obtain ⟨⟨y, z⟩, hy, rfl⟩ := List.mem_map.1 hx
      have := mem_take h8 _ hy
      rw [Fld.ok_mk] at this
      rw [shortF, Fld.ok_mk]
      exact ⟨take_le this.1, hr hon z this.2⟩
    · simp
theorem shortV_ok : ∀ (n : Nat) (v : Val), v.ok → (shortV n v).ok
  | 0, v, h => shortV1_ok (fun h => by cases h) v h
  | n + 1, v, h => shortV1_ok (fun _ v hv => shortV_ok n v hv) v h
theorem shortT1_ok {rec : Typ → Typ} {on : Bool} (hr : on = true → ∀ v, v.ok → (rec v).ok) (v : Typ) (h : v.ok) : (shortT1 rec on v).ok := by
  obtain ⟨a, b, c, d, w, e, f⟩ := v
  rw [Typ.ok_mk] at h
  rw [shortT1, Typ.ok_mk]
  obtain ⟨h1, h2, h3, h4, h5, h6, h7, h8, h9, h10⟩ := h
  refine ⟨h1, h2, h3, h4, ?_, ?_, ?_, ?_, ?_, ?_⟩
  · rw [List.length_map]; exact take_le h5
  · intro x hx
    obtain ⟨y, hy, rfl⟩ := List.mem_map.1 hx
    exact take_le (mem_take h6 _ hy)
  · split
    · rw [List.length_map]; exact take_le h7
    · simp
  · split
    · rename_i hon
      intro x hx
      obtain ⟨y, hy, rfl⟩ := List.mem_map.1 hx
      exact hr hon y (mem_take h8 _ hy)
    · simp
  · split
    · rw [List.length_map]; exact take_le h9
    · simp
  · split
    · rename_i hon
      intro x hx
      obtain ⟨⟨a, b, c, t, d⟩, hy, rfl⟩ := List.mem_map.1 hx
      have := mem_take h10 _ hy
      rw [TFd.ok_mk] at this
      rw [shortTF, TFd.ok_mk]
      obtain ⟨k1, k2, k3, k4, k5, k6⟩ := this
      refine ⟨k1, take_le k2, k3, hr hon t k4, by rw [List.length_map]; exact take_le k5, fun x hx => ?_⟩
      obtain ⟨y, hy, rfl⟩ := List.mem_map.1 hx
      exact shortV_ok 3 y (mem_take k6 _ hy)
    · simp
theorem shortT_ok : ∀ (n : Nat) (v : Typ), v.ok → (shortT n v).ok
  | 0, v, h => shortT1_ok (fun h => by cases h) v h
  | n + 1, v, h => shortT1_ok (fun _ v hv => shortT_ok n v hv) v h
theorem shortP_ok (p : Prg) (h : p.ok) : (shortP p).ok := by
  obtain ⟨v, ss, es, ws, rs⟩ := p
  rw [Prg.ok_mk] at h
  rw [shortP, Prg.ok_mk]
  obtain ⟨h1, h2, h3, h4, h5, h6, h7, h8, h9⟩ := h
  refine ⟨h1, ?_, ?_, ?_, ?_, ?_, ?_, ?_, ?_⟩
  · rw [List.length_map]; exact take_le h2
  · intro x hx
    obtain ⟨⟨a, b, c⟩, hy, rfl⟩ := List.mem_map.1 hx
    have := mem_take h3 _ hy
    rw [Sch.ok_mk] at this
    rw [cutSch, Sch.ok_mk]
    exact ⟨take_le this.1, this.2.1, shortT_ok 4 _ this.2.2⟩
  · rw [List.length_map]; exact take_le h4
  · intro x hx
    obtain ⟨⟨a, b, c, d, ⟨e, f, g⟩⟩, hy, rfl⟩ := List.mem_map.1 hx
    have := mem_take h5 _ hy
    rw [Enp.ok_mk, Fmt.ok_mk] at this
    rw [cutEnp, cutFmt, Enp.ok_mk, Fmt.ok_mk]
    obtain ⟨k1, k2, k3, k4, k5, k6, k7, k8⟩ := this
    exact ⟨take_le k1, k2, take_le k3, k4, k5, k6, take_le k7, mem_take k8⟩
  · rw [List.length_map]; exact take_le h6
  · intro x hx
    obtain ⟨⟨a, b, c, d⟩, hy, rfl⟩ := List.mem_map.1 hx
    have := mem_take h7 _ hy
    rw [Svc.ok_mk] at this
    rw [cutSvc, Svc.ok_mk]
    exact ⟨take_le this.1, take_le this.2.1, take_le this.2.2⟩
  · rw [List.length_map]; exact take_le h8
  · intro x hx
    obtain ⟨⟨a, b, c⟩, hy, rfl⟩ := List.mem_map.1 hx
    have := mem_take h9 _ hy
    rw [Rou.ok_mk] at this
    rw [cutRou, Rou.ok_mk]
    have hq := shortS_ok 4 c ⟨this.2.2.1, this.2.2.2⟩
    exact ⟨take_le this.1, take_le this.2.1, hq.1, hq.2⟩

/-- What became of a place where something was looked for. -/
theorem three {α : Type} (l : List α) (m : Nat) (q : α → Bool) : (¬ m < l.length ∧ firstI l q m = firstI l q (m + 1)) ∨ (∃ x, m < l.length ∧ l[m]? = some x ∧ q x = false ∧ firstI l q m = firstI l q (m + 1)) ∨ (∃ x, m < l.length ∧ l[m]? = some x ∧ q x = true ∧ firstI l q m = m) := by
  by_cases h : m < l.length
  · have hx := List.getElem?_eq_getElem h
    cases hq : q l[m] with
    | true => exact .inr (.inr ⟨_, h, hx, hq, firstI_eq hx hq⟩)
    | false => exact .inr (.inl ⟨_, h, hx, hq, firstI_ne hx hq⟩)
  · exact .inl ⟨h, firstI_none q h⟩

theorem beq_dec {p : Prop} (i j : Decidable p) : (@decide p i == @decide p j) = true := by
  have : i = j := Subsingleton.elim _ _
  subst this; cases i <;> rfl

set_option maxHeartbeats 8000000 in
theorem lookups_law (p : Prg) (name : List UInt8) (hp : p.ok) : Pure Tryd.prog tabG 5 [p.pv, .str name] (.bool true) := by
  have hs := short_ok p hp
  have ho := shortP_ok p hp
  have hlen : (shortP p).endpoints.length ≤ 6 ∧ (shortP p).services.length ≤ 6 ∧ (shortP p).routes.length ≤ 6 := by
    obtain ⟨v, ss, es, ws, rs⟩ := p
    refine ⟨?_, ?_, ?_⟩ <;> simp [shortP, Prg.endpoints, Prg.services, Prg.routes] <;> omega
  have h1 := find23 (shortP p) (name.take 70) ho
  have h2 := find24 (shortP p) (name.take 70) ho
  have h3 := find25 (shortP p) (name.take 70) ho
  obtain ⟨v0, ss0, es0, ws0, rs0⟩ := p
  generalize shortP (.mk v0 ss0 es0 ws0 rs0) = P at *
  obtain ⟨v, ss, es, ws, rs⟩ := P
  rw [Prg.pv_mk] at h1 h2 h3
  rw [Prg.pv_mk, Prg.pv_mk] at hs
  simp only [Prg.endpoints, Prg.services, Prg.routes] at h1 h2 h3 hlen
  obtain ⟨hel, hwl, hrl⟩ := hlen
  generalize hnm : name.take 70 = nm at *
  obtain ⟨qe, hqe⟩ : ∃ q : Enp → Bool, q = fun x => decide (x.name = nm) := ⟨_, rfl⟩
  obtain ⟨qw, hqw⟩ : ∃ q : Svc → Bool, q = fun x => decide (x.name = nm) := ⟨_, rfl⟩
  obtain ⟨qr, hqr⟩ : ∃ q : Rou → Bool, q = fun x => decide (x.src = nm) := ⟨_, rfl⟩
  rw [← hqe] at h1
  rw [← hqw] at h2
  rw [← hqr] at h3
  refine Pure.intro F5_ok (by simp [F5]) ?_
  simp (config := { maxSteps := 1000000 }) (disch := first | exact chk_rfl | (unfold Chk; decide +kernel) | omega | (simp only [cells_agg, List.length_cons, List.length_nil, List.length_map, List.length_take, List.length_append, Nat.zero_add, Nat.reduceAdd]; first | done | omega) | fail) only [F5o0, F5o1, F5o2, F5o3, F5o4, F5o5, F5o6, F5o7, F5o8, F5o9, F5o10, F5o11, F5o12, F5o13, F5o14, F5b15, F5o16, F5c, F5, Prg.pv_mk, push_cast, ↓reduceIte, Nat.reduceEqDiff, Nat.reduceAdd, Nat.reduceMul, Nat.reduceLeDiff, Nat.reduceLT, Nat.reduceBEq, Nat.reduceSub, Int.reduceToNat, Int.reduceNeg]
  refine ACall.pure hs rfl ?_
  simp (config := { maxSteps := 1000000 }) (disch := first | exact chk_rfl | (unfold Chk; decide +kernel) | omega | (simp only [cells_agg, List.length_cons, List.length_nil, List.length_map, List.length_take, List.length_append, Nat.zero_add, Nat.reduceAdd]; first | done | omega) | fail) only [push_cast, ↓reduceIte, Nat.reduceEqDiff, Nat.reduceAdd, Nat.reduceMul, Nat.reduceLeDiff, Nat.reduceLT, Nat.reduceBEq, Nat.reduceSub, Int.reduceToNat, Int.reduceNeg]
  have hcut := cut_ok name
  rw [hnm] at hcut
  refine ACall.pure hcut rfl ?_
  simp (config := { maxSteps := 1000000 }) (disch := first | exact chk_rfl | (unfold Chk; decide +kernel) | omega | (simp only [cells_agg, List.length_cons, List.length_nil, List.length_map, List.length_take, List.length_append, Nat.zero_add, Nat.reduceAdd]; first | done | omega) | fail) only [push_cast, ↓reduceIte, Nat.reduceEqDiff, Nat.reduceAdd, Nat.reduceMul, Nat.reduceLeDiff, Nat.reduceLT, Nat.reduceBEq, Nat.reduceSub, Int.reduceToNat, Int.reduceNeg]
  refine ACall.pure h1 rfl ?_
  simp (config := { maxSteps := 1000000 }) (disch := first | exact chk_rfl | (unfold Chk; decide +kernel) | omega | (simp only [cells_agg, List.length_cons, List.length_nil, List.length_map, List.length_take, List.length_append, Nat.zero_add, Nat.reduceAdd]; first | done | omega) | fail) only [push_cast, ↓reduceIte, Nat.reduceEqDiff, Nat.reduceAdd, Nat.reduceMul, Nat.reduceLeDiff, Nat.reduceLT, Nat.reduceBEq, Nat.reduceSub, Int.reduceToNat, Int.reduceNeg]
  refine ACall.pure h2 rfl ?_
  simp (config := { maxSteps := 1000000 }) (disch := first | exact chk_rfl | (unfold Chk; decide +kernel) | omega | (simp only [cells_agg, List.length_cons, List.length_nil, List.length_map, List.length_take, List.length_append, Nat.zero_add, Nat.reduceAdd]; first | done | omega) | fail) only [push_cast, ↓reduceIte, Nat.reduceEqDiff, Nat.reduceAdd, Nat.reduceMul, Nat.reduceLeDiff, Nat.reduceLT, Nat.reduceBEq, Nat.reduceSub, Int.reduceToNat, Int.reduceNeg]
  refine ACall.pure h3 rfl ?_
  simp (config := { maxSteps := 1000000 }) (disch := first | exact chk_rfl | (unfold Chk; decide +kernel) | omega | (simp only [cells_agg, List.length_cons, List.length_nil, List.length_map, List.length_take, List.length_append, Nat.zero_add, Nat.reduceAdd]; first | done | omega) | fail) only [push_cast, ↓reduceIte, Nat.reduceEqDiff, Nat.reduceAdd, Nat.reduceMul, Nat.reduceLeDiff, Nat.reduceLT, Nat.reduceBEq, Nat.reduceSub, Int.reduceToNat, Int.reduceNeg]
  refine vc_over ([]) (fun m : Nat => [(11, .pv (.int .i64 (firstI es qe m))), (12, .pv (.int .i64 (firstI ws qw m))), (13, .pv (.int .i64 (firstI rs qr m))), (14, .pv (.int .i64 ((m : Int) - 1)))]) (fun _ => []) (fun m => m ≤ 6) (fun m => m) (6) ?_; intro e0 σ0 n0 h0; simp (config := { maxSteps := 1000000 }) (disch := first | exact chk_rfl | (unfold Chk; decide +kernel) | omega | (simp only [cells_agg, List.length_cons, List.length_nil, List.length_map, List.length_take, List.length_append, Nat.zero_add, Nat.reduceAdd]; first | done | omega) | fail) only [push_cast, ↓reduceIte, Nat.reduceEqDiff, Nat.reduceAdd, Nat.reduceMul, Nat.reduceLeDiff, Nat.reduceLT, Nat.reduceBEq, Nat.reduceSub, Int.reduceToNat, Int.reduceNeg] at h0; obtain ⟨rfl, rfl, rfl⟩ := h0; refine ⟨?_, ?_, ?_⟩
  · simp (config := { maxSteps := 1000000 }) (disch := first | exact chk_rfl | (unfold Chk; decide +kernel) | omega | (simp only [cells_agg, List.length_cons, List.length_nil, List.length_map, List.length_take, List.length_append, Nat.zero_add, Nat.reduceAdd]; first | done | omega) | fail) only [firstI_end qe hel, firstI_end qw hwl, firstI_end qr hrl, push_cast, ↓reduceIte, Nat.reduceEqDiff, Nat.reduceAdd, Nat.reduceMul, Nat.reduceLeDiff, Nat.reduceLT, Nat.reduceBEq, Nat.reduceSub, Int.reduceToNat, Int.reduceNeg]
    simp
  · omega
  intro m hm
  by_cases hm0 : m = 0
  · subst hm0
    have hneg : ¬ (0 : Int) ≤ ((0 : Nat) : Int) - 1 := by omega
    simp (config := { maxSteps := 1000000 }) (disch := first | exact chk_rfl | (unfold Chk; decide +kernel) | omega | (simp only [cells_agg, List.length_cons, List.length_nil, List.length_map, List.length_take, List.length_append, Nat.zero_add, Nat.reduceAdd]; first | done | omega) | fail) only [firstI_zero, push_cast, ↓reduceIte, Nat.reduceEqDiff, Nat.reduceAdd, Nat.reduceMul, Nat.reduceLeDiff, Nat.reduceLT, Nat.reduceBEq, Nat.reduceSub, Int.reduceToNat, Int.reduceNeg]
    refine ACall.pure known_ok rfl ?_
    simp (config := { maxSteps := 1000000 }) (disch := first | exact chk_rfl | (unfold Chk; decide +kernel) | omega | (simp only [cells_agg, List.length_cons, List.length_nil, List.length_map, List.length_take, List.length_append, Nat.zero_add, Nat.reduceAdd]; first | done | omega) | fail) only [beq_self_eq_true, beq_dec, hasI, push_cast, ↓reduceIte, Nat.reduceEqDiff, Nat.reduceAdd, Nat.reduceMul, Nat.reduceLeDiff, Nat.reduceLT, Nat.reduceBEq, Nat.reduceSub, Int.reduceToNat, Int.reduceNeg]
  · obtain ⟨m, rfl⟩ : ∃ k, m = k + 1 := ⟨m - 1, by omega⟩
    have hm1 : m ≤ 5 := by omega
    clear h1 h2 h3 hs hcut ho hp hnm
    rcases three es m qe with ⟨a1, a2⟩ | ⟨x, a1, a3, a4, a2⟩ | ⟨x, a1, a3, a4, a2⟩ <;> rcases three ws m qw with ⟨b1, b2⟩ | ⟨y, b1, b3, b4, b2⟩ | ⟨y, b1, b3, b4, b2⟩ <;> rcases three rs m qr with ⟨c1, c2⟩ | ⟨z, c1, c3, c4, c2⟩ | ⟨z, c1, c3, c4, c2⟩
    all_goals
      try (have a1I : ¬ (m : Int) < es.length := by omega)
      try (have a1I : (m : Int) < es.length := by omega)
      try (have b1I : ¬ (m : Int) < ws.length := by omega)
      try (have b1I : (m : Int) < ws.length := by omega)
      try (have c1I : ¬ (m : Int) < rs.length := by omega)
      try (have c1I : (m : Int) < rs.length := by omega)
      try obtain ⟨x1, x2, x3, x4, f1, f2, f3⟩ := x
      try obtain ⟨y1, y2, y3, y4⟩ := y
      try obtain ⟨z1, z2, z3⟩ := z
      try (have a5 : x1 = nm := by rw [hqe] at a4; exact of_decide_eq_true a4)
      try (have a5 : ¬ x1 = nm := by rw [hqe] at a4; exact of_decide_eq_false a4)
      try (have b5 : y1 = nm := by rw [hqw] at b4; exact of_decide_eq_true b4)
      try (have b5 : ¬ y1 = nm := by rw [hqw] at b4; exact of_decide_eq_false b4)
      try (have c5 : z2 = nm := by rw [hqr] at c4; exact of_decide_eq_true c4)
      try (have c5 : ¬ z2 = nm := by rw [hqr] at c4; exact of_decide_eq_false c4)
      clear hqe hqw hqr
      try clear a4
      try clear b4
      try clear c4
      simp (config := { maxSteps := 1000000 }) (disch := first | exact chk_rfl | (unfold Chk; decide +kernel) | omega | (simp only [cells_agg, List.length_cons, List.length_nil, List.length_map, List.length_take, List.length_append, Nat.zero_add, Nat.reduceAdd]; first | done | omega) | fail) only [Int.add_sub_cancel, Enp.pv_mk, Fmt.pv_mk, Svc.pv_mk, Rou.pv_mk, eq_self, *, push_cast, ↓reduceIte, Nat.reduceEqDiff, Nat.reduceAdd, Nat.reduceMul, Nat.reduceLeDiff, Nat.reduceLT, Nat.reduceBEq, Nat.reduceSub, Int.reduceToNat, Int.reduceNeg]
      exact ⟨m, hd_z (by simp (config := { maxSteps := 1000000 }) (disch := first | exact chk_rfl | (unfold Chk; decide +kernel) | omega | (simp only [cells_agg, List.length_cons, List.length_nil, List.length_map, List.length_take, List.length_append, Nat.zero_add, Nat.reduceAdd]; first | done | omega) | fail) only [*, push_cast, ↓reduceIte, Nat.reduceEqDiff, Nat.reduceAdd, Nat.reduceMul, Nat.reduceLeDiff, Nat.reduceLT, Nat.reduceBEq, Nat.reduceSub, Int.reduceToNat, Int.reduceNeg]), by omega, by omega⟩

theorem lookups_of (p0 p1 : PV) (h0 : HasT Tryd.prog 44 p0) (h1 : HasT Tryd.prog 9 p1) : Pure Tryd.prog tabG 5 [p0, p1] (.bool true) := by
  obtain ⟨p, rfl, hp⟩ := hasT_Prg h0
  obtain ⟨s, rfl, hs⟩ := hasT_str h1 Tryd.underlying9
  exact lookups_law p s hp
end Go.Proofs.YtfbakipopjoghaaDoor
