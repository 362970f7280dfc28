/- A part of the proof for ResolveWalksCardSaid. -/
import Derived.Test.YtfbakipopjoghaaDoorWalkXW7
import Derived.Test.YtfbakipopjoghaaDoorWalkXQ2
set_option maxRecDepth 100000
set_option linter.unusedVariables false
set_option linter.unusedSimpArgs false
namespace Go.Proofs.YtfbakipopjoghaaDoor
open Go Go.Ab

theorem shortS_bnd : ∀ (n : Nat) (l : List Stp), Bnd (n + 1) (shortS n l)
  | 0, l => by
    refine ⟨shortS_len 0 l, fun s hs => ?_⟩
    rw [shortS] at hs
    obtain ⟨y, hy, rfl⟩ := List.mem_map.1 hs
    obtain ⟨a, b, c, d, e, f, g, h, i, j, k⟩ := y
    have hb : (short1 id false (Stp.mk a b c d e f g h i j k)).branches = [] := _root_.id rfl
    rw [hb]
    exact ⟨by simp, by simp⟩
  | n + 1, l => by
    refine ⟨shortS_len (n + 1) l, fun s hs => ?_⟩
    rw [shortS] at hs
    obtain ⟨y, hy, rfl⟩ := List.mem_map.1 hs
    obtain ⟨a, b, c, d, e, f, g, h, i, j, k⟩ := y
    have hb : (short1 (shortS n) true (Stp.mk a b c d e f g h i j k)).branches = (k.take 4).map (cutB (shortS n)) := _root_.id rfl
    rw [hb]
    refine ⟨by simp; omega, fun x hx => ?_⟩
    obtain ⟨⟨w, m⟩, _, rfl⟩ := List.mem_map.1 hx
    exact shortS_bnd n m
theorem cutRou_steps (r : Rou) : (cutRou r).steps = shortS 4 r.steps := by
  obtain ⟨a, b, c⟩ := r; rfl
theorem shortP_routes (p : Prg) : (shortP p).routes = (p.routes.take 6).map cutRou := by
  obtain ⟨v, ss, es, ws, rs⟩ := p; rfl
theorem shortP_okW (p : Prg) (hp : p.ok) : okW 5 (shortP p) := by
  rw [okW, shortP_routes]
  refine ⟨by simp; omega, fun r hr => ?_⟩
  obtain ⟨y, hy, rfl⟩ := List.mem_map.1 hr
  rw [cutRou_steps]
  refine ⟨shortS_bnd 4 _, shortS_ok 4 _ ?_⟩
  obtain ⟨v, ss, es, ws, rs⟩ := p
  rw [Prg.ok_mk] at hp
  obtain ⟨_, _, _, _, _, _, _, _, hro⟩ := hp
  have := hro y (List.mem_of_mem_take hy)
  obtain ⟨a, b, c⟩ := y
  rw [Rou.ok_mk] at this
  exact ⟨this.2.2.1, this.2.2.2⟩

theorem atS_ok : ∀ (q : List Int) (l : List Stp) (s : Stp), atS q l = some s → (∀ x ∈ l, x.ok) → s.ok
  | [], l, s, h, _ => by simp [atS] at h
  | [i], l, s, h, ho => by
    simp only [atS] at h
    split at h
    · exact ho s (List.mem_of_getElem? h)
    · cases h
  | i :: b :: r, l, s, h, ho => by
    simp only [atS] at h
    split at h
    · split at h
      · rename_i t ht
        split at h
        · split at h
          · rename_i x hx
            have hto := ho t (List.mem_of_getElem? ht)
            refine atS_ok r _ s h ?_
            obtain ⟨x1, x2, x3, x4, x5, x6, x7, x8, x9, x10, k⟩ := t
            rw [Stp.ok_mk] at hto
            obtain ⟨_, _, _, _, _, _, _, _, _, _, _, _, _, _, hk⟩ := hto
            have hxo := hk x (List.mem_of_getElem? hx)
            obtain ⟨y1, y2⟩ := x
            rw [Bra.ok_mk] at hxo
            exact hxo.2.2.2
          · cases h
        · cases h
      · cases h
    · cases h
theorem atP_ok {n : Nat} {p : Prg} (hp : okW n p) {route : Int} {place : List Int} {s : Stp} (h : atP p route place = some s) : s.ok := by
  unfold atP at h
  split at h
  · split at h
    · rename_i r hr
      exact atS_ok _ _ _ h (hp.2 r (List.mem_of_getElem? hr)).2.2
    · cases h
  · cases h
theorem zeroS_ok : zeroS.ok := by
  rw [zeroS, Stp.ok_mk]; simp [I64]

/-- Whether a place was met. -/
def metW (W : List Wkd) (route : Int) (place : List Int) : Bool := W.any fun w => decide (w.route = route) && decide (w.place = place)
theorem metW_snoc (W : List Wkd) (w : Wkd) (route : Int) (place : List Int) : metW (W ++ [w]) route place = (metW W route place || (decide (w.route = route) && decide (w.place = place))) := by
  simp [metW]
theorem metW_at {n : Nat} {p : Prg} (hp : okW n p) (route : Int) (place : List Int) : metW (walkW n p) route place = (atP p route place).isSome := by
  cases h : atP p route place with
  | none =>
    rw [Option.isSome_none, metW, List.any_eq_false]
    intro w hw
    simp only [Bool.and_eq_true, decide_eq_true_eq, not_and]
    rintro rfl rfl
    have := (walkW_at hw).1
    rw [h] at this; cases this
  | some s =>
    rw [Option.isSome_some, metW, List.any_eq_true]
    exact ⟨_, at_walkW hp h, by simp [Wkd.route, Wkd.place]⟩

set_option maxHeartbeats 8000000 in
theorem walks_law (p : Prg) (hp : p.ok) (route : Int) (place : List Int) (hm : place.length * 8 ≤ 140737488351232) : Pure Tryd.prog tabG 9 [p.pv, .int .i64 route, .list (place.map (PV.int .i64))] (.bool true) := by
  have hok := shortP_okW p hp
  have hshort := short_ok p hp
  generalize hq : shortP p = q at hok hshort
  have hcnt : cnt 5 = 8659208 := by decide
  have h36 := small36 5 (by omega) (by omega) q hok
  have h37 := walk37 5 (by omega) (by omega) q hok
  have h38 := walk38 5 (by omega) (by omega) q hok
  have h39 := at39 q (fun r hr => ⟨by have := (hok.2 r hr).1.1; omega, (hok.2 r hr).2.2⟩) (by have := hok.1; omega)
  have hmet := metW_at hok
  have hwat := fun w (hw : w ∈ walkW 5 q) => walkW_at (n := 5) (p := q) hw
  generalize hW : walkW 5 q = W at h36 h37 h38 hmet hwat
  refine Pure.intro F9_ok (by simp [F9]) ?_
  obtain ⟨q1, q2, q3, q4, q5⟩ := q
  obtain ⟨p1, p2, p3, p4, p5⟩ := p
  rw [Prg.pv_mk] at hshort h36 h37 h38 h39
  rw [Prg.pv_mk] at hshort
  simp (config := { maxSteps := 1000000 }) (disch := first | exact chk_rfl | (unfold Chk; decide +kernel) | omega | (simp only [cells_agg, List.length_cons, List.length_nil, List.length_map, List.length_take, List.length_append, Nat.zero_add, Nat.reduceAdd]; first | done | omega) | fail) only [F9o0, F9o1, F9o2, F9o3, F9o4, F9p4, F9o5, F9o6, F9o7, F9o8, F9o9, F9o10, F9p10, F9o11, F9p11, F9o12, F9o13, F9o14, F9b15, F9o16, F9o17, F9c, F9, Prg.pv_mk, push_cast, ↓reduceIte, Nat.reduceEqDiff, Nat.reduceAdd, Nat.reduceMul, Nat.reduceLeDiff, Nat.reduceLT, Nat.reduceBEq, Nat.reduceSub, Int.reduceToNat, Int.reduceNeg]
  refine ACall.pure hshort rfl ?_
  simp (config := { maxSteps := 1000000 }) (disch := first | exact chk_rfl | (unfold Chk; decide +kernel) | omega | (simp only [cells_agg, List.length_cons, List.length_nil, List.length_map, List.length_take, List.length_append, Nat.zero_add, Nat.reduceAdd]; first | done | omega) | fail) only [push_cast, ↓reduceIte, Nat.reduceEqDiff, Nat.reduceAdd, Nat.reduceMul, Nat.reduceLeDiff, Nat.reduceLT, Nat.reduceBEq, Nat.reduceSub, Int.reduceToNat, Int.reduceNeg]
  refine ACall.pure known_ok rfl ?_
  simp (config := { maxSteps := 1000000 }) (disch := first | exact chk_rfl | (unfold Chk; decide +kernel) | omega | (simp only [cells_agg, List.length_cons, List.length_nil, List.length_map, List.length_take, List.length_append, Nat.zero_add, Nat.reduceAdd]; first | done | omega) | fail) only [push_cast, ↓reduceIte, Nat.reduceEqDiff, Nat.reduceAdd, Nat.reduceMul, Nat.reduceLeDiff, Nat.reduceLT, Nat.reduceBEq, Nat.reduceSub, Int.reduceToNat, Int.reduceNeg]
  refine ACall.pure h36 rfl ?_
  by_cases hsm : W.length ≤ 300
  · simp (config := { maxSteps := 1000000 }) (disch := first | exact chk_rfl | (unfold Chk; decide +kernel) | omega | (simp only [cells_agg, List.length_cons, List.length_nil, List.length_map, List.length_take, List.length_append, Nat.zero_add, Nat.reduceAdd]; first | done | omega) | fail) only [hsm, push_cast, ↓reduceIte, Nat.reduceEqDiff, Nat.reduceAdd, Nat.reduceMul, Nat.reduceLeDiff, Nat.reduceLT, Nat.reduceBEq, Nat.reduceSub, Int.reduceToNat, Int.reduceNeg]
    refine callDL_pure h37 rfl ?_
    simp (config := { maxSteps := 1000000 }) (disch := first | exact chk_rfl | (unfold Chk; decide +kernel) | omega | (simp only [cells_agg, List.length_cons, List.length_nil, List.length_map, List.length_take, List.length_append, Nat.zero_add, Nat.reduceAdd]; first | done | omega) | fail) only [push_cast, ↓reduceIte, Nat.reduceEqDiff, Nat.reduceAdd, Nat.reduceMul, Nat.reduceLeDiff, Nat.reduceLT, Nat.reduceBEq, Nat.reduceSub, Int.reduceToNat, Int.reduceNeg]
    refine ACall.pure h38 rfl ?_
    simp (config := { maxSteps := 1000000 }) (disch := first | exact chk_rfl | (unfold Chk; decide +kernel) | omega | (simp only [cells_agg, List.length_cons, List.length_nil, List.length_map, List.length_take, List.length_append, Nat.zero_add, Nat.reduceAdd]; first | done | omega) | fail) only [push_cast, ↓reduceIte, Nat.reduceEqDiff, Nat.reduceAdd, Nat.reduceMul, Nat.reduceLeDiff, Nat.reduceLT, Nat.reduceBEq, Nat.reduceSub, Int.reduceToNat, Int.reduceNeg]
    refine vc_over ([]) (fun m : Nat => [(9, .pv (.bool (metW (W.take m) route place))), (10, .pv (.int .i64 (m : Int)))]) (fun m => []) (fun m => m ≤ W.length) (fun m => W.length - m) (0) ?_; intro e0 σ0 n0 h0; simp (config := { maxSteps := 1000000 }) (disch := first | exact chk_rfl | (unfold Chk; decide +kernel) | omega | (simp only [cells_agg, List.length_cons, List.length_nil, List.length_map, List.length_take, List.length_append, Nat.zero_add, Nat.reduceAdd]; first | done | omega) | fail) only [push_cast, ↓reduceIte, Nat.reduceEqDiff, Nat.reduceAdd, Nat.reduceMul, Nat.reduceLeDiff, Nat.reduceLT, Nat.reduceBEq, Nat.reduceSub, Int.reduceToNat, Int.reduceNeg] at h0; obtain ⟨rfl, rfl, rfl⟩ := h0; refine ⟨?_, ?_, ?_⟩
    · simp (config := { maxSteps := 1000000 }) (disch := first | exact chk_rfl | (unfold Chk; decide +kernel) | omega | (simp only [cells_agg, List.length_cons, List.length_nil, List.length_map, List.length_take, List.length_append, Nat.zero_add, Nat.reduceAdd]; first | done | omega) | fail) only [metW, List.any_nil, push_cast, ↓reduceIte, Nat.reduceEqDiff, Nat.reduceAdd, Nat.reduceMul, Nat.reduceLeDiff, Nat.reduceLT, Nat.reduceBEq, Nat.reduceSub, Int.reduceToNat, Int.reduceNeg]
    · omega
    · intro m hmW
      by_cases hlt : m < W.length
      · have hltI : (m : Int) < W.length := by omega
        obtain ⟨w, hw⟩ : ∃ x, W[m]? = some x := ⟨_, List.getElem?_eq_getElem hlt⟩
        have hsn := take_snoc hw
        obtain ⟨hat, hpl⟩ := hwat w (List.mem_of_getElem? hw)
        have hwo := atP_ok hok hat
        obtain ⟨wr, wp, ws⟩ := w
        simp only [Wkd.route, Wkd.place, Wkd.step] at hat hpl hwo
        have hcall := h39 wr wp (by omega)
        rw [hat, atR] at hcall
        have hp40 := place40 wp wp (by omega) (by omega)
        have hp40' := place40 wp place (by omega) (by omega)
        have hsim := same41 true [ws, ws] [ws, ws] (Sim.refl true _ _ (Nat.lt_succ_self _)) ⟨by simp, by simpa using hwo⟩
        have hnext : metW (W.take (m + 1)) route place = (metW (W.take m) route place || (decide (wr = route) && decide (wp = place))) := by
          rw [hsn, metW_snoc]; rfl
        clear hat hwo
        obtain ⟨x1, x2, x3, x4, x5, x6, x7, x8, x9, x10, xk⟩ := ws
        rw [Stp.pv_mk] at hcall
        simp only [List.map_cons, List.map_nil, Stp.pv_mk] at hsim
        simp only [decide_true] at hp40
        simp (config := { maxSteps := 1000000 }) (disch := first | exact chk_rfl | (unfold Chk; decide +kernel) | omega | (simp only [cells_agg, List.length_cons, List.length_nil, List.length_map, List.length_take, List.length_append, Nat.zero_add, Nat.reduceAdd]; first | done | omega) | fail) only [hw, Wkd.pv_mk, Stp.pv_mk, push_cast, ↓reduceIte, Nat.reduceEqDiff, Nat.reduceAdd, Nat.reduceMul, Nat.reduceLeDiff, Nat.reduceLT, Nat.reduceBEq, Nat.reduceSub, Int.reduceToNat, Int.reduceNeg]
        refine callDL_pure hcall rfl ?_
        simp (config := { maxSteps := 1000000 }) (disch := first | exact chk_rfl | (unfold Chk; decide +kernel) | omega | (simp only [cells_agg, List.length_cons, List.length_nil, List.length_map, List.length_take, List.length_append, Nat.zero_add, Nat.reduceAdd]; first | done | omega) | fail) only [hw, Wkd.pv_mk, Stp.pv_mk, push_cast, ↓reduceIte, Nat.reduceEqDiff, Nat.reduceAdd, Nat.reduceMul, Nat.reduceLeDiff, Nat.reduceLT, Nat.reduceBEq, Nat.reduceSub, Int.reduceToNat, Int.reduceNeg]
        refine callDL_pure hp40 rfl ?_
        simp (config := { maxSteps := 1000000 }) (disch := first | exact chk_rfl | (unfold Chk; decide +kernel) | omega | (simp only [cells_agg, List.length_cons, List.length_nil, List.length_map, List.length_take, List.length_append, Nat.zero_add, Nat.reduceAdd]; first | done | omega) | fail) only [hw, Wkd.pv_mk, Stp.pv_mk, push_cast, ↓reduceIte, Nat.reduceEqDiff, Nat.reduceAdd, Nat.reduceMul, Nat.reduceLeDiff, Nat.reduceLT, Nat.reduceBEq, Nat.reduceSub, Int.reduceToNat, Int.reduceNeg]
        refine ACall.pure hsim rfl ?_
        cases hfd : metW (W.take m) route place with
        | true =>
          simp (config := { maxSteps := 1000000 }) (disch := first | exact chk_rfl | (unfold Chk; decide +kernel) | omega | (simp only [cells_agg, List.length_cons, List.length_nil, List.length_map, List.length_take, List.length_append, Nat.zero_add, Nat.reduceAdd]; first | done | omega) | fail) only [hw, Wkd.pv_mk, Stp.pv_mk, hfd, push_cast, ↓reduceIte, Nat.reduceEqDiff, Nat.reduceAdd, Nat.reduceMul, Nat.reduceLeDiff, Nat.reduceLT, Nat.reduceBEq, Nat.reduceSub, Int.reduceToNat, Int.reduceNeg]
          exact ⟨m + 1, hd_z (by simp (config := { maxSteps := 1000000 }) (disch := first | exact chk_rfl | (unfold Chk; decide +kernel) | omega | (simp only [cells_agg, List.length_cons, List.length_nil, List.length_map, List.length_take, List.length_append, Nat.zero_add, Nat.reduceAdd]; first | done | omega) | fail) only [hnext, hfd, Bool.true_or, push_cast, ↓reduceIte, Nat.reduceEqDiff, Nat.reduceAdd, Nat.reduceMul, Nat.reduceLeDiff, Nat.reduceLT, Nat.reduceBEq, Nat.reduceSub, Int.reduceToNat, Int.reduceNeg]), by omega, by omega⟩
        | false =>
          by_cases hrt : wr = route
          · simp (config := { maxSteps := 1000000 }) (disch := first | exact chk_rfl | (unfold Chk; decide +kernel) | omega | (simp only [cells_agg, List.length_cons, List.length_nil, List.length_map, List.length_take, List.length_append, Nat.zero_add, Nat.reduceAdd]; first | done | omega) | fail) only [hw, Wkd.pv_mk, Stp.pv_mk, hfd, hrt, push_cast, ↓reduceIte, Nat.reduceEqDiff, Nat.reduceAdd, Nat.reduceMul, Nat.reduceLeDiff, Nat.reduceLT, Nat.reduceBEq, Nat.reduceSub, Int.reduceToNat, Int.reduceNeg]
            refine ACall.pure hp40' rfl ?_
            simp (config := { maxSteps := 1000000 }) (disch := first | exact chk_rfl | (unfold Chk; decide +kernel) | omega | (simp only [cells_agg, List.length_cons, List.length_nil, List.length_map, List.length_take, List.length_append, Nat.zero_add, Nat.reduceAdd]; first | done | omega) | fail) only [push_cast, ↓reduceIte, Nat.reduceEqDiff, Nat.reduceAdd, Nat.reduceMul, Nat.reduceLeDiff, Nat.reduceLT, Nat.reduceBEq, Nat.reduceSub, Int.reduceToNat, Int.reduceNeg]
            exact ⟨m + 1, hd_z (by simp (config := { maxSteps := 1000000 }) (disch := first | exact chk_rfl | (unfold Chk; decide +kernel) | omega | (simp only [cells_agg, List.length_cons, List.length_nil, List.length_map, List.length_take, List.length_append, Nat.zero_add, Nat.reduceAdd]; first | done | omega) | fail) only [hnext, hfd, hrt, Bool.false_or, push_cast, ↓reduceIte, Nat.reduceEqDiff, Nat.reduceAdd, Nat.reduceMul, Nat.reduceLeDiff, Nat.reduceLT, Nat.reduceBEq, Nat.reduceSub, Int.reduceToNat, Int.reduceNeg]), by omega, by omega⟩
          · simp (config := { maxSteps := 1000000 }) (disch := first | exact chk_rfl | (unfold Chk; decide +kernel) | omega | (simp only [cells_agg, List.length_cons, List.length_nil, List.length_map, List.length_take, List.length_append, Nat.zero_add, Nat.reduceAdd]; first | done | omega) | fail) only [hw, Wkd.pv_mk, Stp.pv_mk, hfd, hrt, push_cast, ↓reduceIte, Nat.reduceEqDiff, Nat.reduceAdd, Nat.reduceMul, Nat.reduceLeDiff, Nat.reduceLT, Nat.reduceBEq, Nat.reduceSub, Int.reduceToNat, Int.reduceNeg]
            exact ⟨m + 1, hd_z (by simp (config := { maxSteps := 1000000 }) (disch := first | exact chk_rfl | (unfold Chk; decide +kernel) | omega | (simp only [cells_agg, List.length_cons, List.length_nil, List.length_map, List.length_take, List.length_append, Nat.zero_add, Nat.reduceAdd]; first | done | omega) | fail) only [hnext, hfd, hrt, Bool.false_or, push_cast, ↓reduceIte, Nat.reduceEqDiff, Nat.reduceAdd, Nat.reduceMul, Nat.reduceLeDiff, Nat.reduceLT, Nat.reduceBEq, Nat.reduceSub, Int.reduceToNat, Int.reduceNeg]), by omega, by omega⟩
      · have hltI : ¬ (m : Int) < W.length := by omega
        have hle : W.take m = W := List.take_of_length_le (by omega)
        have hcall := h39 route place hm
        have hsimz := same41 true [zeroS] [zeroS] (Sim.refl true _ _ (Nat.lt_succ_self _)) ⟨by simp, by simpa using zeroS_ok⟩
        simp only [List.map_cons, List.map_nil, zeroS, Stp.pv_mk] at hsimz
        have hmt := hmet route place
        cases hat : atP (Prg.mk q1 q2 q3 q4 q5) route place with
        | some s =>
          rw [hat] at hcall hmt
          rw [atR] at hcall
          obtain ⟨x1, x2, x3, x4, x5, x6, x7, x8, x9, x10, xk⟩ := s
          rw [Stp.pv_mk] at hcall
          simp only [Option.isSome_some] at hmt
          simp (config := { maxSteps := 1000000 }) (disch := first | exact chk_rfl | (unfold Chk; decide +kernel) | omega | (simp only [cells_agg, List.length_cons, List.length_nil, List.length_map, List.length_take, List.length_append, Nat.zero_add, Nat.reduceAdd]; first | done | omega) | fail) only [hle, hmt, push_cast, ↓reduceIte, Nat.reduceEqDiff, Nat.reduceAdd, Nat.reduceMul, Nat.reduceLeDiff, Nat.reduceLT, Nat.reduceBEq, Nat.reduceSub, Int.reduceToNat, Int.reduceNeg]
          refine ACall.pure hcall rfl ?_
          simp (config := { maxSteps := 1000000 }) (disch := first | exact chk_rfl | (unfold Chk; decide +kernel) | omega | (simp only [cells_agg, List.length_cons, List.length_nil, List.length_map, List.length_take, List.length_append, Nat.zero_add, Nat.reduceAdd]; first | done | omega) | fail) only [push_cast, ↓reduceIte, Nat.reduceEqDiff, Nat.reduceAdd, Nat.reduceMul, Nat.reduceLeDiff, Nat.reduceLT, Nat.reduceBEq, Nat.reduceSub, Int.reduceToNat, Int.reduceNeg]
        | none =>
          rw [hat] at hcall hmt
          rw [atR_none] at hcall
          simp only [Option.isSome_none] at hmt
          simp (config := { maxSteps := 1000000 }) (disch := first | exact chk_rfl | (unfold Chk; decide +kernel) | omega | (simp only [cells_agg, List.length_cons, List.length_nil, List.length_map, List.length_take, List.length_append, Nat.zero_add, Nat.reduceAdd]; first | done | omega) | fail) only [hle, hmt, push_cast, ↓reduceIte, Nat.reduceEqDiff, Nat.reduceAdd, Nat.reduceMul, Nat.reduceLeDiff, Nat.reduceLT, Nat.reduceBEq, Nat.reduceSub, Int.reduceToNat, Int.reduceNeg]
          refine ACall.pure hcall rfl ?_
          simp (config := { maxSteps := 1000000 }) (disch := first | exact chk_rfl | (unfold Chk; decide +kernel) | omega | (simp only [cells_agg, List.length_cons, List.length_nil, List.length_map, List.length_take, List.length_append, Nat.zero_add, Nat.reduceAdd]; first | done | omega) | fail) only [push_cast, ↓reduceIte, Nat.reduceEqDiff, Nat.reduceAdd, Nat.reduceMul, Nat.reduceLeDiff, Nat.reduceLT, Nat.reduceBEq, Nat.reduceSub, Int.reduceToNat, Int.reduceNeg]
          refine ACall.pureN hsimz rfl (by simp (config := { maxSteps := 1000000 }) (disch := first | exact chk_rfl | (unfold Chk; decide +kernel) | omega | (simp only [cells_agg, List.length_cons, List.length_nil, List.length_map, List.length_take, List.length_append, Nat.zero_add, Nat.reduceAdd]; first | done | omega) | fail) only [push_cast, ↓reduceIte, Nat.reduceEqDiff, Nat.reduceAdd, Nat.reduceMul, Nat.reduceLeDiff, Nat.reduceLT, Nat.reduceBEq, Nat.reduceSub, Int.reduceToNat, Int.reduceNeg]; exact .list _ _ (by simp (config := { maxSteps := 1000000 }) (disch := first | exact chk_rfl | (unfold Chk; decide +kernel) | omega | (simp only [cells_agg, List.length_cons, List.length_nil, List.length_map, List.length_take, List.length_append, Nat.zero_add, Nat.reduceAdd]; first | done | omega) | fail) only [push_cast, ↓reduceIte, Nat.reduceEqDiff, Nat.reduceAdd, Nat.reduceMul, Nat.reduceLeDiff, Nat.reduceLT, Nat.reduceBEq, Nat.reduceSub, Int.reduceToNat, Int.reduceNeg])) ?_
          simp (config := { maxSteps := 1000000 }) (disch := first | exact chk_rfl | (unfold Chk; decide +kernel) | omega | (simp only [cells_agg, List.length_cons, List.length_nil, List.length_map, List.length_take, List.length_append, Nat.zero_add, Nat.reduceAdd]; first | done | omega) | fail) only [push_cast, ↓reduceIte, Nat.reduceEqDiff, Nat.reduceAdd, Nat.reduceMul, Nat.reduceLeDiff, Nat.reduceLT, Nat.reduceBEq, Nat.reduceSub, Int.reduceToNat, Int.reduceNeg]
  · simp (config := { maxSteps := 1000000 }) (disch := first | exact chk_rfl | (unfold Chk; decide +kernel) | omega | (simp only [cells_agg, List.length_cons, List.length_nil, List.length_map, List.length_take, List.length_append, Nat.zero_add, Nat.reduceAdd]; first | done | omega) | fail) only [hsm, push_cast, ↓reduceIte, Nat.reduceEqDiff, Nat.reduceAdd, Nat.reduceMul, Nat.reduceLeDiff, Nat.reduceLT, Nat.reduceBEq, Nat.reduceSub, Int.reduceToNat, Int.reduceNeg]
    refine ACall.pure known_ok rfl ?_
    simp (config := { maxSteps := 1000000 }) (disch := first | exact chk_rfl | (unfold Chk; decide +kernel) | omega | (simp only [cells_agg, List.length_cons, List.length_nil, List.length_map, List.length_take, List.length_append, Nat.zero_add, Nat.reduceAdd]; first | done | omega) | fail) only [push_cast, ↓reduceIte, Nat.reduceEqDiff, Nat.reduceAdd, Nat.reduceMul, Nat.reduceLeDiff, Nat.reduceLT, Nat.reduceBEq, Nat.reduceSub, Int.reduceToNat, Int.reduceNeg]

theorem walks_of (p0 p1 p2 : PV) (h0 : HasT Tryd.prog 44 p0) (h1 : HasT Tryd.prog 3 p1) (h2 : HasT Tryd.prog 35 p2) : Pure Tryd.prog tabG 9 [p0, p1, p2] (.bool true) := by
  obtain ⟨p, rfl, hp⟩ := hasT_Prg h0
  obtain ⟨n, rfl, hn⟩ := hasT_i64 h1 Tryd.underlying3
  obtain ⟨l, rfl, hl, hx⟩ := list_all (f := PV.int .i64) (Q := I64) h2 Tryd.underlying35 byt_3 (fun x hx => hasT_i64 hx Tryd.underlying3)
  exact walks_law p hp n l hl
end Go.Proofs.YtfbakipopjoghaaDoor
