/- A part of the proof for ResolveTextsCardSaid. -/
import Derived.Test.YtfbakipopjoghaaDoorTextXT3
import Derived.Test.YtfbakipopjoghaaDoorTextXD
set_option maxRecDepth 100000
set_option linter.unusedVariables false
set_option linter.unusedSimpArgs false
namespace Go.Proofs.YtfbakipopjoghaaDoor
open Go Go.Ab

theorem cut_ok (s : List UInt8) : Pure Tryd.prog tabG 22 [.str s] (.str (s.take 70)) := by
  refine Pure.intro F22_ok (by simp [F22]) ?_
  simp (config := { maxSteps := 1000000 }) (disch := first | exact chk_rfl | (unfold Chk; decide +kernel) | omega | (simp only [cells_agg, List.length_cons, List.length_nil, List.length_map, List.length_take, List.length_append, Nat.zero_add, Nat.reduceAdd]; first | done | omega) | fail) only [F22o0, F22o1, F22c, F22, push_cast, ↓reduceIte, Nat.reduceEqDiff, Nat.reduceAdd, Nat.reduceMul, Nat.reduceLeDiff, Nat.reduceLT, Nat.reduceBEq, Nat.reduceSub, Int.reduceToNat, Int.reduceNeg]

def cutC : Cal → Cal
  | .mk s m => .mk (s.take 70) m
def cutB (rec : List Stp → List Stp) : Bra → Bra
  | .mk w l => .mk (w.take 2) (rec l)
def short1 (rec : List Stp → List Stp) (on : Bool) : Stp → Stp
  | .mk a b c d e f g h i j k => .mk (a.take 70) b c d e (f.take 70) (g.take 70) (h.take 3) (i.take 4) ((j.take 18).map cutC) (if on then (k.take 4).map (cutB rec) else [])
def shortS : Nat → List Stp → List Stp
  | 0, l => (l.take 8).map (short1 id false)
  | n + 1, l => (l.take 8).map (short1 (shortS n) true)
def shortR : Nat → Stp → Stp
  | 0 => short1 id false
  | n + 1 => short1 (shortS n) true
theorem shortS_eq : ∀ n l, shortS n l = (l.take 8).map (shortR n)
  | 0, l => rfl
  | n + 1, l => rfl

def mixC (q : Nat) (l : List Cal) : List Cal := (l.take q).map cutC ++ l.drop q
theorem mixC_zero (l : List Cal) : mixC 0 l = l := by simp [mixC]
theorem mixC_len (q : Nat) (l : List Cal) : (mixC q l).length = l.length := by simp [mixC]; omega
theorem mixC_get {q : Nat} {l : List Cal} {c : Cal} (h : l[q]? = some c) : (mixC q l)[q]? = some c := by
  have hq := (List.getElem?_eq_some_iff.1 h).1
  rw [mixC, List.getElem?_append_right (by simp; omega)]
  simp only [List.length_map, List.length_take, List.getElem?_drop]
  rw [show q + (q - min q l.length) = q by omega]; exact h
theorem mixC_succ {q : Nat} {l : List Cal} {c : Cal} (h : l[q]? = some c) : mixC (q + 1) l = (mixC q l).set q (cutC c) := by
  have hq := (List.getElem?_eq_some_iff.1 h).1
  have hc := (List.getElem?_eq_some_iff.1 h).2
  have hl : ((l.take q).map cutC).length = q := by simp; omega
  rw [mixC, mixC, List.set_append_right _ _ (by omega), hl, Nat.sub_self, List.take_succ_eq_append_getElem hq, List.drop_eq_getElem_cons hq, hc]
  simp
theorem mixC_all (l : List Cal) : mixC l.length l = l.map cutC := by simp [mixC]

def okL (l : List Stp) : Prop := l.length * 176 ≤ 140737488351232 ∧ ∀ x ∈ l, x.ok

theorem short_of (n : Nat) (hn : n ≤ 1000) (ih : ∀ m l, m < n → okL l → Pure Tryd.prog tabG 11 [.list (l.map Stp.pv), .int .i64 m] (.list ((shortS m l).map Stp.pv)))
    (l : List Stp) (hl : okL l) : Pure Tryd.prog tabG 11 [.list (l.map Stp.pv), .int .i64 n] (.list ((shortS n l).map Stp.pv)) := by
  obtain ⟨hm, hl⟩ := hl
  have hm' : l.length ≤ 9223372036854775807 := by omega
  refine Pure.intro F11_ok (by simp [F11]) ?_
  simp (config := { maxSteps := 1000000 }) (disch := first | exact chk_rfl | (unfold Chk; decide +kernel) | omega | (simp only [cells_agg, List.length_cons, List.length_nil, List.length_map, List.length_take, List.length_append, Nat.zero_add, Nat.reduceAdd]; first | done | omega) | fail) only [F11o0, F11o1, F11o2, F11o3, F11o4, F11o5, F11p5, F11o6, F11p6, F11o7, F11o8, F11o9, F11p9, F11o10, F11b11, F11o12, F11o13, F11o14, F11o15, F11o16, F11p16, F11o17, F11b18, F11o19, F11o20, F11b21, F11o22, F11c, F11, push_cast, ↓reduceIte, Nat.reduceEqDiff, Nat.reduceAdd, Nat.reduceMul, Nat.reduceLeDiff, Nat.reduceLT, Nat.reduceBEq, Nat.reduceSub, Int.reduceToNat, Int.reduceNeg]
  refine vc_over ([(5, 0, 32, 11)]) (fun i : Nat => [(5, .olist 0 11 (((l.take i).map (shortR n)).map Stp.pv)), (6, .pv (.int .i64 (i : Int)))]) (fun _ => []) (fun i => i ≤ l.length ∧ i ≤ 8) (fun i => 8 - i) (0) ?_; intro e0 σ0 n0 h0; simp (config := { maxSteps := 1000000 }) (disch := first | exact chk_rfl | (unfold Chk; decide +kernel) | omega | (simp only [cells_agg, List.length_cons, List.length_nil, List.length_map, List.length_take, List.length_append, Nat.zero_add, Nat.reduceAdd]; first | done | omega) | fail) only [push_cast, ↓reduceIte, Nat.reduceEqDiff, Nat.reduceAdd, Nat.reduceMul, Nat.reduceLeDiff, Nat.reduceLT, Nat.reduceBEq, Nat.reduceSub, Int.reduceToNat, Int.reduceNeg] at h0; obtain ⟨rfl, rfl, rfl⟩ := h0; refine ⟨?_, ?_, ?_⟩
  · simp (config := { maxSteps := 1000000 }) (disch := first | exact chk_rfl | (unfold Chk; decide +kernel) | omega | (simp only [cells_agg, List.length_cons, List.length_nil, List.length_map, List.length_take, List.length_append, Nat.zero_add, Nat.reduceAdd]; first | done | omega) | fail) only [push_cast, ↓reduceIte, Nat.reduceEqDiff, Nat.reduceAdd, Nat.reduceMul, Nat.reduceLeDiff, Nat.reduceLT, Nat.reduceBEq, Nat.reduceSub, Int.reduceToNat, Int.reduceNeg]
  · omega
  intro i hi
  obtain ⟨hi1, hi2⟩ := hi
  by_cases hlt : i < l.length
  · by_cases hlt8 : i < 8
    · have hltI : (i : Int) < l.length := by omega
      have hltI8 : (i : Int) < 8 := by omega
      obtain ⟨s, hs⟩ : ∃ s, l[i]? = some s := ⟨l[i], List.getElem?_eq_getElem hlt⟩
      have hok := hl s (List.mem_of_getElem? hs)
      obtain ⟨a, b, c, d, e, f, g, h, ru, j, k⟩ := s
      rw [Stp.ok_mk] at hok
      obtain ⟨_, _, _, _, _, _, _, _, _, _, _, hjm, _, hkm, hkk⟩ := hok
      simp (config := { maxSteps := 1000000 }) (disch := first | exact chk_rfl | (unfold Chk; decide +kernel) | omega | (simp only [cells_agg, List.length_cons, List.length_nil, List.length_map, List.length_take, List.length_append, Nat.zero_add, Nat.reduceAdd]; first | done | omega) | fail) only [hs, Stp.cells_len, Stp.isAgg, Stp.pv_mk, push_cast, ↓reduceIte, Nat.reduceEqDiff, Nat.reduceAdd, Nat.reduceMul, Nat.reduceLeDiff, Nat.reduceLT, Nat.reduceBEq, Nat.reduceSub, Int.reduceToNat, Int.reduceNeg]
      refine callDL_pure (cut_ok a) rfl ?_
      simp (config := { maxSteps := 1000000 }) (disch := first | exact chk_rfl | (unfold Chk; decide +kernel) | omega | (simp only [cells_agg, List.length_cons, List.length_nil, List.length_map, List.length_take, List.length_append, Nat.zero_add, Nat.reduceAdd]; first | done | omega) | fail) only [push_cast, ↓reduceIte, Nat.reduceEqDiff, Nat.reduceAdd, Nat.reduceMul, Nat.reduceLeDiff, Nat.reduceLT, Nat.reduceBEq, Nat.reduceSub, Int.reduceToNat, Int.reduceNeg]
      refine callDL_pure (cut_ok f) rfl ?_
      simp (config := { maxSteps := 1000000 }) (disch := first | exact chk_rfl | (unfold Chk; decide +kernel) | omega | (simp only [cells_agg, List.length_cons, List.length_nil, List.length_map, List.length_take, List.length_append, Nat.zero_add, Nat.reduceAdd]; first | done | omega) | fail) only [push_cast, ↓reduceIte, Nat.reduceEqDiff, Nat.reduceAdd, Nat.reduceMul, Nat.reduceLeDiff, Nat.reduceLT, Nat.reduceBEq, Nat.reduceSub, Int.reduceToNat, Int.reduceNeg]
      refine callDL_pure (cut_ok g) rfl ?_
      have h18 : (j.take 18).length ≤ 18 := by simp; omega
      simp (config := { maxSteps := 1000000 }) (disch := first | exact chk_rfl | (unfold Chk; decide +kernel) | omega | (simp only [cells_agg, List.length_cons, List.length_nil, List.length_map, List.length_take, List.length_append, Nat.zero_add, Nat.reduceAdd]; first | done | omega) | fail) only [Cal.cells_len, push_cast, ↓reduceIte, Nat.reduceEqDiff, Nat.reduceAdd, Nat.reduceMul, Nat.reduceLeDiff, Nat.reduceLT, Nat.reduceBEq, Nat.reduceSub, Int.reduceToNat, Int.reduceNeg]
      refine vc_over ([]) (fun q : Nat => [(8, .pv (.int .i64 (q : Int)))]) (fun q => [(2, .cells 87 false (flat ((mixC q (j.take 18)).map Cal.pv)))]) (fun q => q ≤ (j.take 18).length) (fun q => (j.take 18).length - q) (0) ?_; intro e0 σ0 n0 h0; simp (config := { maxSteps := 1000000 }) (disch := first | exact chk_rfl | (unfold Chk; decide +kernel) | omega | (simp only [cells_agg, List.length_cons, List.length_nil, List.length_map, List.length_take, List.length_append, Nat.zero_add, Nat.reduceAdd]; first | done | omega) | fail) only [push_cast, ↓reduceIte, Nat.reduceEqDiff, Nat.reduceAdd, Nat.reduceMul, Nat.reduceLeDiff, Nat.reduceLT, Nat.reduceBEq, Nat.reduceSub, Int.reduceToNat, Int.reduceNeg] at h0; obtain ⟨rfl, rfl, rfl⟩ := h0; refine ⟨?_, ?_, ?_⟩
      · simp (config := { maxSteps := 1000000 }) (disch := first | exact chk_rfl | (unfold Chk; decide +kernel) | omega | (simp only [cells_agg, List.length_cons, List.length_nil, List.length_map, List.length_take, List.length_append, Nat.zero_add, Nat.reduceAdd]; first | done | omega) | fail) only [mixC_zero, push_cast, ↓reduceIte, Nat.reduceEqDiff, Nat.reduceAdd, Nat.reduceMul, Nat.reduceLeDiff, Nat.reduceLT, Nat.reduceBEq, Nat.reduceSub, Int.reduceToNat, Int.reduceNeg]
      · omega
      · intro q hq
        by_cases hql : q < (j.take 18).length
        · obtain ⟨cc, hcc⟩ : ∃ cc, (j.take 18)[q]? = some cc := ⟨_, List.getElem?_eq_getElem hql⟩
          have hqlI : (q : Int) < (j.take 18).length := by omega
          have hlen := flat_map_len Cal.cells_len (mixC q (j.take 18))
          rw [mixC_len] at hlen
          have hget := flat_map_get (o := 0) Cal.cells_len (mixC_get hcc) (by omega)
          obtain ⟨cs, cm⟩ := cc
          have hset := flat_map_set (o := 0) (y := cutC (.mk cs cm)) (p := .str (cs.take 70)) Cal.cells_len (mixC_get hcc) (by omega) (by rw [cutC, Cal.pv_mk, Cal.pv_mk]; rfl)
          rw [← mixC_succ hcc] at hset
          simp only [Nat.add_zero, Cal.pv_mk, cells_agg, get0, omap_some] at hget
          simp only [Nat.add_zero, List.append_assoc, List.cons_append, List.nil_append] at hset
          simp (config := { maxSteps := 1000000 }) (disch := first | exact chk_rfl | (unfold Chk; decide +kernel) | omega | (simp only [cells_agg, List.length_cons, List.length_nil, List.length_map, List.length_take, List.length_append, Nat.zero_add, Nat.reduceAdd]; first | done | omega) | fail) only [hget, hlen, hset, push_cast, ↓reduceIte, Nat.reduceEqDiff, Nat.reduceAdd, Nat.reduceMul, Nat.reduceLeDiff, Nat.reduceLT, Nat.reduceBEq, Nat.reduceSub, Int.reduceToNat, Int.reduceNeg]
          refine callDL_pure (cut_ok cs) rfl ?_
          simp (config := { maxSteps := 1000000 }) (disch := first | exact chk_rfl | (unfold Chk; decide +kernel) | omega | (simp only [cells_agg, List.length_cons, List.length_nil, List.length_map, List.length_take, List.length_append, Nat.zero_add, Nat.reduceAdd]; first | done | omega) | fail) only [hlen, hset, push_cast, ↓reduceIte, Nat.reduceEqDiff, Nat.reduceAdd, Nat.reduceMul, Nat.reduceLeDiff, Nat.reduceLT, Nat.reduceBEq, Nat.reduceSub, Int.reduceToNat, Int.reduceNeg]
          exact ⟨q + 1, hd_z (by simp (config := { maxSteps := 1000000 }) (disch := first | exact chk_rfl | (unfold Chk; decide +kernel) | omega | (simp only [cells_agg, List.length_cons, List.length_nil, List.length_map, List.length_take, List.length_append, Nat.zero_add, Nat.reduceAdd]; first | done | omega) | fail) only [push_cast, ↓reduceIte, Nat.reduceEqDiff, Nat.reduceAdd, Nat.reduceMul, Nat.reduceLeDiff, Nat.reduceLT, Nat.reduceBEq, Nat.reduceSub, Int.reduceToNat, Int.reduceNeg]), by omega, by omega⟩
        · have hqe : q = (j.take 18).length := by omega
          subst hqe
          simp (config := { maxSteps := 1000000 }) (disch := first | exact chk_rfl | (unfold Chk; decide +kernel) | omega | (simp only [cells_agg, List.length_cons, List.length_nil, List.length_map, List.length_take, List.length_append, Nat.zero_add, Nat.reduceAdd]; first | done | omega) | fail) only [mixC_all, push_cast, ↓reduceIte, Nat.reduceEqDiff, Nat.reduceAdd, Nat.reduceMul, Nat.reduceLeDiff, Nat.reduceLT, Nat.reduceBEq, Nat.reduceSub, Int.reduceToNat, Int.reduceNeg]
          have hkm' : k.length ≤ 9223372036854775807 := by omega
          let st := fun m : Nat => [(1, Blk.cells 32 true [AV.pv (PV.str (List.take 70 a)), AV.pv (PV.int IntKind.i64 b), AV.pv (PV.int IntKind.i64 c),
                AV.pv (PV.int IntKind.i64 d), AV.pv (PV.int IntKind.i64 e), AV.pv (PV.str (List.take 70 f)),
                AV.pv (PV.str (List.take 70 g)), AV.pv (PV.list ((List.take 3 h).map Exp.pv)), AV.pv (PV.list ((List.take 4 ru).map Rul.pv)),
                AV.row 2 2 0 (List.take 18 j).length, .olist 3 2 (((k.take m).map (cutB (shortS (n - 1)))).map Bra.pv)])]
          refine vc_over ([(7, 11, 89, 2)]) (fun m : Nat => [(9, .pv (.int .i64 (m : Int)))]) (fun m => st m) (fun m => m ≤ k.length ∧ m ≤ 4 ∧ (n = 0 → m = 0)) (fun m => 4 - m) (0) ?_; intro e0 σ0 n0 h0; simp (config := { maxSteps := 1000000 }) (disch := first | exact chk_rfl | (unfold Chk; decide +kernel) | omega | (simp only [cells_agg, List.length_cons, List.length_nil, List.length_map, List.length_take, List.length_append, Nat.zero_add, Nat.reduceAdd]; first | done | omega) | fail) only [push_cast, ↓reduceIte, Nat.reduceEqDiff, Nat.reduceAdd, Nat.reduceMul, Nat.reduceLeDiff, Nat.reduceLT, Nat.reduceBEq, Nat.reduceSub, Int.reduceToNat, Int.reduceNeg] at h0; obtain ⟨rfl, rfl, rfl⟩ := h0; refine ⟨?_, ?_, ?_⟩
          · simp (config := { maxSteps := 1000000 }) (disch := first | exact chk_rfl | (unfold Chk; decide +kernel) | omega | (simp only [cells_agg, List.length_cons, List.length_nil, List.length_map, List.length_take, List.length_append, Nat.zero_add, Nat.reduceAdd]; first | done | omega) | fail) only [st, push_cast, ↓reduceIte, Nat.reduceEqDiff, Nat.reduceAdd, Nat.reduceMul, Nat.reduceLeDiff, Nat.reduceLT, Nat.reduceBEq, Nat.reduceSub, Int.reduceToNat, Int.reduceNeg]
          · omega
          · rintro m ⟨hm1, hm2, hm3⟩
            simp only [st]
            by_cases hgo : m < k.length ∧ m < 4 ∧ 0 < n
            · obtain ⟨h1, h2, h3⟩ := hgo
              have h1I : (m : Int) < k.length := by omega
              have h2I : (m : Int) < 4 := by omega
              have h3I : (0 : Int) < n := by omega
              obtain ⟨bb, hbb⟩ : ∃ bb, k[m]? = some bb := ⟨_, List.getElem?_eq_getElem h1⟩
              have hbok := hkk bb (List.mem_of_getElem? hbb)
              obtain ⟨w, ls⟩ := bb
              rw [Bra.ok_mk] at hbok
              obtain ⟨n', rfl⟩ : ∃ n', n = n' + 1 := ⟨n - 1, by omega⟩
              have hts := take_snoc hbb
              have hcall := ih n' ls (by omega) ⟨hbok.2.2.1, hbok.2.2.2⟩
              simp (config := { maxSteps := 1000000 }) (disch := first | exact chk_rfl | (unfold Chk; decide +kernel) | omega | (simp only [cells_agg, List.length_cons, List.length_nil, List.length_map, List.length_take, List.length_append, Nat.zero_add, Nat.reduceAdd]; first | done | omega) | fail) only [hs, Stp.cells_len, Stp.pv_mk, hbb, Bra.cells_len, Bra.isAgg, Bra.pv_mk, Nat.add_sub_cancel, Int.add_sub_cancel, push_cast, ↓reduceIte, Nat.reduceEqDiff, Nat.reduceAdd, Nat.reduceMul, Nat.reduceLeDiff, Nat.reduceLT, Nat.reduceBEq, Nat.reduceSub, Int.reduceToNat, Int.reduceNeg]
              refine callDL_pure hcall rfl ?_
              simp (config := { maxSteps := 1000000 }) (disch := first | exact chk_rfl | (unfold Chk; decide +kernel) | omega | (simp only [cells_agg, List.length_cons, List.length_nil, List.length_map, List.length_take, List.length_append, Nat.zero_add, Nat.reduceAdd]; first | done | omega) | fail) only [Bra.pv_mk, push_cast, ↓reduceIte, Nat.reduceEqDiff, Nat.reduceAdd, Nat.reduceMul, Nat.reduceLeDiff, Nat.reduceLT, Nat.reduceBEq, Nat.reduceSub, Int.reduceToNat, Int.reduceNeg]
              exact ⟨m + 1, hd_z (by simp (config := { maxSteps := 1000000 }) (disch := first | exact chk_rfl | (unfold Chk; decide +kernel) | omega | (simp only [cells_agg, List.length_cons, List.length_nil, List.length_map, List.length_take, List.length_append, Nat.zero_add, Nat.reduceAdd]; first | done | omega) | fail) only [hts, List.map_append, Bra.pv_mk, cutB, push_cast, ↓reduceIte, Nat.reduceEqDiff, Nat.reduceAdd, Nat.reduceMul, Nat.reduceLeDiff, Nat.reduceLT, Nat.reduceBEq, Nat.reduceSub, Int.reduceToNat, Int.reduceNeg]), ⟨by omega, by omega, fun h => h.elim⟩, by omega⟩
            · have hexit : ¬ m < k.length ∨ (m < k.length ∧ ¬ m < 4) ∨ (m < k.length ∧ m < 4 ∧ ¬ 0 < n) := by omega
              have hfin : (shortR n (.mk a b c d e f g h ru j k)).pv = .agg [.str (a.take 70), .int .i64 b, .int .i64 c, .int .i64 d, .int .i64 e, .str (f.take 70), .str (g.take 70), .list ((h.take 3).map Exp.pv), .list ((ru.take 4).map Rul.pv), .list (((j.take 18).map cutC).map Cal.pv), .list (((k.take m).map (cutB (shortS (n - 1)))).map Bra.pv)] := by
                cases n with
                | zero =>
                  obtain rfl := hm3 rfl
                  simp only [shortR, short1, Stp.pv_mk]; simp
                | succ n =>
                  have : k.take m = k.take 4 := by
                    rcases hexit with h | h | h
                    · rw [List.take_of_length_le (by omega), List.take_of_length_le (by omega)]
                    · rw [show m = 4 by omega]
                    · omega
                  simp only [shortR, short1, Stp.pv_mk, this, Nat.add_sub_cancel]; simp
              have hts := take_snoc hs
              have hfz := frzB_map Cal.row (by omega) ((j.take 18).map cutC) (n := (j.take 18).length) (r := 2) (T := 87) (b := false) (by simp)
              have hend : ∀ x : Nat, x = i + 1 → (x ≤ l.length ∧ x ≤ 8) ∧ 8 - x < 8 - i := fun x hx => by omega
              rcases hexit with h1 | ⟨h1, h2⟩ | ⟨h1, h2, h3⟩
              · have h1I : ¬ (m : Int) < k.length := by omega
                simp (config := { maxSteps := 1000000 }) (disch := first | exact chk_rfl | (unfold Chk; decide +kernel) | omega | (simp only [cells_agg, List.length_cons, List.length_nil, List.length_map, List.length_take, List.length_append, Nat.zero_add, Nat.reduceAdd]; first | done | omega) | fail) only [hs, Stp.cells_len, Stp.pv_mk, hfz, push_cast, ↓reduceIte, Nat.reduceEqDiff, Nat.reduceAdd, Nat.reduceMul, Nat.reduceLeDiff, Nat.reduceLT, Nat.reduceBEq, Nat.reduceSub, Int.reduceToNat, Int.reduceNeg]
                exact ⟨i + 1, hd_z (by simp (config := { maxSteps := 1000000 }) (disch := first | exact chk_rfl | (unfold Chk; decide +kernel) | omega | (simp only [cells_agg, List.length_cons, List.length_nil, List.length_map, List.length_take, List.length_append, Nat.zero_add, Nat.reduceAdd]; first | done | omega) | fail) only [hts, List.map_append, hfin, push_cast, ↓reduceIte, Nat.reduceEqDiff, Nat.reduceAdd, Nat.reduceMul, Nat.reduceLeDiff, Nat.reduceLT, Nat.reduceBEq, Nat.reduceSub, Int.reduceToNat, Int.reduceNeg]), hend _ rfl⟩
              · have h1I : (m : Int) < k.length := by omega
                have h2I : ¬ (m : Int) < 4 := by omega
                simp (config := { maxSteps := 1000000 }) (disch := first | exact chk_rfl | (unfold Chk; decide +kernel) | omega | (simp only [cells_agg, List.length_cons, List.length_nil, List.length_map, List.length_take, List.length_append, Nat.zero_add, Nat.reduceAdd]; first | done | omega) | fail) only [hs, Stp.cells_len, Stp.pv_mk, hfz, push_cast, ↓reduceIte, Nat.reduceEqDiff, Nat.reduceAdd, Nat.reduceMul, Nat.reduceLeDiff, Nat.reduceLT, Nat.reduceBEq, Nat.reduceSub, Int.reduceToNat, Int.reduceNeg]
                exact ⟨i + 1, hd_z (by simp (config := { maxSteps := 1000000 }) (disch := first | exact chk_rfl | (unfold Chk; decide +kernel) | omega | (simp only [cells_agg, List.length_cons, List.length_nil, List.length_map, List.length_take, List.length_append, Nat.zero_add, Nat.reduceAdd]; first | done | omega) | fail) only [hts, List.map_append, hfin, push_cast, ↓reduceIte, Nat.reduceEqDiff, Nat.reduceAdd, Nat.reduceMul, Nat.reduceLeDiff, Nat.reduceLT, Nat.reduceBEq, Nat.reduceSub, Int.reduceToNat, Int.reduceNeg]), hend _ rfl⟩
              · have h1I : (m : Int) < k.length := by omega
                have h2I : (m : Int) < 4 := by omega
                have h3I : ¬ (0 : Int) < n := by omega
                simp (config := { maxSteps := 1000000 }) (disch := first | exact chk_rfl | (unfold Chk; decide +kernel) | omega | (simp only [cells_agg, List.length_cons, List.length_nil, List.length_map, List.length_take, List.length_append, Nat.zero_add, Nat.reduceAdd]; first | done | omega) | fail) only [hs, Stp.cells_len, Stp.pv_mk, hfz, push_cast, ↓reduceIte, Nat.reduceEqDiff, Nat.reduceAdd, Nat.reduceMul, Nat.reduceLeDiff, Nat.reduceLT, Nat.reduceBEq, Nat.reduceSub, Int.reduceToNat, Int.reduceNeg]
                exact ⟨i + 1, hd_z (by simp (config := { maxSteps := 1000000 }) (disch := first | exact chk_rfl | (unfold Chk; decide +kernel) | omega | (simp only [cells_agg, List.length_cons, List.length_nil, List.length_map, List.length_take, List.length_append, Nat.zero_add, Nat.reduceAdd]; first | done | omega) | fail) only [hts, List.map_append, hfin, push_cast, ↓reduceIte, Nat.reduceEqDiff, Nat.reduceAdd, Nat.reduceMul, Nat.reduceLeDiff, Nat.reduceLT, Nat.reduceBEq, Nat.reduceSub, Int.reduceToNat, Int.reduceNeg]), hend _ rfl⟩
    · have h8 : i = 8 := by omega
      subst h8
      have hltI : ((8 : Nat) : Int) < l.length := by omega
      simp (config := { maxSteps := 1000000 }) (disch := first | exact chk_rfl | (unfold Chk; decide +kernel) | omega | (simp only [cells_agg, List.length_cons, List.length_nil, List.length_map, List.length_take, List.length_append, Nat.zero_add, Nat.reduceAdd]; first | done | omega) | fail) only [push_cast, ↓reduceIte, Nat.reduceEqDiff, Nat.reduceAdd, Nat.reduceMul, Nat.reduceLeDiff, Nat.reduceLT, Nat.reduceBEq, Nat.reduceSub, Int.reduceToNat, Int.reduceNeg]
      rw [shortS_eq]
      exact .refl _
  · have hltI : ¬ (i : Int) < l.length := by omega
    have he : l.take i = l.take 8 := by rw [List.take_of_length_le (by omega), List.take_of_length_le (by omega)]
    simp (config := { maxSteps := 1000000 }) (disch := first | exact chk_rfl | (unfold Chk; decide +kernel) | omega | (simp only [cells_agg, List.length_cons, List.length_nil, List.length_map, List.length_take, List.length_append, Nat.zero_add, Nat.reduceAdd]; first | done | omega) | fail) only [he, push_cast, ↓reduceIte, Nat.reduceEqDiff, Nat.reduceAdd, Nat.reduceMul, Nat.reduceLeDiff, Nat.reduceLT, Nat.reduceBEq, Nat.reduceSub, Int.reduceToNat, Int.reduceNeg]
    rw [shortS_eq]
    exact .refl _

theorem short_all : ∀ (n : Nat) (hn : n ≤ 1000) (l : List Stp), okL l → Pure Tryd.prog tabG 11 [.list (l.map Stp.pv), .int .i64 n] (.list ((shortS n l).map Stp.pv)) := by
  intro n
  induction n using Nat.strongRecOn with
  | _ n ih => exact fun hn l hl => short_of n hn (fun m l hmn => ih m hmn (by omega) l) l hl

theorem take_le {α : Type} {l : List α} {n m : Nat} (h : l.length ≤ m) : (l.take n).length ≤ m := by simp; omega
theorem take_leM {α : Type} {l : List α} {n m b : Nat} (h : l.length * b ≤ m) : (l.take n).length * b ≤ m := Nat.le_trans (Nat.mul_le_mul_right _ (by simp; omega)) h
theorem mem_take {α : Type} {l : List α} {n : Nat} {Q : α → Prop} (h : ∀ x ∈ l, Q x) : ∀ x ∈ l.take n, Q x := fun x hx => h x (List.mem_of_mem_take hx)
theorem shortS_len (n : Nat) (l : List Stp) : (shortS n l).length ≤ 8 := by rw [shortS_eq]; simp; omega
theorem short1_ok {rec : List Stp → List Stp} {on : Bool} (hr : on = true → ∀ l, okL l → okL (rec l)) (s : Stp) (h : s.ok) : (short1 rec on s).ok := by
  obtain ⟨a, b, c, d, e, f, g, hh, ru, j, k⟩ := s
  rw [short1, Stp.ok_mk]
  rw [Stp.ok_mk] at h
  obtain ⟨h1, h2, h3, h4, h5, h6, h7, h8, h9, h10, h11, h12, h13, h14, h15⟩ := h
  refine ⟨(by first | exact take_le h1 | exact take_leM h1), h2, h3, h4, h5, (by first | exact take_le h6 | exact take_leM h6), (by first | exact take_le h7 | exact take_leM h7), (by first | exact take_le h8 | exact take_leM h8), mem_take h9, (by first | exact take_le h10 | exact take_leM h10), mem_take h11, ?_, ?_, ?_, ?_⟩
  · rw [List.length_map]; exact (by first | exact take_le h12 | exact take_leM h12)
  · intro x hx
    obtain ⟨⟨y1, y2⟩, hy, rfl⟩ := List.mem_map.1 hx
    have := mem_take h13 _ hy
    rw [Cal.ok_mk] at this
    rw [cutC, Cal.ok_mk]
    exact ⟨(by first | exact take_le this.1 | exact take_leM this.1), this.2⟩
  · split
    · rw [List.length_map]; exact (by first | exact take_le h14 | exact take_leM h14)
    · simp
  · split
    · rename_i hon
      intro x hx
      obtain ⟨⟨y1, y2⟩, hy, rfl⟩ := List.mem_map.1 hx
      have := mem_take h15 _ hy
      rw [Bra.ok_mk] at this
      rw [cutB, Bra.ok_mk]
      have hq := hr hon y2 ⟨this.2.2.1, this.2.2.2⟩
      exact ⟨(by first | exact take_le this.1 | exact take_leM this.1), mem_take this.2.1, hq.1, hq.2⟩
    · simp
theorem shortS_ok : ∀ (n : Nat) (l : List Stp), okL l → okL (shortS n l)
  | 0, l, h => by
    refine ⟨by have := shortS_len 0 l; omega, fun x hx => ?_⟩
    rw [shortS] at hx
    obtain ⟨y, hy, rfl⟩ := List.mem_map.1 hx
    exact short1_ok (fun h => by cases h) y (h.2 y (List.mem_of_mem_take hy))
  | n + 1, l, h => by
    refine ⟨by have := shortS_len (n + 1) l; omega, fun x hx => ?_⟩
    rw [shortS] at hx
    obtain ⟨y, hy, rfl⟩ := List.mem_map.1 hx
    exact short1_ok (fun _ l hl => shortS_ok n l hl) y (h.2 y (List.mem_of_mem_take hy))
end Go.Proofs.YtfbakipopjoghaaDoor
