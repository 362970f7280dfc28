/- A part of the proof for ResolveEndsCardSaid. -/
import Derived.Test.YtfbakipopjoghaaDoorEndsXT4
set_option maxRecDepth 100000
set_option linter.unusedVariables false
set_option linter.unusedSimpArgs false
namespace Go.Proofs.YtfbakipopjoghaaDoor
open Go Go.Ab

theorem pv_cells (s : SV) : s.pv.cells.length = 11 := by obtain ⟨a, b, c, d, e, f, g, i, j, k, m⟩ := s; rw [SV.pv]; rfl
theorem pv_isAgg (s : SV) : s.pv.isAgg = true := by obtain ⟨a, b, c, d, e, f, g, i, j, k, m⟩ := s; rw [SV.pv]; rfl
theorem br_cells (s : List PV × List SV) : (brPV s).cells.length = 2 := by rw [brPV_eq]; rfl
theorem br_isAgg (s : List PV × List SV) : (brPV s).isAgg = true := by rw [brPV_eq]; rfl
theorem call_cells (c : List UInt8 × List PV) : (callPV c).cells.length = 2 := rfl
theorem call_ok (c : List UInt8 × List PV) : ∃ cs, callPV c = .agg cs ∧ cs.length = 2 ∧ ∀ p ∈ cs, p.one = true := ⟨_, rfl, rfl, by simp [PV.one]⟩

def cutC (c : List UInt8 × List PV) : List UInt8 × List PV := (c.1.take 70, c.2)
def short1 (rec : List SV → List SV) (on : Bool) : SV → SV
  | .mk a b c d e f g h i j k => .mk (a.take 70) b c d e (f.take 70) (g.take 70) (h.take 3) (i.take 4) ((j.take 18).map cutC) (if on then (k.take 4).map fun b => (b.1.take 2, rec b.2) else [])
def shortS : Nat → List SV → List SV
  | 0, l => (l.take 8).map (short1 id false)
  | n + 1, l => (l.take 8).map (short1 (shortS n) true)
def shortR : Nat → SV → SV
  | 0 => short1 id false
  | n + 1 => short1 (shortS n) true
theorem shortS_eq : ∀ n l, shortS n l = (l.take 8).map (shortR n)
  | 0, l => rfl
  | n + 1, l => rfl

def mixC (q : Nat) (l : List (List UInt8 × List PV)) : List (List UInt8 × List PV) := (l.take q).map cutC ++ l.drop q

theorem mixC_zero (l : List (List UInt8 × List PV)) : mixC 0 l = l := by simp [mixC]
theorem mixC_len (q : Nat) (l : List (List UInt8 × List PV)) : (mixC q l).length = l.length := by simp [mixC]; omega
theorem mixC_get {q : Nat} {l : List (List UInt8 × List PV)} {c : List UInt8 × List PV} (h : l[q]? = some c) : (mixC q l)[q]? = some c := by
  have hq := (List.getElem?_eq_some_iff.1 h).1
  rw [mixC, List.getElem?_append_right (by simp; omega)]
  simp only [List.length_map, List.length_take, List.getElem?_drop]
  rw [show q + (q - min q l.length) = q by omega]; exact h
theorem mixC_succ {q : Nat} {l : List (List UInt8 × List PV)} {c : List UInt8 × List PV} (h : l[q]? = some c) : mixC (q + 1) l = (mixC q l).set q (cutC c) := by
  have hq := (List.getElem?_eq_some_iff.1 h).1
  have hc := (List.getElem?_eq_some_iff.1 h).2
  have hl : ((l.take q).map cutC).length = q := by simp; omega
  rw [mixC, mixC, List.set_append_right _ _ (by omega), hl, Nat.sub_self, List.take_succ_eq_append_getElem hq, List.drop_eq_getElem_cons hq, hc]
  simp
theorem mixC_all (l : List (List UInt8 × List PV)) : mixC l.length l = l.map cutC := by simp [mixC]

theorem short_of (n : Nat) (hn : n ≤ 1000) (ih : ∀ m l, m < n → l.length ≤ maxLen → okSs l → Pure Tryd.prog tabG 11 [.list (l.map SV.pv), .int .i64 m] (.list ((shortS m l).map SV.pv)))
    (l : List SV) (hm : l.length ≤ maxLen) (hl : okSs l) : Pure Tryd.prog tabG 11 [.list (l.map SV.pv), .int .i64 n] (.list ((shortS n l).map SV.pv)) := by
  have hm' : l.length ≤ 9223372036854775807 := by unfold maxLen at hm; omega
  refine Pure.intro F11_ok (by simp [F11]) ?_
  simp (disch := first | exact chk_rfl | (unfold Chk; decide +kernel) | omega | (simp only [cells_agg, List.length_cons, List.length_nil, List.length_map, List.length_take, List.length_append, Nat.zero_add, Nat.reduceAdd]; first | done | omega) | fail) only [F11o0, F11o1, F11o2, F11o3, F11o4, F11o5, F11p5, F11o6, F11p6, F11o7, F11o8, F11o9, F11p9, F11o10, F11b11, F11o12, F11o13, F11o14, F11o15, F11o16, F11p16, F11o17, F11b18, F11o19, F11o20, F11b21, F11o22, F11c, F11, push_cast, ↓reduceIte, Nat.reduceEqDiff, Nat.reduceAdd, Nat.reduceMul, Nat.reduceLeDiff, Nat.reduceLT, Nat.reduceBEq, Nat.reduceSub, Int.reduceToNat, Int.reduceNeg]
  refine vc_over ([(5, 0, 32, 11)]) (fun i : Nat => [(5, .olist 0 11 (((l.take i).map (shortR n)).map SV.pv)), (6, .pv (.int .i64 (i : Int)))]) (fun _ => []) (fun i => i ≤ l.length ∧ i ≤ 8) (fun i => 8 - i) (0) ?_; intro e0 σ0 n0 h0; simp (disch := first | exact chk_rfl | (unfold Chk; decide +kernel) | omega | (simp only [cells_agg, List.length_cons, List.length_nil, List.length_map, List.length_take, List.length_append, Nat.zero_add, Nat.reduceAdd]; first | done | omega) | fail) only [push_cast, ↓reduceIte, Nat.reduceEqDiff, Nat.reduceAdd, Nat.reduceMul, Nat.reduceLeDiff, Nat.reduceLT, Nat.reduceBEq, Nat.reduceSub, Int.reduceToNat, Int.reduceNeg] at h0; obtain ⟨rfl, rfl, rfl⟩ := h0; refine ⟨?_, ?_, ?_⟩
  · simp (disch := first | exact chk_rfl | (unfold Chk; decide +kernel) | omega | (simp only [cells_agg, List.length_cons, List.length_nil, List.length_map, List.length_take, List.length_append, Nat.zero_add, Nat.reduceAdd]; first | done | omega) | fail) only [push_cast, ↓reduceIte, Nat.reduceEqDiff, Nat.reduceAdd, Nat.reduceMul, Nat.reduceLeDiff, Nat.reduceLT, Nat.reduceBEq, Nat.reduceSub, Int.reduceToNat, Int.reduceNeg]
  · omega
  intro i hi
  obtain ⟨hi1, hi2⟩ := hi
  by_cases hlt : i < l.length
  · by_cases hlt8 : i < 8
    · have hltI : (i : Int) < l.length := by omega
      have hltI8 : (i : Int) < 8 := by omega
      obtain ⟨s, hs⟩ : ∃ s, l[i]? = some s := ⟨l[i], List.getElem?_eq_getElem hlt⟩
      obtain ⟨a, b, c, d, e, f, g, h, ru, j, k⟩ := s
      have hokS := okSs_mem hl _ (List.mem_of_getElem? hs)
      simp only [okS] at hokS
      obtain ⟨hjm, hkm, hkk⟩ := hokS
      simp (disch := first | exact chk_rfl | (unfold Chk; decide +kernel) | omega | (simp only [cells_agg, List.length_cons, List.length_nil, List.length_map, List.length_take, List.length_append, Nat.zero_add, Nat.reduceAdd]; first | done | omega) | fail) only [hs, pv_cells, pv_isAgg, SV.pv, brsPV_eq, push_cast, ↓reduceIte, Nat.reduceEqDiff, Nat.reduceAdd, Nat.reduceMul, Nat.reduceLeDiff, Nat.reduceLT, Nat.reduceBEq, Nat.reduceSub, Int.reduceToNat, Int.reduceNeg]
      refine callDL_pure (cut_ok a) rfl ?_
      simp (disch := first | exact chk_rfl | (unfold Chk; decide +kernel) | omega | (simp only [cells_agg, List.length_cons, List.length_nil, List.length_map, List.length_take, List.length_append, Nat.zero_add, Nat.reduceAdd]; first | done | omega) | fail) only [push_cast, ↓reduceIte, Nat.reduceEqDiff, Nat.reduceAdd, Nat.reduceMul, Nat.reduceLeDiff, Nat.reduceLT, Nat.reduceBEq, Nat.reduceSub, Int.reduceToNat, Int.reduceNeg]
      refine callDL_pure (cut_ok f) rfl ?_
      simp (disch := first | exact chk_rfl | (unfold Chk; decide +kernel) | omega | (simp only [cells_agg, List.length_cons, List.length_nil, List.length_map, List.length_take, List.length_append, Nat.zero_add, Nat.reduceAdd]; first | done | omega) | fail) only [push_cast, ↓reduceIte, Nat.reduceEqDiff, Nat.reduceAdd, Nat.reduceMul, Nat.reduceLeDiff, Nat.reduceLT, Nat.reduceBEq, Nat.reduceSub, Int.reduceToNat, Int.reduceNeg]
      refine callDL_pure (cut_ok g) rfl ?_
      have h18 : (j.take 18).length ≤ 18 := by simp; omega
      simp (disch := first | exact chk_rfl | (unfold Chk; decide +kernel) | omega | (simp only [cells_agg, List.length_cons, List.length_nil, List.length_map, List.length_take, List.length_append, Nat.zero_add, Nat.reduceAdd]; first | done | omega) | fail) only [call_cells, push_cast, ↓reduceIte, Nat.reduceEqDiff, Nat.reduceAdd, Nat.reduceMul, Nat.reduceLeDiff, Nat.reduceLT, Nat.reduceBEq, Nat.reduceSub, Int.reduceToNat, Int.reduceNeg]
      refine vc_over ([]) (fun q : Nat => [(8, .pv (.int .i64 (q : Int)))]) (fun q => [(2, .cells 87 false (flat ((mixC q (j.take 18)).map callPV)))]) (fun q => q ≤ (j.take 18).length) (fun q => (j.take 18).length - q) (0) ?_; intro e0 σ0 n0 h0; simp (disch := first | exact chk_rfl | (unfold Chk; decide +kernel) | omega | (simp only [cells_agg, List.length_cons, List.length_nil, List.length_map, List.length_take, List.length_append, Nat.zero_add, Nat.reduceAdd]; first | done | omega) | fail) only [push_cast, ↓reduceIte, Nat.reduceEqDiff, Nat.reduceAdd, Nat.reduceMul, Nat.reduceLeDiff, Nat.reduceLT, Nat.reduceBEq, Nat.reduceSub, Int.reduceToNat, Int.reduceNeg] at h0; obtain ⟨rfl, rfl, rfl⟩ := h0; refine ⟨?_, ?_, ?_⟩
      · simp (disch := first | exact chk_rfl | (unfold Chk; decide +kernel) | omega | (simp only [cells_agg, List.length_cons, List.length_nil, List.length_map, List.length_take, List.length_append, Nat.zero_add, Nat.reduceAdd]; first | done | omega) | fail) only [mixC_zero, push_cast, ↓reduceIte, Nat.reduceEqDiff, Nat.reduceAdd, Nat.reduceMul, Nat.reduceLeDiff, Nat.reduceLT, Nat.reduceBEq, Nat.reduceSub, Int.reduceToNat, Int.reduceNeg]
      · omega
      · intro q hq
        by_cases hql : q < (j.take 18).length
        · obtain ⟨cc, hcc⟩ : ∃ cc, (j.take 18)[q]? = some cc := ⟨_, List.getElem?_eq_getElem hql⟩
          have hqlI : (q : Int) < (j.take 18).length := by omega
          have hlen := flat_map_len call_cells (mixC q (j.take 18))
          rw [mixC_len] at hlen
          have hget := flat_map_get (o := 0) call_cells (mixC_get hcc) (by omega)
          have hset := flat_map_set (o := 0) (y := cutC cc) (p := .str (cc.1.take 70)) call_cells (mixC_get hcc) (by omega) rfl
          rw [← mixC_succ hcc] at hset
          simp only [Nat.add_zero, callPV, cells_agg, get0, omap_some] at hget
          simp only [Nat.add_zero, List.append_assoc, List.cons_append, List.nil_append] at hset
          simp (disch := first | exact chk_rfl | (unfold Chk; decide +kernel) | omega | (simp only [cells_agg, List.length_cons, List.length_nil, List.length_map, List.length_take, List.length_append, Nat.zero_add, Nat.reduceAdd]; first | done | omega) | fail) only [hget, hlen, hset, push_cast, ↓reduceIte, Nat.reduceEqDiff, Nat.reduceAdd, Nat.reduceMul, Nat.reduceLeDiff, Nat.reduceLT, Nat.reduceBEq, Nat.reduceSub, Int.reduceToNat, Int.reduceNeg]
          refine callDL_pure (cut_ok cc.1) rfl ?_
          simp (disch := first | exact chk_rfl | (unfold Chk; decide +kernel) | omega | (simp only [cells_agg, List.length_cons, List.length_nil, List.length_map, List.length_take, List.length_append, Nat.zero_add, Nat.reduceAdd]; first | done | omega) | fail) only [hlen, hset, push_cast, ↓reduceIte, Nat.reduceEqDiff, Nat.reduceAdd, Nat.reduceMul, Nat.reduceLeDiff, Nat.reduceLT, Nat.reduceBEq, Nat.reduceSub, Int.reduceToNat, Int.reduceNeg]
          exact ⟨q + 1, hd_z (by simp (disch := first | exact chk_rfl | (unfold Chk; decide +kernel) | omega | (simp only [cells_agg, List.length_cons, List.length_nil, List.length_map, List.length_take, List.length_append, Nat.zero_add, Nat.reduceAdd]; first | done | omega) | fail) only [push_cast, ↓reduceIte, Nat.reduceEqDiff, Nat.reduceAdd, Nat.reduceMul, Nat.reduceLeDiff, Nat.reduceLT, Nat.reduceBEq, Nat.reduceSub, Int.reduceToNat, Int.reduceNeg]), by omega, by omega⟩
        · have hqe : q = (j.take 18).length := by omega
          subst hqe
          simp (disch := first | exact chk_rfl | (unfold Chk; decide +kernel) | omega | (simp only [cells_agg, List.length_cons, List.length_nil, List.length_map, List.length_take, List.length_append, Nat.zero_add, Nat.reduceAdd]; first | done | omega) | fail) only [mixC_all, push_cast, ↓reduceIte, Nat.reduceEqDiff, Nat.reduceAdd, Nat.reduceMul, Nat.reduceLeDiff, Nat.reduceLT, Nat.reduceBEq, Nat.reduceSub, Int.reduceToNat, Int.reduceNeg]
          have hkm' : k.length ≤ 9223372036854775807 := by unfold maxLen at hkm; omega
          let st := fun m : Nat => [(1, Blk.cells 32 true [AV.pv (PV.str (List.take 70 a)), AV.pv (PV.int IntKind.i64 b), AV.pv (PV.int IntKind.i64 c),
                AV.pv (PV.int IntKind.i64 d), AV.pv (PV.int IntKind.i64 e), AV.pv (PV.str (List.take 70 f)),
                AV.pv (PV.str (List.take 70 g)), AV.pv (PV.list (List.take 3 h)), AV.pv (PV.list (List.take 4 ru)),
                AV.row 2 2 0 (List.take 18 j).length, .olist 3 2 (((k.take m).map fun b => (b.1.take 2, shortS (n - 1) b.2)).map brPV)])]
          refine vc_over ([(7, 11, 89, 2)]) (fun m : Nat => [(9, .pv (.int .i64 (m : Int)))]) (fun m => st m) (fun m => m ≤ k.length ∧ m ≤ 4 ∧ (n = 0 → m = 0)) (fun m => 4 - m) (0) ?_; intro e0 σ0 n0 h0; simp (disch := first | exact chk_rfl | (unfold Chk; decide +kernel) | omega | (simp only [cells_agg, List.length_cons, List.length_nil, List.length_map, List.length_take, List.length_append, Nat.zero_add, Nat.reduceAdd]; first | done | omega) | fail) only [push_cast, ↓reduceIte, Nat.reduceEqDiff, Nat.reduceAdd, Nat.reduceMul, Nat.reduceLeDiff, Nat.reduceLT, Nat.reduceBEq, Nat.reduceSub, Int.reduceToNat, Int.reduceNeg] at h0; obtain ⟨rfl, rfl, rfl⟩ := h0; refine ⟨?_, ?_, ?_⟩
          · simp (disch := first | exact chk_rfl | (unfold Chk; decide +kernel) | omega | (simp only [cells_agg, List.length_cons, List.length_nil, List.length_map, List.length_take, List.length_append, Nat.zero_add, Nat.reduceAdd]; first | done | omega) | fail) only [st, push_cast, ↓reduceIte, Nat.reduceEqDiff, Nat.reduceAdd, Nat.reduceMul, Nat.reduceLeDiff, Nat.reduceLT, Nat.reduceBEq, Nat.reduceSub, Int.reduceToNat, Int.reduceNeg]
          · omega
          · rintro m ⟨hm1, hm2, hm3⟩
            simp only [st]
            by_cases hgo : m < k.length ∧ m < 4 ∧ 0 < n
            · obtain ⟨h1, h2, h3⟩ := hgo
              have h1I : (m : Int) < k.length := by omega
              have h2I : (m : Int) < 4 := by omega
              have h3I : (0 : Int) < n := by omega
              obtain ⟨bb, hbb⟩ : ∃ bb, k[m]? = some bb := ⟨_, List.getElem?_eq_getElem h1⟩
              obtain ⟨w, ls⟩ := bb
              obtain ⟨n', rfl⟩ : ∃ n', n = n' + 1 := ⟨n - 1, by omega⟩
              have hts := take_snoc hbb
              have hb := okBs_mem hkk _ (List.mem_of_getElem? hbb)
              have hcall := ih n' ls (by omega) hb.2 hb.1
              simp (disch := first | exact chk_rfl | (unfold Chk; decide +kernel) | omega | (simp only [cells_agg, List.length_cons, List.length_nil, List.length_map, List.length_take, List.length_append, Nat.zero_add, Nat.reduceAdd]; first | done | omega) | fail) only [hs, pv_cells, SV.pv, hbb, br_cells, br_isAgg, brsPV_eq, brPV_eq, Nat.add_sub_cancel, Int.add_sub_cancel, push_cast, ↓reduceIte, Nat.reduceEqDiff, Nat.reduceAdd, Nat.reduceMul, Nat.reduceLeDiff, Nat.reduceLT, Nat.reduceBEq, Nat.reduceSub, Int.reduceToNat, Int.reduceNeg]
              refine callDL_pure hcall rfl ?_
              simp (disch := first | exact chk_rfl | (unfold Chk; decide +kernel) | omega | (simp only [cells_agg, List.length_cons, List.length_nil, List.length_map, List.length_take, List.length_append, Nat.zero_add, Nat.reduceAdd]; first | done | omega) | fail) only [brPV_eq, push_cast, ↓reduceIte, Nat.reduceEqDiff, Nat.reduceAdd, Nat.reduceMul, Nat.reduceLeDiff, Nat.reduceLT, Nat.reduceBEq, Nat.reduceSub, Int.reduceToNat, Int.reduceNeg]
              exact ⟨m + 1, hd_z (by simp (disch := first | exact chk_rfl | (unfold Chk; decide +kernel) | omega | (simp only [cells_agg, List.length_cons, List.length_nil, List.length_map, List.length_take, List.length_append, Nat.zero_add, Nat.reduceAdd]; first | done | omega) | fail) only [hts, List.map_append, brPV_eq, push_cast, ↓reduceIte, Nat.reduceEqDiff, Nat.reduceAdd, Nat.reduceMul, Nat.reduceLeDiff, Nat.reduceLT, Nat.reduceBEq, Nat.reduceSub, Int.reduceToNat, Int.reduceNeg]), ⟨by omega, by omega, fun h => h.elim⟩, by omega⟩
            · have hexit : ¬ m < k.length ∨ (m < k.length ∧ ¬ m < 4) ∨ (m < k.length ∧ m < 4 ∧ ¬ 0 < n) := by omega
              have hfin : SV.pv (shortR n (.mk a b c d e f g h ru j k)) = .agg [.str (a.take 70), .int .i64 b, .int .i64 c, .int .i64 d, .int .i64 e, .str (f.take 70), .str (g.take 70), .list (h.take 3), .list (ru.take 4), .list (((j.take 18).map cutC).map callPV), .list (((k.take m).map fun b => (b.1.take 2, shortS (n - 1) b.2)).map brPV)] := by
                cases n with
                | zero =>
                  obtain rfl := hm3 rfl
                  simp only [shortR, short1, SV.pv, brsPV_eq]; simp
                | succ n =>
                  have : k.take m = k.take 4 := by
                    rcases hexit with h | h | h
                    · rw [List.take_of_length_le (by omega), List.take_of_length_le (by omega)]
                    · rw [show m = 4 by omega]
                    · omega
                  simp only [shortR, short1, SV.pv, brsPV_eq, this, Nat.add_sub_cancel]; simp
              have hts := take_snoc hs
              have hfz := frzB_map call_ok (by omega) ((j.take 18).map cutC) (n := (j.take 18).length) (r := 2) (T := 87) (b := false) (by simp)
              have hend : ∀ x : Nat, x = i + 1 → (x ≤ l.length ∧ x ≤ 8) ∧ 8 - x < 8 - i := fun x hx => by omega
              rcases hexit with h1 | ⟨h1, h2⟩ | ⟨h1, h2, h3⟩
              · have h1I : ¬ (m : Int) < k.length := by omega
                simp (disch := first | exact chk_rfl | (unfold Chk; decide +kernel) | omega | (simp only [cells_agg, List.length_cons, List.length_nil, List.length_map, List.length_take, List.length_append, Nat.zero_add, Nat.reduceAdd]; first | done | omega) | fail) only [hs, pv_cells, SV.pv, brsPV_eq, hfz, push_cast, ↓reduceIte, Nat.reduceEqDiff, Nat.reduceAdd, Nat.reduceMul, Nat.reduceLeDiff, Nat.reduceLT, Nat.reduceBEq, Nat.reduceSub, Int.reduceToNat, Int.reduceNeg]
                exact ⟨i + 1, hd_z (by simp (disch := first | exact chk_rfl | (unfold Chk; decide +kernel) | omega | (simp only [cells_agg, List.length_cons, List.length_nil, List.length_map, List.length_take, List.length_append, Nat.zero_add, Nat.reduceAdd]; first | done | omega) | fail) only [hts, List.map_append, hfin, push_cast, ↓reduceIte, Nat.reduceEqDiff, Nat.reduceAdd, Nat.reduceMul, Nat.reduceLeDiff, Nat.reduceLT, Nat.reduceBEq, Nat.reduceSub, Int.reduceToNat, Int.reduceNeg]), hend _ rfl⟩
              · have h1I : (m : Int) < k.length := by omega
                have h2I : ¬ (m : Int) < 4 := by omega
                simp (disch := first | exact chk_rfl | (unfold Chk; decide +kernel) | omega | (simp only [cells_agg, List.length_cons, List.length_nil, List.length_map, List.length_take, List.length_append, Nat.zero_add, Nat.reduceAdd]; first | done | omega) | fail) only [hs, pv_cells, SV.pv, brsPV_eq, hfz, push_cast, ↓reduceIte, Nat.reduceEqDiff, Nat.reduceAdd, Nat.reduceMul, Nat.reduceLeDiff, Nat.reduceLT, Nat.reduceBEq, Nat.reduceSub, Int.reduceToNat, Int.reduceNeg]
                exact ⟨i + 1, hd_z (by simp (disch := first | exact chk_rfl | (unfold Chk; decide +kernel) | omega | (simp only [cells_agg, List.length_cons, List.length_nil, List.length_map, List.length_take, List.length_append, Nat.zero_add, Nat.reduceAdd]; first | done | omega) | fail) only [hts, List.map_append, hfin, push_cast, ↓reduceIte, Nat.reduceEqDiff, Nat.reduceAdd, Nat.reduceMul, Nat.reduceLeDiff, Nat.reduceLT, Nat.reduceBEq, Nat.reduceSub, Int.reduceToNat, Int.reduceNeg]), hend _ rfl⟩
              · have h1I : (m : Int) < k.length := by omega
                have h2I : (m : Int) < 4 := by omega
                have h3I : ¬ (0 : Int) < n := by omega
                simp (disch := first | exact chk_rfl | (unfold Chk; decide +kernel) | omega | (simp only [cells_agg, List.length_cons, List.length_nil, List.length_map, List.length_take, List.length_append, Nat.zero_add, Nat.reduceAdd]; first | done | omega) | fail) only [hs, pv_cells, SV.pv, brsPV_eq, hfz, push_cast, ↓reduceIte, Nat.reduceEqDiff, Nat.reduceAdd, Nat.reduceMul, Nat.reduceLeDiff, Nat.reduceLT, Nat.reduceBEq, Nat.reduceSub, Int.reduceToNat, Int.reduceNeg]
                exact ⟨i + 1, hd_z (by simp (disch := first | exact chk_rfl | (unfold Chk; decide +kernel) | omega | (simp only [cells_agg, List.length_cons, List.length_nil, List.length_map, List.length_take, List.length_append, Nat.zero_add, Nat.reduceAdd]; first | done | omega) | fail) only [hts, List.map_append, hfin, push_cast, ↓reduceIte, Nat.reduceEqDiff, Nat.reduceAdd, Nat.reduceMul, Nat.reduceLeDiff, Nat.reduceLT, Nat.reduceBEq, Nat.reduceSub, Int.reduceToNat, Int.reduceNeg]), hend _ rfl⟩
    · have h8 : i = 8 := by omega
      subst h8
      have hltI : ((8 : Nat) : Int) < l.length := by omega
      simp (disch := first | exact chk_rfl | (unfold Chk; decide +kernel) | omega | (simp only [cells_agg, List.length_cons, List.length_nil, List.length_map, List.length_take, List.length_append, Nat.zero_add, Nat.reduceAdd]; first | done | omega) | fail) only [push_cast, ↓reduceIte, Nat.reduceEqDiff, Nat.reduceAdd, Nat.reduceMul, Nat.reduceLeDiff, Nat.reduceLT, Nat.reduceBEq, Nat.reduceSub, Int.reduceToNat, Int.reduceNeg]
      rw [shortS_eq]
      exact .refl _
  · have hltI : ¬ (i : Int) < l.length := by omega
    have he : l.take i = l.take 8 := by rw [List.take_of_length_le (by omega), List.take_of_length_le (by omega)]
    simp (disch := first | exact chk_rfl | (unfold Chk; decide +kernel) | omega | (simp only [cells_agg, List.length_cons, List.length_nil, List.length_map, List.length_take, List.length_append, Nat.zero_add, Nat.reduceAdd]; first | done | omega) | fail) only [he, push_cast, ↓reduceIte, Nat.reduceEqDiff, Nat.reduceAdd, Nat.reduceMul, Nat.reduceLeDiff, Nat.reduceLT, Nat.reduceBEq, Nat.reduceSub, Int.reduceToNat, Int.reduceNeg]
    rw [shortS_eq]
    exact .refl _

theorem short_all : ∀ (n : Nat) (hn : n ≤ 1000) (l : List SV), l.length ≤ maxLen → okSs l → Pure Tryd.prog tabG 11 [.list (l.map SV.pv), .int .i64 n] (.list ((shortS n l).map SV.pv)) := by
  intro n
  induction n using Nat.strongRecOn with
  | _ n ih => exact fun hn l hm hl => short_of n hn (fun m l hmn => ih m hmn (by omega) l) l hm hl

theorem okS_short {f : SV → SV} (h : ∀ s, okS s → okS (f s)) : ∀ {l : List SV}, okSs l → okSs (l.map f)
  | [], _ => by simp [okSs]
  | s :: r, hk => by
    simp only [okSs, List.map_cons] at hk ⊢
    exact ⟨h s hk.1, okS_short h hk.2⟩
end Go.Proofs.YtfbakipopjoghaaDoor
