/- A part of the proof for FitBackCardSaid. -/
import Derived.Test.YtikmckfppnmlnaaDoorBakYT3
import Derived.Test.YtikmckfppnmlnaaDoorBakYD
set_option maxRecDepth 100000
set_option linter.unusedVariables false
set_option linter.unusedSimpArgs false
namespace Go.Proofs.YtikmckfppnmlnaaDoor
open Go Go.Ab
open Nat renaming reduceEqDiff → qa, reduceAdd → qb, reduceMul → qc, reduceLeDiff → qd, reduceLT → qe, reduceBEq → qf, reduceSub → qg
open Int renaming reduceToNat → qh, reduceNeg → qi
def shortF (rec : Val → Val) : Fld → Fld
  | .mk n v => .mk (n.take 40) (rec v)
def shortV1 (rec : Val → Val) (on : Bool) : Val → Val
  | .mk k i s t l f => .mk k i s (t.take 40) (if on then (l.take 6).map rec else []) (if on then (f.take 6).map (shortF rec) else [])
def shortV : Nat → Val → Val
  | 0 => shortV1 id false
  | n + 1 => shortV1 (shortV n) (decide (0 < n))
def upto (on : Prop) [Decidable on] (len : Nat) : Nat := if on then min len 6 else 0
theorem shortV_of (n : Nat) (hn : n ≤ 1000) (ih : ∀ m v, m < n → v.ok → Pure Tryd.prog tabG 36 [v.pv, .int .i64 m] (shortV m v).pv) (v : Val) (hv : v.ok) : Pure Tryd.prog tabG 36 [v.pv, .int .i64 n] (shortV n v).pv := by
  obtain ⟨k, i, s, t, l, f⟩ := v
  rw [Val.ok_mk] at hv
  obtain ⟨h1, h2, h3, h4, h5, h7, h6, h8⟩ := hv
  refine Pure.intro F36_ok (by simp [F36]) ?_
  simp (disch := first | exact dI | fail) only [F36o0, F36o1, F36o2, F36o3, F36o4, F36o5, F36o6, F36o7, F36b8, F36o9, F36o10, F36o11, F36p11, F36o12, F36b13, F36o14, F36o15, F36c, F36, Val.pv_mk, push_cast, ↓reduceIte, qa, qb, qc, qd, qe, qf, qg, qh, qi]
  refine vc_meet ([(5, 0, 62, 6)]) (fun m : Nat => [(5, .olist 2 6 (((l.take m).map (shortV (n - 1))).map Val.pv)), (7, .pv (.int .i64 (m : Int)))]) (fun _ => []) (fun m => m ≤ upto (1 < n) l.length) (fun m => 6 - m) (0) ([1, 2, 4, 5, 6]) (fun m => m = upto (1 < n) l.length) ?_; intro e0 σ0 n0 h0; simp (disch := first | exact dI | fail) only [push_cast, ↓reduceIte, qa, qb, qc, qd, qe, qf, qg, qh, qi] at h0; obtain ⟨rfl, rfl, rfl⟩ := h0; refine ⟨?_, ?_, ?_, ?_⟩
  · simp (disch := first | exact dI | fail) only [push_cast, ↓reduceIte, qa, qb, qc, qd, qe, qf, qg, qh, qi]
  · omega
  · intro m hm
    by_cases hgo : m < l.length ∧ m < 6 ∧ 1 < n
    · obtain ⟨g1, g2, g3⟩ := hgo
      have g1I : (m : Int) < l.length := by omega
      have g2I : (m : Int) < 6 := by omega
      have g3I : (1 : Int) < n := by omega
      obtain ⟨x, hx⟩ : ∃ x, l[m]? = some x := ⟨_, List.getElem?_eq_getElem g1⟩
      obtain ⟨n', rfl⟩ : ∃ n', n = n' + 1 := ⟨n - 1, by omega⟩
      have hts := take_snoc hx
      simp (disch := first | exact dI | fail) only [hx, Val.cells_len, Val.isAgg, Nat.add_sub_cancel, Int.add_sub_cancel, push_cast, ↓reduceIte, qa, qb, qc, qd, qe, qf, qg, qh, qi]
      refine ACall.pure (ih n' x (by omega) (h7 x (List.mem_of_getElem? hx))) rfl ?_
      simp (disch := first | exact dI | fail) only [Val.cells_len, Val.ones, push_cast, ↓reduceIte, qa, qb, qc, qd, qe, qf, qg, qh, qi]
      exact ⟨m + 1, hd_z (by simp (disch := first | exact dI | fail) only [hts, List.map_append, push_cast, ↓reduceIte, qa, qb, qc, qd, qe, qf, qg, qh, qi]), by simp only [upto, if_pos g3] at hm ⊢; omega, by omega⟩
    · have hm' : m = upto (1 < n) l.length := by unfold upto at hm ⊢; split at hm <;> rename_i h1 <;> (try rw [if_pos h1]) <;> (try rw [if_neg h1]) <;> omega
      have hexit : ¬ m < l.length ∨ (m < l.length ∧ ¬ m < 6) ∨ (m < l.length ∧ m < 6 ∧ ¬ 1 < n) := by omega
      rcases hexit with g1 | ⟨g1, g2⟩ | ⟨g1, g2, g3⟩
      · have g1I : ¬ (m : Int) < l.length := by omega
        simp (disch := first | exact dI | fail) only [push_cast, ↓reduceIte, qa, qb, qc, qd, qe, qf, qg, qh, qi]
        exact ⟨m, hm', by simp (disch := first | exact dI | fail) only [push_cast, ↓reduceIte, qa, qb, qc, qd, qe, qf, qg, qh, qi]⟩
      · have g1I : (m : Int) < l.length := by omega
        have g2I : ¬ (m : Int) < 6 := by omega
        simp (disch := first | exact dI | fail) only [push_cast, ↓reduceIte, qa, qb, qc, qd, qe, qf, qg, qh, qi]
        exact ⟨m, hm', by simp (disch := first | exact dI | fail) only [push_cast, ↓reduceIte, qa, qb, qc, qd, qe, qf, qg, qh, qi]⟩
      · have g1I : (m : Int) < l.length := by omega
        have g2I : (m : Int) < 6 := by omega
        have g3I : ¬ (1 : Int) < n := by omega
        simp (disch := first | exact dI | fail) only [push_cast, ↓reduceIte, qa, qb, qc, qd, qe, qf, qg, qh, qi]
        exact ⟨m, hm', by simp (disch := first | exact dI | fail) only [push_cast, ↓reduceIte, qa, qb, qc, qd, qe, qf, qg, qh, qi]⟩
  · intro m hm s1 hs1; simp (disch := first | exact dI | fail) only [push_cast, ↓reduceIte, qa, qb, qc, qd, qe, qf, qg, qh, qi] at hs1; subst hs1
    have hl : (l.take m).map (shortV (n - 1)) = if decide (1 < n) = true then (l.take 6).map (shortV (n - 1)) else [] := by
      subst hm; unfold upto
      by_cases h : 1 < n
      · simp only [h, decide_true, if_true]; rw [Nat.min_comm, ← List.take_take, List.take_of_length_le (Nat.le_refl _)]
      · simp [h]
    obtain ⟨LL, hLL⟩ : ∃ LL, LL = (l.take m).map (shortV (n - 1)) := ⟨_, rfl⟩
    rw [← hLL] at hl ⊢
    clear hLL
    simp (disch := first | exact dI | fail) only [push_cast, ↓reduceIte, qa, qb, qc, qd, qe, qf, qg, qh, qi]
    refine vc_meet ([(6, 0, 127, 7)]) (fun m : Nat => [(6, .olist 3 7 (((f.take m).map (shortF (shortV (n - 1)))).map Fld.pv)), (8, .pv (.int .i64 (m : Int)))]) (fun _ => []) (fun m => m ≤ upto (1 < n) f.length) (fun m => 6 - m) (0) ([2, 4, 5, 6]) (fun m => m = upto (1 < n) f.length) ?_; intro e0 σ0 n0 h0; simp (disch := first | exact dI | fail) only [push_cast, ↓reduceIte, qa, qb, qc, qd, qe, qf, qg, qh, qi] at h0; obtain ⟨rfl, rfl, rfl⟩ := h0; refine ⟨?_, ?_, ?_, ?_⟩
    · simp (disch := first | exact dI | fail) only [push_cast, ↓reduceIte, qa, qb, qc, qd, qe, qf, qg, qh, qi]
    · omega
    · intro m hm
      by_cases hgo : m < f.length ∧ m < 6 ∧ 1 < n
      · obtain ⟨g1, g2, g3⟩ := hgo
        have g1I : (m : Int) < f.length := by omega
        have g2I : (m : Int) < 6 := by omega
        have g3I : (1 : Int) < n := by omega
        obtain ⟨x, hx⟩ : ∃ x, f[m]? = some x := ⟨_, List.getElem?_eq_getElem g1⟩
        have hxo := h8 x (List.mem_of_getElem? hx)
        obtain ⟨nm, vv⟩ := x
        rw [Fld.ok_mk] at hxo
        obtain ⟨n', rfl⟩ : ∃ n', n = n' + 1 := ⟨n - 1, by omega⟩
        have hcall := ih n' vv (by omega) hxo.2
        have hts := take_snoc hx
        obtain ⟨w1, w2, w3, w4, w5, w6⟩ := vv
        rw [Val.pv_mk] at hcall
        have hlen := Fld.cells_len (.mk nm (.mk w1 w2 w3 w4 w5 w6))
        rw [Fld.pv_mk, Val.pv_mk] at hlen
        obtain ⟨cs, hcs, hcl, hco⟩ := Val.row (shortV n' (.mk w1 w2 w3 w4 w5 w6))
        have hone : cs.all PV.one = true := List.all_eq_true.2 hco
        rw [hcs] at hcall
        obtain ⟨u1, u2, u3, u4, u5, u6, rfl⟩ := len_6 hcl
        simp only [List.all_cons, List.all_nil, Bool.and_true, Bool.and_eq_true] at hone
        obtain ⟨o1, o2, o3, o4, o5, o6⟩ := hone
        simp (disch := first | exact dI | fail) only [hx, Fld.pv_mk, Val.pv_mk, Nat.add_sub_cancel, Int.add_sub_cancel, push_cast, ↓reduceIte, qa, qb, qc, qd, qe, qf, qg, qh, qi]
        refine callDL_pure hcall rfl ?_
        simp (disch := first | exact dI | fail) only [o1, o2, o3, o4, o5, o6, push_cast, ↓reduceIte, qa, qb, qc, qd, qe, qf, qg, qh, qi]
        exact ⟨m + 1, hd_z (by simp (disch := first | exact dI | fail) only [hts, List.map_append, shortF, Fld.pv_mk, hcs, push_cast, ↓reduceIte, qa, qb, qc, qd, qe, qf, qg, qh, qi]), by simp only [upto, if_pos g3] at hm ⊢; omega, by omega⟩
      · have hm' : m = upto (1 < n) f.length := by unfold upto at hm ⊢; split at hm <;> rename_i h1 <;> (try rw [if_pos h1]) <;> (try rw [if_neg h1]) <;> omega
        have hexit : ¬ m < f.length ∨ (m < f.length ∧ ¬ m < 6) ∨ (m < f.length ∧ m < 6 ∧ ¬ 1 < n) := by omega
        rcases hexit with g1 | ⟨g1, g2⟩ | ⟨g1, g2, g3⟩
        · have g1I : ¬ (m : Int) < f.length := by omega
          simp (disch := first | exact dI | fail) only [push_cast, ↓reduceIte, qa, qb, qc, qd, qe, qf, qg, qh, qi]
          exact ⟨m, hm', by simp (disch := first | exact dI | fail) only [push_cast, ↓reduceIte, qa, qb, qc, qd, qe, qf, qg, qh, qi]⟩
        · have g1I : (m : Int) < f.length := by omega
          have g2I : ¬ (m : Int) < 6 := by omega
          simp (disch := first | exact dI | fail) only [push_cast, ↓reduceIte, qa, qb, qc, qd, qe, qf, qg, qh, qi]
          exact ⟨m, hm', by simp (disch := first | exact dI | fail) only [push_cast, ↓reduceIte, qa, qb, qc, qd, qe, qf, qg, qh, qi]⟩
        · have g1I : (m : Int) < f.length := by omega
          have g2I : (m : Int) < 6 := by omega
          have g3I : ¬ (1 : Int) < n := by omega
          simp (disch := first | exact dI | fail) only [push_cast, ↓reduceIte, qa, qb, qc, qd, qe, qf, qg, qh, qi]
          exact ⟨m, hm', by simp (disch := first | exact dI | fail) only [push_cast, ↓reduceIte, qa, qb, qc, qd, qe, qf, qg, qh, qi]⟩
    · intro q hq s1 hs1; simp (disch := first | exact dI | fail) only [push_cast, ↓reduceIte, qa, qb, qc, qd, qe, qf, qg, qh, qi] at hs1; subst hs1
      have hf : (f.take q).map (shortF (shortV (n - 1))) = if decide (1 < n) = true then (f.take 6).map (shortF (shortV (n - 1))) else [] := by
        subst hq; unfold upto
        by_cases h : 1 < n
        · simp only [h, decide_true, if_true]; rw [Nat.min_comm, ← List.take_take, List.take_of_length_le (Nat.le_refl _)]
        · simp [h]
      have hfin : (shortV n (.mk k i s t l f)).pv = .agg [.int .i64 k, .int .i64 i, .int .i64 s, .str (t.take 40), .list (LL.map Val.pv), .list (((f.take q).map (shortF (shortV (n - 1)))).map Fld.pv)] := by
        rw [hl, hf]
        cases n with
        | zero => simp [shortV, shortV1, Val.pv_mk]
        | succ n => simp [shortV, shortV1, Val.pv_mk]
      rw [hfin]
      simp (disch := first | exact dI | fail) only [push_cast, ↓reduceIte, qa, qb, qc, qd, qe, qf, qg, qh, qi]
theorem shortV_pure : ∀ (n : Nat) (hn : n ≤ 1000) (v : Val), v.ok → Pure Tryd.prog tabG 36 [v.pv, .int .i64 n] (shortV n v).pv := by
  intro n
  induction n using Nat.strongRecOn with
  | _ n ih => exact fun hn v hv => shortV_of n hn (fun m v hmn => ih m hmn (by omega) v) v hv
end Go.Proofs.YtikmckfppnmlnaaDoor
