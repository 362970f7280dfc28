/- A part of the proof for ResolveEndsCardSaid. -/
import Derived.Test.YtfbakipopjoghaaDoorEndsXT3
import Derived.Test.YtfbakipopjoghaaDoorCore4
import Derived.Test.YtfbakipopjoghaaDoorCore3
set_option maxRecDepth 100000
set_option linter.unusedVariables false
set_option linter.unusedSimpArgs false
namespace Go.Proofs.YtfbakipopjoghaaDoor
open Go Go.Ab

/-- A step. -/
inductive SV where
  | mk (name : List UInt8) (kind number time limit : Int) (text schema : List UInt8) (exprs rules : List PV) (calls : List (List UInt8 × List PV)) (branches : List (List PV × List SV))

def callPV (c : List UInt8 × List PV) : PV := .agg [.str c.1, .list c.2]
mutual
def SV.pv : SV → PV
  | .mk a b c d e f g h i j k => .agg [.str a, .int .i64 b, .int .i64 c, .int .i64 d, .int .i64 e, .str f, .str g, .list h, .list i, .list (j.map callPV), .list (brsPV k)]
def brsPV : List (List PV × List SV) → List PV
  | [] => []
  | b :: r => brPV b :: brsPV r
def brPV : List PV × List SV → PV
  | (w, l) => .agg [.list w, .list (svsPV l)]
def svsPV : List SV → List PV
  | [] => []
  | s :: r => s.pv :: svsPV r
end
theorem svsPV_eq : ∀ l : List SV, svsPV l = l.map SV.pv
  | [] => by simp [svsPV]
  | s :: r => by simp [svsPV, svsPV_eq r]
theorem brsPV_eq : ∀ l : List (List PV × List SV), brsPV l = l.map brPV
  | [] => by simp [brsPV]
  | s :: r => by simp [brsPV, brsPV_eq r]

mutual
/-- Whether a step ends its route. -/
def endsS : SV → Bool
  | .mk _ kind _ _ _ _ _ _ _ _ br => if kind = 13 then true else if kind = 14 then true else if kind = 11 then (!br.isEmpty && allB br) else if kind = 12 then (!br.isEmpty && allB br) else false
def allB : List (List PV × List SV) → Bool
  | [] => true
  | b :: r => finB b && allB r
def finB : List PV × List SV → Bool
  | (_, l) => finS l
def finS : List SV → Bool
  | [] => false
  | s :: r => if r.isEmpty then endsS s else finS r
end

theorem cut_ok (s : List UInt8) : Pure Tryd.prog tabG 22 [.str s] (.str (s.take 70)) := by
  refine Pure.intro F22_ok (by simp [F22]) ?_
  simp (disch := first | exact chk_rfl | (unfold Chk; decide +kernel) | omega | (simp only [cells_agg, List.length_cons, List.length_nil, List.length_map, List.length_take, List.length_append, Nat.zero_add, Nat.reduceAdd]; first | done | omega) | fail) only [F22o0, F22o1, F22c, F22, push_cast, ↓reduceIte, Nat.reduceEqDiff, Nat.reduceAdd, Nat.reduceMul, Nat.reduceLeDiff, Nat.reduceSub, Int.reduceToNat, Int.reduceNeg]

section
variable {α : Type}
theorem find_none {l : List α} {q : α → Bool} (h : ∀ (j : Nat) (x : α), j < l.length → l[j]? = some x → q x = false) : l.findIdx? q = none := by
  rw [List.findIdx?_eq_none_iff]
  intro x hx
  obtain ⟨j, hj⟩ := List.getElem?_of_mem hx
  exact h j x (List.getElem?_eq_some_iff.1 hj).1 hj
theorem find_some {l : List α} {q : α → Bool} {i : Nat} {x : α} (hx : l[i]? = some x) (hq : q x = true) (h : ∀ (j : Nat) (x : α), j < i → l[j]? = some x → q x = false) : l.findIdx? q = some i := by
  rw [List.findIdx?_eq_some_iff_getElem]
  obtain ⟨hlt, he⟩ := List.getElem?_eq_some_iff.1 hx
  refine ⟨hlt, by rw [he]; exact hq, fun j hj => ?_⟩
  have hj' : j < l.length := by omega
  simpa using h j _ hj (List.getElem?_eq_getElem hj')

def idxI : Option Nat → Int
  | some i => i
  | none => -1

/-- slices.IndexFunc at the branches. -/
theorem index_ok (l : List α) (f : α → PV) (q : α → Bool) (hl : ∀ x, ∃ a b, f x = .agg [a, b]) (hq : ∀ x ∈ l, Pure Tryd.prog tabG 46 [f x] (.bool (q x))) (hmax : l.length ≤ maxLen) :
    Pure Tryd.prog tabG 79 [.list (l.map f), .clo 46 [] []] (.int .i64 (idxI (l.findIdx? q))) := by
  have hm : l.length ≤ 9223372036854775807 := by unfold maxLen at hmax; omega
  clear hmax
  refine Pure.intro F79_ok (by simp [F79]) ?_
  simp (disch := first | exact chk_rfl | (unfold Chk; decide +kernel) | omega | (simp only [cells_agg, List.length_cons, List.length_nil, List.length_map, List.length_take, List.length_append, Nat.zero_add, Nat.reduceAdd]; first | done | omega) | fail) only [F79, F79c, F79o0, F79o1, List.length_map, push_cast, ↓reduceIte, Nat.reduceEqDiff, Nat.reduceAdd, Nat.reduceMul, Nat.reduceLeDiff, Nat.reduceSub, Int.reduceToNat, Int.reduceNeg]
  refine vc_round (fun i : Nat => ⟨[(0, .pv (.list (l.map f))), (1, .pv (.clo 46 [] [])), (7, .pv (.int .i64 l.length)), (8, .pv (.int .i64 (i : Int)))], [], 0⟩) (fun i => i ≤ l.length ∧ ∀ j x, j < i → l[j]? = some x → q x = false) (fun i => l.length - i) 0 rfl ⟨Nat.zero_le _, by omega⟩ ?_
  rintro i ⟨hi, hpre⟩
  by_cases hlt : (i : Int) < l.length
  · obtain ⟨x, hx⟩ : ∃ x, l[i]? = some x := ⟨l[i], List.getElem?_eq_getElem (by omega)⟩
    have hxm := List.mem_of_getElem? hx
    have hcall := hq x hxm
    obtain ⟨a, b, hf⟩ := hl x
    have hx' : (l.map f)[i]? = some (.agg [a, b]) := by rw [List.getElem?_map, hx]; exact congrArg some hf
    rw [hf] at hcall
    simp (disch := first | exact chk_rfl | (unfold Chk; decide +kernel) | omega | (simp only [cells_agg, List.length_cons, List.length_nil, List.length_map, List.length_take, List.length_append, Nat.zero_add, Nat.reduceAdd]; first | done | omega) | fail) only [F79b7, F79o2, F79o3, F79o4, hx', push_cast, ↓reduceIte, Nat.reduceEqDiff, Nat.reduceAdd, Nat.reduceMul, Nat.reduceLeDiff, Nat.reduceSub, Int.reduceToNat, Int.reduceNeg]
    refine ACall.pure hcall rfl ?_
    simp (disch := first | exact chk_rfl | (unfold Chk; decide +kernel) | omega | (simp only [cells_agg, List.length_cons, List.length_nil, List.length_map, List.length_take, List.length_append, Nat.zero_add, Nat.reduceAdd]; first | done | omega) | fail) only [hx', push_cast, ↓reduceIte, Nat.reduceEqDiff, Nat.reduceAdd, Nat.reduceMul, Nat.reduceLeDiff, Nat.reduceSub, Int.reduceToNat, Int.reduceNeg]
    refine ifB_cases (fun hqx => ?_) (fun hqx => ?_)
    · simp (disch := first | exact chk_rfl | (unfold Chk; decide +kernel) | omega | (simp only [cells_agg, List.length_cons, List.length_nil, List.length_map, List.length_take, List.length_append, Nat.zero_add, Nat.reduceAdd]; first | done | omega) | fail) only [F79o5, push_cast, ↓reduceIte, Nat.reduceEqDiff, Nat.reduceAdd, Nat.reduceMul, Nat.reduceLeDiff, Nat.reduceSub, Int.reduceToNat, Int.reduceNeg]
      rw [find_some hx hqx hpre]; rfl
    · simp (disch := first | exact chk_rfl | (unfold Chk; decide +kernel) | omega | (simp only [cells_agg, List.length_cons, List.length_nil, List.length_map, List.length_take, List.length_append, Nat.zero_add, Nat.reduceAdd]; first | done | omega) | fail) only [F79o6, push_cast, ↓reduceIte, Nat.reduceEqDiff, Nat.reduceAdd, Nat.reduceMul, Nat.reduceLeDiff, Nat.reduceSub, Int.reduceToNat, Int.reduceNeg]
      refine ⟨i + 1, hd_rfl rfl, ⟨by omega, fun j x hj hjx => ?_⟩, by omega⟩
      rcases Nat.lt_or_ge j i with h | h
      · exact hpre j x h hjx
      · have : j = i := by omega
        subst this
        rw [hx] at hjx; cases hjx; exact hqx
  · simp (disch := first | exact chk_rfl | (unfold Chk; decide +kernel) | omega | (simp only [cells_agg, List.length_cons, List.length_nil, List.length_map, List.length_take, List.length_append, Nat.zero_add, Nat.reduceAdd]; first | done | omega) | fail) only [F79b7, F79o2, F79o8, push_cast, ↓reduceIte, Nat.reduceEqDiff, Nat.reduceAdd, Nat.reduceMul, Nat.reduceLeDiff, Nat.reduceSub, Int.reduceToNat, Int.reduceNeg]
    rw [find_none (fun j x hj hjx => hpre j x (by omega) hjx)]; rfl

/-- slices.ContainsFunc at the branches. -/
theorem contains_ok (l : List α) (f : α → PV) (q : α → Bool) (hl : ∀ x, ∃ a b, f x = .agg [a, b]) (hq : ∀ x ∈ l, Pure Tryd.prog tabG 46 [f x] (.bool (q x))) (hmax : l.length ≤ maxLen) :
    Pure Tryd.prog tabG 45 [.list (l.map f), .clo 46 [] []] (.bool (l.any q)) := by
  refine Pure.intro F45_ok (by simp [F45]) ?_
  simp (disch := first | exact chk_rfl | (unfold Chk; decide +kernel) | omega | (simp only [cells_agg, List.length_cons, List.length_nil, List.length_map, List.length_take, List.length_append, Nat.zero_add, Nat.reduceAdd]; first | done | omega) | fail) only [F45, F45c, F45o0, F45o1, push_cast, ↓reduceIte, Nat.reduceEqDiff, Nat.reduceAdd, Nat.reduceMul, Nat.reduceLeDiff, Nat.reduceSub, Int.reduceToNat, Int.reduceNeg]
  refine ACall.pure (index_ok l f q hl hq hmax) rfl ?_
  simp (disch := first | exact chk_rfl | (unfold Chk; decide +kernel) | omega | (simp only [cells_agg, List.length_cons, List.length_nil, List.length_map, List.length_take, List.length_append, Nat.zero_add, Nat.reduceAdd]; first | done | omega) | fail) only [hl, push_cast, ↓reduceIte, Nat.reduceEqDiff, Nat.reduceAdd, Nat.reduceMul, Nat.reduceLeDiff, Nat.reduceSub, Int.reduceToNat, Int.reduceNeg]
  cases h : l.findIdx? q with
  | none =>
    rw [List.findIdx?_eq_none_iff] at h
    have : l.any q = false := by
      rw [List.any_eq_false]
      intro x hx; simpa using h x hx
    rw [this]; rfl
  | some i =>
    rw [List.findIdx?_eq_some_iff_getElem] at h
    obtain ⟨hlt, hqi, _⟩ := h
    have : l.any q = true := List.any_eq_true.2 ⟨_, List.getElem_mem hlt, hqi⟩
    rw [this]
    simp only [idxI]
    congr 1
end

/-! ### Ends and Finished -/
theorem brPV_eq (b : List PV × List SV) : brPV b = .agg [.list b.1, .list (b.2.map SV.pv)] := by
  obtain ⟨w, l⟩ := b
  rw [brPV, svsPV_eq]

/-- resolve.Ends$1: a branch is not finished. -/
theorem notfin_ok (b : List PV × List SV) (h : Pure Tryd.prog tabG 15 [.list (b.2.map SV.pv)] (.bool (finS b.2))) : Pure Tryd.prog tabG 46 [brPV b] (.bool (!finS b.2)) := by
  rw [brPV_eq]
  refine Pure.intro F46_ok (by simp [F46]) ?_
  simp (disch := first | exact chk_rfl | (unfold Chk; decide +kernel) | omega | (simp only [cells_agg, List.length_cons, List.length_nil, List.length_map, List.length_take, List.length_append, Nat.zero_add, Nat.reduceAdd]; first | done | omega) | fail) only [F46, F46c, F46o0, F46o1, push_cast, ↓reduceIte, Nat.reduceEqDiff, Nat.reduceAdd, Nat.reduceMul, Nat.reduceLeDiff, Nat.reduceSub, Int.reduceToNat, Int.reduceNeg]
  refine ACall.pure h rfl ?_
  simp (disch := first | exact chk_rfl | (unfold Chk; decide +kernel) | omega | (simp only [cells_agg, List.length_cons, List.length_nil, List.length_map, List.length_take, List.length_append, Nat.zero_add, Nat.reduceAdd]; first | done | omega) | fail) only [push_cast, ↓reduceIte, Nat.reduceEqDiff, Nat.reduceAdd, Nat.reduceMul, Nat.reduceLeDiff, Nat.reduceSub, Int.reduceToNat, Int.reduceNeg]

theorem allB_eq : ∀ (k : List (List PV × List SV)), allB k = k.all fun b => finS b.2
  | [] => by simp [allB]
  | b :: r => by
    obtain ⟨w, l⟩ := b
    rw [allB, allB_eq r, finB]; rfl
/-! The lists of a step are no longer than Go's lists are. -/
mutual
def okS : SV → Prop
  | .mk _ _ _ _ _ _ _ _ _ j k => j.length ≤ maxLen ∧ k.length ≤ maxLen ∧ okBs k
def okBs : List (List PV × List SV) → Prop
  | [] => True
  | b :: r => okB1 b ∧ okBs r
def okB1 : List PV × List SV → Prop
  | (_, l) => okSs l ∧ l.length ≤ maxLen
def okSs : List SV → Prop
  | [] => True
  | s :: r => okS s ∧ okSs r
end
theorem okBs_mem : ∀ {k : List (List PV × List SV)}, okBs k → ∀ b ∈ k, okSs b.2 ∧ b.2.length ≤ maxLen
  | [], _, b, h => by simp at h
  | (w, l) :: r, hk, b, h => by
    simp only [okBs, okB1] at hk
    rcases List.mem_cons.1 h with rfl | h
    · exact hk.1
    · exact okBs_mem hk.2 b h
theorem okSs_mem : ∀ {l : List SV}, okSs l → ∀ s ∈ l, okS s
  | [], _, s, h => by simp at h
  | s' :: r, hk, s, h => by
    simp only [okSs] at hk
    rcases List.mem_cons.1 h with rfl | h
    · exact hk.1
    · exact okSs_mem hk.2 s h
def endsO : Option SV → Bool
  | some s => endsS s
  | none => false
theorem finS_eq : ∀ l : List SV, finS l = endsO l.getLast?
  | [] => by simp [finS, endsO]
  | [s] => by simp [finS, endsO]
  | s :: t :: r => by
    rw [finS]
    simp only [List.isEmpty_cons, Bool.false_eq_true, if_false]
    rw [finS_eq (t :: r)]
    simp

/-- resolve.Finished, from what Ends says of the last. -/
theorem fin_of (l : List SV) (hm : l.length ≤ maxLen) (h : ∀ s ∈ l, Pure Tryd.prog tabG 12 [s.pv] (.bool (endsS s))) : Pure Tryd.prog tabG 15 [.list (l.map SV.pv)] (.bool (finS l)) := by
  have hm' : l.length ≤ 9223372036854775807 := by unfold maxLen at hm; omega
  refine Pure.intro F15_ok (by simp [F15]) ?_
  by_cases h0 : l.length = 0
  · have : l = [] := List.eq_nil_of_length_eq_zero h0
    subst this
    simp (disch := first | exact chk_rfl | (unfold Chk; decide +kernel) | omega | (simp only [cells_agg, List.length_cons, List.length_nil, List.length_map, List.length_take, List.length_append, Nat.zero_add, Nat.reduceAdd]; first | done | omega) | fail) only [F15, F15c, F15o0, F15o1, List.map_nil, push_cast, ↓reduceIte, Nat.reduceEqDiff, Nat.reduceAdd, Nat.reduceMul, Nat.reduceLeDiff, Nat.reduceSub, Int.reduceToNat, Int.reduceNeg]
    simp [finS]
  · obtain ⟨s, hs⟩ : ∃ s, l[l.length - 1]? = some s := ⟨l[l.length - 1], List.getElem?_eq_getElem (by omega)⟩
    have hcall := h s (List.mem_of_getElem? hs)
    have hf : finS l = endsS s := by rw [finS_eq, List.getLast?_eq_getElem?, hs]; rfl
    obtain ⟨cs, hcs, hl11⟩ : ∃ cs, s.pv = .agg cs ∧ cs.length = 11 := by
      obtain ⟨a, b, c, d, e, f, g, i, j, k, m⟩ := s
      exact ⟨_, by rw [SV.pv], rfl⟩
    have hx' : (l.map SV.pv)[((l.length : Int) - 1).toNat]? = some (.agg cs) := by
      rw [List.getElem?_map, show ((l.length : Int) - 1).toNat = l.length - 1 by omega, hs]
      exact congrArg some hcs
    rw [hcs] at hcall
    have hlen : (0 : Int) < l.length := by omega
    simp (disch := first | exact chk_rfl | (unfold Chk; decide +kernel) | omega | (simp only [cells_agg, List.length_cons, List.length_nil, List.length_map, List.length_take, List.length_append, Nat.zero_add, Nat.reduceAdd]; first | done | omega) | fail) only [F15, F15c, F15o0, F15o1, List.length_map, rElem_int, hx', hl11, isAgg_agg, push_cast, ↓reduceIte, Nat.reduceEqDiff, Nat.reduceAdd, Nat.reduceMul, Nat.reduceLeDiff, Nat.reduceSub, Int.reduceToNat, Int.reduceNeg]
    refine ACall.pure hcall rfl ?_
    simp (disch := first | exact chk_rfl | (unfold Chk; decide +kernel) | omega | (simp only [cells_agg, List.length_cons, List.length_nil, List.length_map, List.length_take, List.length_append, Nat.zero_add, Nat.reduceAdd]; first | done | omega) | fail) only [push_cast, ↓reduceIte, Nat.reduceEqDiff, Nat.reduceAdd, Nat.reduceMul, Nat.reduceLeDiff, Nat.reduceSub, Int.reduceToNat, Int.reduceNeg]
    rw [hf]

/-- resolve.Ends, from what Finished says of its branches. -/
theorem ends_of (s : SV) (hm : okS s) (h : ∀ (b : List PV × List SV), (∃ a1 a2 a3 a4 a5 a6 a7 a8 a9 a10 k, s = .mk a1 a2 a3 a4 a5 a6 a7 a8 a9 a10 k ∧ b ∈ k) → Pure Tryd.prog tabG 15 [.list (b.2.map SV.pv)] (.bool (finS b.2))) :
    Pure Tryd.prog tabG 12 [s.pv] (.bool (endsS s)) := by
  obtain ⟨a, kind, c, d, e, f, g, i, j, k, m⟩ := s
  have hq : ∀ b ∈ m, Pure Tryd.prog tabG 46 [brPV b] (.bool (!finS b.2)) := fun b hb => notfin_ok b (h b ⟨_, _, _, _, _, _, _, _, _, _, _, rfl, hb⟩)
  simp only [okS] at hm
  have hcall := contains_ok m brPV (fun b => !finS b.2) (fun x => ⟨_, _, brPV_eq x⟩) hq hm.2.1
  have hml : m.length ≤ 9223372036854775807 := by have := hm.2.1; unfold maxLen at this; omega
  rw [SV.pv, brsPV_eq, endsS, allB_eq]
  refine Pure.intro F12_ok (by simp [F12]) ?_
  by_cases h13 : kind = 13
  · simp (disch := first | exact chk_rfl | (unfold Chk; decide +kernel) | omega | (simp only [cells_agg, List.length_cons, List.length_nil, List.length_map, List.length_take, List.length_append, Nat.zero_add, Nat.reduceAdd]; first | done | omega) | fail) only [F12, F12c, F12o0, F12o1, F12o2, F12o3, F12o4, h13, push_cast, ↓reduceIte, Nat.reduceEqDiff, Nat.reduceAdd, Nat.reduceMul, Nat.reduceLeDiff, Nat.reduceSub, Int.reduceToNat, Int.reduceNeg]
  by_cases h14 : kind = 14
  · simp (disch := first | exact chk_rfl | (unfold Chk; decide +kernel) | omega | (simp only [cells_agg, List.length_cons, List.length_nil, List.length_map, List.length_take, List.length_append, Nat.zero_add, Nat.reduceAdd]; first | done | omega) | fail) only [F12, F12c, F12o0, F12o1, F12o2, F12o3, F12o4, h13, h14, push_cast, ↓reduceIte, Nat.reduceEqDiff, Nat.reduceAdd, Nat.reduceMul, Nat.reduceLeDiff, Nat.reduceSub, Int.reduceToNat, Int.reduceNeg]
    simp
  have hex : ∀ q : Bool, (kind = 11 ∨ kind = 12) → (if kind = 13 then true else if kind = 14 then true else if kind = 11 then q else if kind = 12 then q else false) = q := by
    intro q hk
    rw [if_neg h13, if_neg h14]
    rcases hk with h | h
    · rw [if_pos h]
    · rw [if_neg (by omega), if_pos h]
  by_cases h1112 : kind = 11 ∨ kind = 12
  · rw [hex _ h1112]
    by_cases h0 : m.length = 0
    · have : m = [] := List.eq_nil_of_length_eq_zero h0
      subst this
      rcases h1112 with hk | hk
      · simp (disch := first | exact chk_rfl | (unfold Chk; decide +kernel) | omega | (simp only [cells_agg, List.length_cons, List.length_nil, List.length_map, List.length_take, List.length_append, Nat.zero_add, Nat.reduceAdd]; first | done | omega) | fail) only [F12, F12c, F12o0, F12o1, F12o2, F12o3, F12o5, F12o6, F12o7, hk, List.map_nil, push_cast, ↓reduceIte, Nat.reduceEqDiff, Nat.reduceAdd, Nat.reduceMul, Nat.reduceLeDiff, Nat.reduceSub, Int.reduceToNat, Int.reduceNeg]
        simp
      · simp (disch := first | exact chk_rfl | (unfold Chk; decide +kernel) | omega | (simp only [cells_agg, List.length_cons, List.length_nil, List.length_map, List.length_take, List.length_append, Nat.zero_add, Nat.reduceAdd]; first | done | omega) | fail) only [F12, F12c, F12o0, F12o1, F12o2, F12o3, F12o5, F12o6, F12o7, hk, List.map_nil, push_cast, ↓reduceIte, Nat.reduceEqDiff, Nat.reduceAdd, Nat.reduceMul, Nat.reduceLeDiff, Nat.reduceSub, Int.reduceToNat, Int.reduceNeg]
        simp
    · have hpos : (0 : Int) < m.length := by omega
      have hne : m.isEmpty = false := by cases m <;> simp at h0 ⊢
      have hnn : (!m.any fun b => !finS b.2) = m.all fun b => finS b.2 := by simp [List.all_eq_not_any_not]
      rcases h1112 with hk | hk
      · simp (disch := first | exact chk_rfl | (unfold Chk; decide +kernel) | omega | (simp only [cells_agg, List.length_cons, List.length_nil, List.length_map, List.length_take, List.length_append, Nat.zero_add, Nat.reduceAdd]; first | done | omega) | fail) only [F12, F12c, F12o0, F12o1, F12o2, F12o3, F12o5, F12o6, F12o7, hk, List.length_map, push_cast, ↓reduceIte, Nat.reduceEqDiff, Nat.reduceAdd, Nat.reduceMul, Nat.reduceLeDiff, Nat.reduceSub, Int.reduceToNat, Int.reduceNeg]
        refine ACall.pure hcall rfl ?_
        simp (disch := first | exact chk_rfl | (unfold Chk; decide +kernel) | omega | (simp only [cells_agg, List.length_cons, List.length_nil, List.length_map, List.length_take, List.length_append, Nat.zero_add, Nat.reduceAdd]; first | done | omega) | fail) only [hne, hnn, push_cast, ↓reduceIte, Nat.reduceEqDiff, Nat.reduceAdd, Nat.reduceMul, Nat.reduceLeDiff, Nat.reduceSub, Int.reduceToNat, Int.reduceNeg]
      · simp (disch := first | exact chk_rfl | (unfold Chk; decide +kernel) | omega | (simp only [cells_agg, List.length_cons, List.length_nil, List.length_map, List.length_take, List.length_append, Nat.zero_add, Nat.reduceAdd]; first | done | omega) | fail) only [F12, F12c, F12o0, F12o1, F12o2, F12o3, F12o5, F12o6, F12o7, hk, List.length_map, push_cast, ↓reduceIte, Nat.reduceEqDiff, Nat.reduceAdd, Nat.reduceMul, Nat.reduceLeDiff, Nat.reduceSub, Int.reduceToNat, Int.reduceNeg]
        refine ACall.pure hcall rfl ?_
        simp (disch := first | exact chk_rfl | (unfold Chk; decide +kernel) | omega | (simp only [cells_agg, List.length_cons, List.length_nil, List.length_map, List.length_take, List.length_append, Nat.zero_add, Nat.reduceAdd]; first | done | omega) | fail) only [hne, hnn, push_cast, ↓reduceIte, Nat.reduceEqDiff, Nat.reduceAdd, Nat.reduceMul, Nat.reduceLeDiff, Nat.reduceSub, Int.reduceToNat, Int.reduceNeg]
  · have h11 : ¬ kind = 11 := fun h => h1112 (.inl h)
    have h12 : ¬ kind = 12 := fun h => h1112 (.inr h)
    simp (disch := first | exact chk_rfl | (unfold Chk; decide +kernel) | omega | (simp only [cells_agg, List.length_cons, List.length_nil, List.length_map, List.length_take, List.length_append, Nat.zero_add, Nat.reduceAdd]; first | done | omega) | fail) only [F12, F12c, F12o0, F12o1, F12o2, F12o3, F12o5, F12o6, F12o8, h11, h12, h13, h14, push_cast, ↓reduceIte, Nat.reduceEqDiff, Nat.reduceAdd, Nat.reduceMul, Nat.reduceLeDiff, Nat.reduceSub, Int.reduceToNat, Int.reduceNeg]

mutual
/-- resolve.Ends and resolve.Finished. -/
theorem ends_ok : ∀ (s : SV), okS s → Pure Tryd.prog tabG 12 [s.pv] (.bool (endsS s))
  | .mk a1 a2 a3 a4 a5 a6 a7 a8 a9 a10 k, hm => ends_of _ hm fun b ⟨_, _, _, _, _, _, _, _, _, _, _, he, hb⟩ => by
    cases he
    simp only [okS] at hm
    exact fins_ok k hm.2.2 b hb
theorem fins_ok : ∀ (k : List (List PV × List SV)), okBs k → ∀ b ∈ k, Pure Tryd.prog tabG 15 [.list (b.2.map SV.pv)] (.bool (finS b.2))
  | [], _, b, hb => by simp at hb
  | (w, l) :: r, hk, b, hb => by
    simp only [okBs, okB1] at hk
    rcases List.mem_cons.1 hb with rfl | hb
    · exact fin_of l hk.1.2 (all_ok l hk.1.1)
    · exact fins_ok r hk.2 b hb
theorem all_ok : ∀ (l : List SV), okSs l → ∀ s ∈ l, Pure Tryd.prog tabG 12 [s.pv] (.bool (endsS s))
  | [], _, s, hs => by simp at hs
  | s' :: r, hk, s, hs => by
    simp only [okSs] at hk
    rcases List.mem_cons.1 hs with h | hs
    · rw [h]; exact ends_ok s' hk.1
    · exact all_ok r hk.2 s hs
end

/-! ### the definition: ends and finished -/
theorem all_fin {l : List (List PV × List SV)} (h : ∀ (j : Nat) (x : List PV × List SV), j < l.length → l[j]? = some x → finS x.2 = true) : (l.all fun b => finS b.2) = true := by
  rw [List.all_eq_true]
  intro x hx
  obtain ⟨j, hj⟩ := List.getElem?_of_mem hx
  exact h j x (List.getElem?_eq_some_iff.1 hj).1 hj

theorem defs_of (s : SV) (hm : okS s) (h : ∀ (b : List PV × List SV), (∃ a1 a2 a3 a4 a5 a6 a7 a8 a9 a10 k, s = .mk a1 a2 a3 a4 a5 a6 a7 a8 a9 a10 k ∧ b ∈ k) → Pure Tryd.prog tabG 16 [.list (b.2.map SV.pv)] (.bool (finS b.2))) :
    Pure Tryd.prog tabG 13 [s.pv] (.bool (endsS s)) := by
  obtain ⟨a, kind, c, d, e, f, g, i, j, k, m⟩ := s
  have hq : ∀ b ∈ m, Pure Tryd.prog tabG 16 [.list (b.2.map SV.pv)] (.bool (finS b.2)) := fun b hb => h b ⟨_, _, _, _, _, _, _, _, _, _, _, rfl, hb⟩
  simp only [okS] at hm
  have hml : m.length ≤ 9223372036854775807 := by have := hm.2.1; unfold maxLen at this; omega
  rw [SV.pv, brsPV_eq, endsS, allB_eq]
  refine Pure.intro F13_ok (by simp [F13]) ?_
  by_cases h13 : kind = 13
  · simp (disch := first | exact chk_rfl | (unfold Chk; decide +kernel) | omega | (simp only [cells_agg, List.length_cons, List.length_nil, List.length_map, List.length_take, List.length_append, Nat.zero_add, Nat.reduceAdd]; first | done | omega) | fail) only [F13, F13c, F13o0, F13o1, F13o2, h13, push_cast, ↓reduceIte, Nat.reduceEqDiff, Nat.reduceAdd, Nat.reduceMul, Nat.reduceLeDiff, Nat.reduceSub, Int.reduceToNat, Int.reduceNeg]
  by_cases h14 : kind = 14
  · simp (disch := first | exact chk_rfl | (unfold Chk; decide +kernel) | omega | (simp only [cells_agg, List.length_cons, List.length_nil, List.length_map, List.length_take, List.length_append, Nat.zero_add, Nat.reduceAdd]; first | done | omega) | fail) only [F13, F13c, F13o0, F13o1, F13o2, h13, h14, push_cast, ↓reduceIte, Nat.reduceEqDiff, Nat.reduceAdd, Nat.reduceMul, Nat.reduceLeDiff, Nat.reduceSub, Int.reduceToNat, Int.reduceNeg]
    simp
  by_cases h1112 : kind = 11 ∨ kind = 12
  · have hex : ∀ q : Bool, (if kind = 13 then true else if kind = 14 then true else if kind = 11 then q else if kind = 12 then q else false) = q := by
      intro q
      rw [if_neg h13, if_neg h14]
      rcases h1112 with h | h
      · rw [if_pos h]
      · rw [if_neg (by omega), if_pos h]
    rw [hex]
    by_cases h0 : m.length = 0
    · have : m = [] := List.eq_nil_of_length_eq_zero h0
      subst this
      rcases h1112 with hk | hk
      · simp (disch := first | exact chk_rfl | (unfold Chk; decide +kernel) | omega | (simp only [cells_agg, List.length_cons, List.length_nil, List.length_map, List.length_take, List.length_append, Nat.zero_add, Nat.reduceAdd]; first | done | omega) | fail) only [F13, F13c, F13o0, F13o1, F13o3, F13o4, hk, List.map_nil, push_cast, ↓reduceIte, Nat.reduceEqDiff, Nat.reduceAdd, Nat.reduceMul, Nat.reduceLeDiff, Nat.reduceSub, Int.reduceToNat, Int.reduceNeg]
        simp
      · simp (disch := first | exact chk_rfl | (unfold Chk; decide +kernel) | omega | (simp only [cells_agg, List.length_cons, List.length_nil, List.length_map, List.length_take, List.length_append, Nat.zero_add, Nat.reduceAdd]; first | done | omega) | fail) only [F13, F13c, F13o0, F13o1, F13o3, F13o4, hk, List.map_nil, push_cast, ↓reduceIte, Nat.reduceEqDiff, Nat.reduceAdd, Nat.reduceMul, Nat.reduceLeDiff, Nat.reduceSub, Int.reduceToNat, Int.reduceNeg]
        simp
    · have hpos : (0 : Int) < m.length := by omega
      have hne : m.isEmpty = false := by cases m <;> simp at h0 ⊢
      have hloop : ∀ (kind : Int) (n : Nat), 1 ≤ n → vc Tryd.prog tabG 0 (.seq (.block 0 (.loop [1, 3] F13b10)) (.seq (.ops F13o11 [2]) .ret)) (FnK tabG [.tmp 2] (pureR (.bool (!m.isEmpty && m.all fun b => finS b.2))))
          ⟨[(1, .ptr 0 0), (3, .pv (.int .i64 0))], [(0, .cells 32 true [.pv (.str a), .pv (.int .i64 kind), .pv (.int .i64 c), .pv (.int .i64 d), .pv (.int .i64 e), .pv (.str f), .pv (.str g), .pv (.list i), .pv (.list j), .pv (.list (k.map callPV)), .pv (.list (m.map brPV))])], n⟩ := by
        intro kind n hn
        simp (disch := first | exact chk_rfl | (unfold Chk; decide +kernel) | omega | (simp only [cells_agg, List.length_cons, List.length_nil, List.length_map, List.length_take, List.length_append, Nat.zero_add, Nat.reduceAdd]; first | done | omega) | fail) only [push_cast, ↓reduceIte, Nat.reduceEqDiff, Nat.reduceAdd, Nat.reduceMul, Nat.reduceLeDiff, Nat.reduceSub, Int.reduceToNat, Int.reduceNeg]
        refine vc_round (fun q : Nat => ⟨[(1, .ptr 0 0), (3, .pv (.int .i64 (q : Int)))], [(0, .cells 32 true [.pv (.str a), .pv (.int .i64 kind), .pv (.int .i64 c), .pv (.int .i64 d), .pv (.int .i64 e), .pv (.str f), .pv (.str g), .pv (.list i), .pv (.list j), .pv (.list (k.map callPV)), .pv (.list (m.map brPV))])], 1⟩)
          (fun q => q ≤ m.length ∧ ∀ j x, j < q → m[j]? = some x → finS x.2 = true) (fun q => m.length - q) 0 rfl ⟨Nat.zero_le _, by omega⟩ ?_
        rintro q ⟨hqm, hpre⟩
        by_cases hlt : (q : Int) < m.length
        · obtain ⟨x, hx⟩ : ∃ x, m[q]? = some x := ⟨m[q], List.getElem?_eq_getElem (by omega)⟩
          have hx' : (m.map brPV)[q]? = some (.agg [.list x.1, .list (x.2.map SV.pv)]) := by rw [List.getElem?_map, hx]; exact congrArg some (brPV_eq x)
          simp (disch := first | exact chk_rfl | (unfold Chk; decide +kernel) | omega | (simp only [cells_agg, List.length_cons, List.length_nil, List.length_map, List.length_take, List.length_append, Nat.zero_add, Nat.reduceAdd]; first | done | omega) | fail) only [F13b10, F13o6, F13o7, List.length_map, hx', push_cast, ↓reduceIte, Nat.reduceEqDiff, Nat.reduceAdd, Nat.reduceMul, Nat.reduceLeDiff, Nat.reduceSub, Int.reduceToNat, Int.reduceNeg]
          refine ACall.pure (hq x (List.mem_of_getElem? hx)) rfl ?_
          simp (disch := first | exact chk_rfl | (unfold Chk; decide +kernel) | omega | (simp only [cells_agg, List.length_cons, List.length_nil, List.length_map, List.length_take, List.length_append, Nat.zero_add, Nat.reduceAdd]; first | done | omega) | fail) only [push_cast, ↓reduceIte, Nat.reduceEqDiff, Nat.reduceAdd, Nat.reduceMul, Nat.reduceLeDiff, Nat.reduceSub, Int.reduceToNat, Int.reduceNeg]
          cases hfx : finS x.2 with
          | true =>
            simp (disch := first | exact chk_rfl | (unfold Chk; decide +kernel) | omega | (simp only [cells_agg, List.length_cons, List.length_nil, List.length_map, List.length_take, List.length_append, Nat.zero_add, Nat.reduceAdd]; first | done | omega) | fail) only [F13o9, push_cast, ↓reduceIte, Nat.reduceEqDiff, Nat.reduceAdd, Nat.reduceMul, Nat.reduceLeDiff, Nat.reduceSub, Int.reduceToNat, Int.reduceNeg]
            refine ⟨q + 1, hd_rfl rfl, ⟨by omega, fun j y hj hjy => ?_⟩, by omega⟩
            rcases Nat.lt_or_ge j q with h | h
            · exact hpre j y h hjy
            · have : j = q := by omega
              subst this
              rw [hx] at hjy; cases hjy; exact hfx
          | false =>
            simp (disch := first | exact chk_rfl | (unfold Chk; decide +kernel) | omega | (simp only [cells_agg, List.length_cons, List.length_nil, List.length_map, List.length_take, List.length_append, Nat.zero_add, Nat.reduceAdd]; first | done | omega) | fail) only [F13o8, push_cast, ↓reduceIte, Nat.reduceEqDiff, Nat.reduceAdd, Nat.reduceMul, Nat.reduceLeDiff, Nat.reduceSub, Int.reduceToNat, Int.reduceNeg]
            have : (m.all fun b => finS b.2) = false := by
              rw [List.all_eq_false]
              exact ⟨x, List.mem_of_getElem? hx, by simp [hfx]⟩
            rw [this]; simp
        · simp (disch := first | exact chk_rfl | (unfold Chk; decide +kernel) | omega | (simp only [cells_agg, List.length_cons, List.length_nil, List.length_map, List.length_take, List.length_append, Nat.zero_add, Nat.reduceAdd]; first | done | omega) | fail) only [F13b10, F13o6, F13o11, List.length_map, push_cast, ↓reduceIte, Nat.reduceEqDiff, Nat.reduceAdd, Nat.reduceMul, Nat.reduceLeDiff, Nat.reduceSub, Int.reduceToNat, Int.reduceNeg]
          rw [all_fin (fun j x hj hjx => hpre j x (by omega) hjx), hne]; rfl
      rcases h1112 with hk | hk
      · simp (disch := first | exact chk_rfl | (unfold Chk; decide +kernel) | omega | (simp only [cells_agg, List.length_cons, List.length_nil, List.length_map, List.length_take, List.length_append, Nat.zero_add, Nat.reduceAdd]; first | done | omega) | fail) only [F13, F13c, F13o0, F13o1, F13o3, F13o5, hk, List.length_map, push_cast, ↓reduceIte, Nat.reduceEqDiff, Nat.reduceAdd, Nat.reduceMul, Nat.reduceLeDiff, Nat.reduceSub, Int.reduceToNat, Int.reduceNeg]
        have := hloop 11 _ (show 1 ≤ 5 by omega)
        simpa only [vc_seq, vc_block, SeqK_norm] using this
      · simp (disch := first | exact chk_rfl | (unfold Chk; decide +kernel) | omega | (simp only [cells_agg, List.length_cons, List.length_nil, List.length_map, List.length_take, List.length_append, Nat.zero_add, Nat.reduceAdd]; first | done | omega) | fail) only [F13, F13c, F13o0, F13o1, F13o3, F13o5, hk, List.length_map, push_cast, ↓reduceIte, Nat.reduceEqDiff, Nat.reduceAdd, Nat.reduceMul, Nat.reduceLeDiff, Nat.reduceSub, Int.reduceToNat, Int.reduceNeg]
        have := hloop 12 _ (show 1 ≤ 6 by omega)
        simpa only [vc_seq, vc_block, SeqK_norm] using this
  · have h11 : ¬ kind = 11 := fun h => h1112 (.inl h)
    have h12 : ¬ kind = 12 := fun h => h1112 (.inr h)
    simp (disch := first | exact chk_rfl | (unfold Chk; decide +kernel) | omega | (simp only [cells_agg, List.length_cons, List.length_nil, List.length_map, List.length_take, List.length_append, Nat.zero_add, Nat.reduceAdd]; first | done | omega) | fail) only [F13, F13c, F13o0, F13o1, F13o3, F13o4, h11, h12, h13, h14, push_cast, ↓reduceIte, Nat.reduceEqDiff, Nat.reduceAdd, Nat.reduceMul, Nat.reduceLeDiff, Nat.reduceSub, Int.reduceToNat, Int.reduceNeg]

theorem fin2_of (l : List SV) (hm : l.length ≤ maxLen) (h : ∀ s ∈ l, Pure Tryd.prog tabG 13 [s.pv] (.bool (endsS s))) : Pure Tryd.prog tabG 16 [.list (l.map SV.pv)] (.bool (finS l)) := by
  have hm' : l.length ≤ 9223372036854775807 := by unfold maxLen at hm; omega
  refine Pure.intro F16_ok (by simp [F16]) ?_
  by_cases h0 : l.length = 0
  · have : l = [] := List.eq_nil_of_length_eq_zero h0
    subst this
    simp (disch := first | exact chk_rfl | (unfold Chk; decide +kernel) | omega | (simp only [cells_agg, List.length_cons, List.length_nil, List.length_map, List.length_take, List.length_append, Nat.zero_add, Nat.reduceAdd]; first | done | omega) | fail) only [F16, F16c, F16o0, F16o1, List.map_nil, push_cast, ↓reduceIte, Nat.reduceEqDiff, Nat.reduceAdd, Nat.reduceMul, Nat.reduceLeDiff, Nat.reduceSub, Int.reduceToNat, Int.reduceNeg]
    simp [finS]
  · obtain ⟨s, hs⟩ : ∃ s, l[l.length - 1]? = some s := ⟨l[l.length - 1], List.getElem?_eq_getElem (by omega)⟩
    have hcall := h s (List.mem_of_getElem? hs)
    have hf : finS l = endsS s := by rw [finS_eq, List.getLast?_eq_getElem?, hs]; rfl
    obtain ⟨cs, hcs, hl11⟩ : ∃ cs, s.pv = .agg cs ∧ cs.length = 11 := by
      obtain ⟨a, b, c, d, e, f, g, i, j, k, m⟩ := s
      exact ⟨_, by rw [SV.pv], rfl⟩
    have hx' : (l.map SV.pv)[((l.length : Int) - 1).toNat]? = some (.agg cs) := by
      rw [List.getElem?_map, show ((l.length : Int) - 1).toNat = l.length - 1 by omega, hs]
      exact congrArg some hcs
    rw [hcs] at hcall
    have hlen : (0 : Int) < l.length := by omega
    simp (disch := first | exact chk_rfl | (unfold Chk; decide +kernel) | omega | (simp only [cells_agg, List.length_cons, List.length_nil, List.length_map, List.length_take, List.length_append, Nat.zero_add, Nat.reduceAdd]; first | done | omega) | fail) only [F16, F16c, F16o0, F16o1, List.length_map, rElem_int, hx', hl11, isAgg_agg, push_cast, ↓reduceIte, Nat.reduceEqDiff, Nat.reduceAdd, Nat.reduceMul, Nat.reduceLeDiff, Nat.reduceSub, Int.reduceToNat, Int.reduceNeg]
    refine ACall.pure hcall rfl ?_
    simp (disch := first | exact chk_rfl | (unfold Chk; decide +kernel) | omega | (simp only [cells_agg, List.length_cons, List.length_nil, List.length_map, List.length_take, List.length_append, Nat.zero_add, Nat.reduceAdd]; first | done | omega) | fail) only [push_cast, ↓reduceIte, Nat.reduceEqDiff, Nat.reduceAdd, Nat.reduceMul, Nat.reduceLeDiff, Nat.reduceSub, Int.reduceToNat, Int.reduceNeg]
    rw [hf]

mutual
/-- The definition's ends and finished. -/
theorem defs_ok : ∀ (s : SV), okS s → Pure Tryd.prog tabG 13 [s.pv] (.bool (endsS s))
  | .mk a1 a2 a3 a4 a5 a6 a7 a8 a9 a10 k, hm => defs_of _ hm fun b ⟨_, _, _, _, _, _, _, _, _, _, _, he, hb⟩ => by
    cases he
    simp only [okS] at hm
    exact fins2_ok k hm.2.2 b hb
theorem fins2_ok : ∀ (k : List (List PV × List SV)), okBs k → ∀ b ∈ k, Pure Tryd.prog tabG 16 [.list (b.2.map SV.pv)] (.bool (finS b.2))
  | [], _, b, hb => by simp at hb
  | (w, l) :: r, hk, b, hb => by
    simp only [okBs, okB1] at hk
    rcases List.mem_cons.1 hb with rfl | hb
    · exact fin2_of l hk.1.2 (all2_ok l hk.1.1)
    · exact fins2_ok r hk.2 b hb
theorem all2_ok : ∀ (l : List SV), okSs l → ∀ s ∈ l, Pure Tryd.prog tabG 13 [s.pv] (.bool (endsS s))
  | [], _, s, hs => by simp at hs
  | s' :: r, hk, s, hs => by
    simp only [okSs] at hk
    rcases List.mem_cons.1 hs with h | hs
    · rw [h]; exact defs_ok s' hk.1
    · exact all2_ok r hk.2 s hs
end
end Go.Proofs.YtfbakipopjoghaaDoor
