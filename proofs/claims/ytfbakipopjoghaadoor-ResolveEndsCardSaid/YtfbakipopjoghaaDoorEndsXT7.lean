/- A part of the proof for ResolveEndsCardSaid. -/
import Derived.Test.YtfbakipopjoghaaDoorEndsXT5
set_option maxRecDepth 100000
set_option linter.unusedVariables false
set_option linter.unusedSimpArgs false
namespace Go.Proofs.YtfbakipopjoghaaDoor
open Go Go.Ab

theorem hasT_str {t : Nat} {p : PV} (h : HasT Tryd.prog t p) (ht : t = 9) : ∃ s : List UInt8, p = .str s ∧ s.length ≤ maxLen := by
  subst ht
  have hu := Tryd.underlying9
  cases h <;> simp_all
theorem hasT_int {t : Nat} {p : PV} (h : HasT Tryd.prog t p) (ht : t = 3) : ∃ n : Int, p = .int .i64 n ∧ -9223372036854775808 ≤ n ∧ n ≤ 9223372036854775807 := by
  subst ht
  have hu := Tryd.underlying3
  cases h with
  | int _ k n hk hw =>
    rw [hu] at hk
    cases hk
    refine ⟨n, rfl, ?_⟩
    simp only [Lit.wf, Bool.and_eq_true, decide_eq_true_eq] at hw
    exact hw
  | bool _ b hb => rw [hu] at hb; cases hb
  | str _ s hb => rw [hu] at hb; cases hb
  | list _ e l hb => rw [hu] at hb; cases hb
  | agg _ fs cs hb => rw [hu] at hb; cases hb
theorem hasT_list {t e : Nat} {p : PV} (h : HasT Tryd.prog t p) (hu : Tryd.prog.underlying t = some (.slice e)) : ∃ l : List PV, p = .list l ∧ l.length ≤ maxLen ∧ ∀ (i : Nat) (x : PV), l[i]? = some x → HasT Tryd.prog e x := by
  cases h with
  | list _ e' l hb hl hx =>
    rw [hu] at hb
    cases hb
    exact ⟨l, rfl, hl, hx⟩
  | int _ k n hb => rw [hu] at hb; cases hb
  | bool _ b hb => rw [hu] at hb; cases hb
  | str _ s hb => rw [hu] at hb; cases hb
  | agg _ fs cs hb => rw [hu] at hb; cases hb
theorem hasT_agg {t : Nat} {p : PV} {fs : Array Field} (h : HasT Tryd.prog t p) (hu : Tryd.prog.underlying t = some (.struct fs)) : ∃ cs : List PV, p = .agg cs ∧ cs.length = Tryd.prog.cellsOf t ∧ ∀ (i : Nat) (f : Field), fs.toList[i]? = some f → HasT Tryd.prog f.type (fieldPV Tryd.prog f cs) := by
  cases h with
  | agg _ fs' cs hb hl hx =>
    rw [hu] at hb
    cases hb
    exact ⟨cs, rfl, hl, hx⟩
  | list _ e' l hb hl hx => rw [hu] at hb; cases hb
  | int _ k n hb => rw [hu] at hb; cases hb
  | bool _ b hb => rw [hu] at hb; cases hb
  | str _ s hb => rw [hu] at hb; cases hb
theorem list_of {β : Type} {f : β → PV} {Q : β → Prop} : ∀ (l : List PV), (∀ (i : Nat) (x : PV), l[i]? = some x → ∃ s, x = f s ∧ Q s) → ∃ ss : List β, l = ss.map f ∧ ss.length = l.length ∧ ∀ s ∈ ss, Q s
  | [], _ => ⟨[], rfl, rfl, by simp⟩
  | x :: r, h => by
    obtain ⟨s, rfl, hs⟩ := h 0 x rfl
    obtain ⟨ss, rfl, hl, hss⟩ := list_of r (fun i y hy => h (i + 1) y (by simpa using hy))
    refine ⟨s :: ss, rfl, by simp, fun t ht => ?_⟩
    rcases List.mem_cons.1 ht with rfl | ht
    · exact hs
    · exact hss t ht
theorem okSs_of : ∀ {l : List SV}, (∀ s ∈ l, okS s) → okSs l
  | [], _ => by simp [okSs]
  | s :: r, h => by
    simp only [okSs]
    exact ⟨h s (by simp), okSs_of fun t ht => h t (by simp [ht])⟩
theorem okBs_of : ∀ {l : List (List PV × List SV)}, (∀ s ∈ l, okB1 s) → okBs l
  | [], _ => by simp [okBs]
  | s :: r, h => by
    simp only [okBs]
    exact ⟨h s (by simp), okBs_of fun t ht => h t (by simp [ht])⟩

theorem agg9 : isAggT Tryd.prog 9 = false := by kernel_rfl
theorem agg3 : isAggT Tryd.prog 3 = false := by kernel_rfl
theorem agg22 : isAggT Tryd.prog 22 = false := by kernel_rfl
theorem agg25 : isAggT Tryd.prog 25 = false := by kernel_rfl
theorem agg26 : isAggT Tryd.prog 26 = false := by kernel_rfl
theorem agg28 : isAggT Tryd.prog 28 = true := by kernel_rfl
theorem agg29 : isAggT Tryd.prog 29 = false := by kernel_rfl
theorem agg30 : isAggT Tryd.prog 30 = false := by kernel_rfl
theorem cel9 : Tryd.prog.cellsOf 9 = 1 := by kernel_rfl
theorem cel3 : Tryd.prog.cellsOf 3 = 1 := by kernel_rfl
theorem cel22 : Tryd.prog.cellsOf 22 = 1 := by kernel_rfl
theorem cel25 : Tryd.prog.cellsOf 25 = 1 := by kernel_rfl
theorem cel26 : Tryd.prog.cellsOf 26 = 1 := by kernel_rfl
theorem cel28 : Tryd.prog.cellsOf 28 = 1 := by kernel_rfl
theorem cel29 : Tryd.prog.cellsOf 29 = 1 := by kernel_rfl
theorem cel30 : Tryd.prog.cellsOf 30 = 1 := by kernel_rfl
theorem cel32 : Tryd.prog.cellsOf 32 = 11 := by kernel_rfl
theorem cel87 : Tryd.prog.cellsOf 87 = 2 := by kernel_rfl
theorem cel89 : Tryd.prog.cellsOf 89 = 2 := by kernel_rfl
theorem len1 {l : List PV} (h : l.length = 1) : ∃ a, l = [a] := List.length_eq_one_iff.1 h
theorem len2 {l : List PV} (h : l.length = 2) : ∃ a b, l = [a, b] := by
  match l, h with
  | [a, b], _ => exact ⟨a, b, rfl⟩
theorem len11 {l : List PV} (h : l.length = 11) : ∃ a b c d e f g i j k m, l = [a, b, c, d, e, f, g, i, j, k, m] := by
  match l, h with
  | [a, b, c, d, e, f, g, i, j, k, m], _ => exact ⟨a, b, c, d, e, f, g, i, j, k, m, rfl⟩

theorem hasT_map {p : PV} (h : HasT Tryd.prog 28 p) : ∃ l : List PV, p = .agg [.list l] := by
  obtain ⟨cs, rfl, hl, hx⟩ := hasT_agg h Tryd.underlying28
  rw [cel28] at hl
  obtain ⟨a, rfl⟩ := len1 hl
  have h0 := hx 0 _ rfl
  simp only [fieldPV, agg26, cel26, List.drop_zero, List.take_succ_cons, List.take_zero, cellPV, List.headD_cons] at h0
  obtain ⟨l, rfl, _⟩ := hasT_list h0 Tryd.underlying26
  exact ⟨l, rfl⟩
theorem hasT_call {p : PV} (h : HasT Tryd.prog 87 p) : ∃ c : List UInt8 × List PV, p = callPV c := by
  obtain ⟨cs, rfl, hl, hx⟩ := hasT_agg h Tryd.underlying87
  rw [cel87] at hl
  obtain ⟨a, b, rfl⟩ := len2 hl
  have h0 := hx 0 _ rfl
  have h1 := hx 1 _ rfl
  simp only [fieldPV, agg9, cel9, agg28, cel28, List.drop_zero, List.drop_succ_cons, List.take_succ_cons, List.take_zero, cellPV, List.headD_cons] at h0 h1
  obtain ⟨s, rfl, _⟩ := hasT_str h0 rfl
  obtain ⟨l, h2⟩ := hasT_map h1
  simp only [PV.agg.injEq, List.cons.injEq, and_true] at h2
  subst h2
  exact ⟨(s, l), rfl⟩

theorem slice_u {t e e' : Nat} (h : Tryd.prog.underlying t = some (.slice e)) (h' : Tryd.prog.underlying t = some (.slice e')) : e = e' := by
  rw [h] at h'; cases h'; rfl

/-- Steps that came in are steps. -/
theorem hasT_all {t : Nat} {p : PV} (h : HasT Tryd.prog t p) : (t = 22 → ∃ l : List SV, p = .list (l.map SV.pv) ∧ okSs l ∧ l.length ≤ maxLen) ∧ (t = 32 → ∃ s : SV, p = s.pv ∧ okS s) ∧
    (t = 30 → ∃ l : List (List PV × List SV), p = .list (l.map brPV) ∧ okBs l ∧ l.length ≤ maxLen) ∧ (t = 89 → ∃ b : List PV × List SV, p = brPV b ∧ okB1 b) := by
  induction h with
  | bool t b hb => refine ⟨fun h => ?_, fun h => ?_, fun h => ?_, fun h => ?_⟩ <;> subst h <;> simp [Tryd.underlying22, Tryd.underlying32, Tryd.underlying30, Tryd.underlying89] at hb
  | int t k n hb _ => refine ⟨fun h => ?_, fun h => ?_, fun h => ?_, fun h => ?_⟩ <;> subst h <;> simp [Tryd.underlying22, Tryd.underlying32, Tryd.underlying30, Tryd.underlying89] at hb
  | str t s hb _ => refine ⟨fun h => ?_, fun h => ?_, fun h => ?_, fun h => ?_⟩ <;> subst h <;> simp [Tryd.underlying22, Tryd.underlying32, Tryd.underlying30, Tryd.underlying89] at hb
  | list t e l hu hl hx ih =>
    refine ⟨fun h => ?_, fun h => ?_, fun h => ?_, fun h => ?_⟩
    · subst h
      obtain rfl := slice_u hu Tryd.underlying22
      obtain ⟨ss, rfl, hlen, hss⟩ := list_of (f := SV.pv) (Q := okS) l (fun i x hi => (ih i x hi).2.1 rfl)
      exact ⟨ss, rfl, okSs_of hss, by omega⟩
    · subst h
      simp [Tryd.underlying32] at hu
    · subst h
      obtain rfl := slice_u hu Tryd.underlying30
      obtain ⟨ss, rfl, hlen, hss⟩ := list_of (f := brPV) (Q := okB1) l (fun i x hi => (ih i x hi).2.2.2 rfl)
      exact ⟨ss, rfl, okBs_of hss, by omega⟩
    · subst h
      simp [Tryd.underlying89] at hu
  | agg t fs cs hu hl hx ih =>
    refine ⟨fun h => ?_, fun h => ?_, fun h => ?_, fun h => ?_⟩
    · subst h
      simp [Tryd.underlying22] at hu
    · subst h
      rw [Tryd.underlying32] at hu
      cases hu
      rw [cel32] at hl
      obtain ⟨a, b, c, d, e, f, g, i, j, k, m, rfl⟩ := len11 hl
      have h0 := hx 0 _ rfl
      have h1 := hx 1 _ rfl
      have h2 := hx 2 _ rfl
      have h3 := hx 3 _ rfl
      have h4 := hx 4 _ rfl
      have h5 := hx 5 _ rfl
      have h6 := hx 6 _ rfl
      have h7 := hx 7 _ rfl
      have h8 := hx 8 _ rfl
      have h9 := hx 9 _ rfl
      have h10 := (ih 10 _ rfl).2.2.1 rfl
      simp only [fieldPV, agg9, cel9, agg3, cel3, agg25, cel25, agg28, cel28, agg29, cel29, agg30, cel30, List.drop_zero, List.drop_succ_cons, List.take_succ_cons, List.take_zero, cellPV, List.headD_cons] at h0 h1 h2 h3 h4 h5 h6 h7 h8 h9 h10
      obtain ⟨_, rfl, _⟩ := hasT_str h0 rfl
      obtain ⟨_, rfl, _⟩ := hasT_int h1 rfl
      obtain ⟨_, rfl, _⟩ := hasT_int h2 rfl
      obtain ⟨_, rfl, _⟩ := hasT_int h3 rfl
      obtain ⟨_, rfl, _⟩ := hasT_int h4 rfl
      obtain ⟨_, rfl, _⟩ := hasT_str h5 rfl
      obtain ⟨_, rfl, _⟩ := hasT_str h6 rfl
      obtain ⟨_, rfl, _⟩ := hasT_list h7 Tryd.underlying25
      obtain ⟨_, hm⟩ := hasT_map h8
      simp only [PV.agg.injEq, List.cons.injEq, and_true] at hm
      subst hm
      obtain ⟨cl, rfl, hcl, hcx⟩ := hasT_list h9 Tryd.underlying29
      obtain ⟨cs', rfl, hcl', _⟩ := list_of (f := callPV) (Q := fun _ => True) cl (fun i x hi => by
        obtain ⟨c, hc⟩ := hasT_call (hcx i x hi)
        exact ⟨c, hc, trivial⟩)
      obtain ⟨br, rfl, hbr, hbl⟩ := h10
      exact ⟨.mk _ _ _ _ _ _ _ _ _ cs' br, by rw [SV.pv, brsPV_eq], by simp only [okS]; exact ⟨by simpa using hcl, hbl, hbr⟩⟩
    · subst h
      simp [Tryd.underlying30] at hu
    · subst h
      rw [Tryd.underlying89] at hu
      cases hu
      rw [cel89] at hl
      obtain ⟨a, b, rfl⟩ := len2 hl
      have h0 := hx 0 _ rfl
      have h1 := (ih 1 _ rfl).1 rfl
      simp only [fieldPV, agg25, cel25, agg22, cel22, List.drop_zero, List.drop_succ_cons, List.take_succ_cons, List.take_zero, cellPV, List.headD_cons] at h0 h1
      obtain ⟨w, rfl, _⟩ := hasT_list h0 Tryd.underlying25
      obtain ⟨l, rfl, h2, h3⟩ := h1
      exact ⟨(w, l), by rw [brPV_eq], by simp only [okB1]; exact ⟨h2, h3⟩⟩

theorem hasT_steps {p : PV} (h : HasT Tryd.prog 22 p) : ∃ l : List SV, p = .list (l.map SV.pv) ∧ okSs l ∧ l.length ≤ maxLen := (hasT_all h).1 rfl
end Go.Proofs.YtfbakipopjoghaaDoor
