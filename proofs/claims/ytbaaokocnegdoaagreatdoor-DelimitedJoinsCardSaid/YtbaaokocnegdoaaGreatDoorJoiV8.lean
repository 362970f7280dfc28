/- A part of the proof for DelimitedJoinsCardSaid. -/
import Derived.Test.YtbaaokocnegdoaaGreatDoorJoiV2
set_option linter.unusedVariables false
set_option linter.unusedSimpArgs false
namespace Go.Ab
open Go
def dbl : List UInt8 → List UInt8
  | [] => []
  | c :: r => if c = 34 then 34 :: 34 :: dbl r else c :: dbl r
def spc (sep : UInt8) (t : List UInt8) : Bool := t.any fun c => c == sep || bad c
def wrt (c : Cel) : List UInt8 := if c.2 = true then 34 :: (dbl c.1 ++ [34]) else c.1
def lineN (sep : UInt8) : List Cel → List UInt8
  | [] => []
  | c :: r => wrt c ++ r.flatMap fun d => sep :: wrt d
def spcC (sep : UInt8) (c : Cel) : Bool := !c.2 && spc sep c.1
theorem lineN_snoc (sep : UInt8) (C : List Cel) (c : Cel) : lineN sep (C ++ [c]) = (if C.length = 0 then [] else lineN sep C ++ [sep]) ++ wrt c := by
  cases C with
  | nil => simp [lineN]
  | cons d r => simp [lineN]
theorem dbl_len : ∀ t : List UInt8, (dbl t).length ≤ 2 * t.length
  | [] => by simp [dbl]
  | c :: r => by
    have := dbl_len r
    simp only [dbl]; split <;> simp <;> omega
theorem wrt_len (c : Cel) : (wrt c).length ≤ 2 * c.1.length + 2 := by
  have := dbl_len c.1
  unfold wrt; split <;> simp <;> omega
theorem lineN_len (sep : UInt8) (C : List Cel) (m : Nat) (h : ∀ c, c ∈ C → c.1.length ≤ m) : (lineN sep C).length ≤ C.length * (2 * m + 3) := by
  have key : ∀ r : List Cel, (∀ c, c ∈ r → c.1.length ≤ m) → (r.flatMap fun d => sep :: wrt d).length ≤ r.length * (2 * m + 3) := by
    intro r
    induction r with
    | nil => simp
    | cons c r ih =>
      intro h
      have h1 := ih fun d hd => h d (by simp [hd])
      have h2 := wrt_len c
      have h3 := h c (by simp)
      simp only [List.flatMap_cons, List.length_append, List.length_cons, Nat.succ_mul] at *
      omega
  cases C with
  | nil => simp [lineN]
  | cons c r =>
    have h1 := key r fun d hd => h d (by simp [hd])
    have h2 := wrt_len c
    have h3 := h c (by simp)
    simp only [lineN, List.length_append, List.length_cons, Nat.succ_mul] at *
    omega
theorem scanP_pre {sep : UInt8} : ∀ {t R : List UInt8}, spc sep t = false → (R = [] ∨ ∃ r, R = sep :: r) → scanP sep (t ++ R) = (t.length, false)
  | [], R, _, h => by
    rcases h with rfl | ⟨r, rfl⟩ <;> simp [scanP]
  | c :: t, R, hs, h => by
    simp only [spc, List.any_cons, Bool.or_eq_false_iff, beq_eq_false_iff_ne] at hs
    have ih := scanP_pre (t := t) (R := R) (by simpa [spc] using hs.2) h
    simp only [List.cons_append, scanP, if_neg hs.1.1, hs.1.2, ih]
    simp
theorem scanQ_pre {R : List UInt8} (h : R[0]? ≠ some 34) : ∀ t : List UInt8, scanQ (dbl t ++ 34 :: R) = some (t, (dbl t).length + 1)
  | [] => by
    simp only [dbl, List.nil_append]
    rw [scanQ_at, quoM, if_neg h]; rfl
  | c :: t => by
    have ih := scanQ_pre h t
    simp only [dbl]
    by_cases hc : c = 34
    · subst hc
      simp only [if_true, List.cons_append]
      rw [scanQ_qq, ih]; rfl
    · rw [if_neg hc, List.cons_append, scanQ_ne hc, ih]; rfl
theorem cellN_pre {sep : UInt8} (hs : sep ≠ 34) {pre R : List UInt8} {c : Cel} (hc : spcC sep c = false) (hR : R = [] ∨ ∃ r, R = sep :: r) :
    cellN (pre ++ (wrt c ++ R)) sep pre.length = .ok c (pre.length + (wrt c).length) := by
  obtain ⟨t, q⟩ := c
  have hR0 : R[0]? ≠ some 34 := by
    rcases hR with rfl | ⟨r, rfl⟩
    · simp
    · simpa using hs
  unfold cellN
  cases q with
  | true =>
    have e : (pre ++ (wrt (t, true) ++ R))[pre.length]? = some 34 := by simp [wrt]
    rw [if_pos e]
    have e2 : (pre ++ (wrt (t, true) ++ R)).drop (pre.length + 1) = dbl t ++ 34 :: R := by
      rw [← List.drop_drop, List.drop_left]; simp [wrt]
    rw [quotN, e2, scanQ_pre hR0]
    have e3 : (qpre [] (pre.length + 1) (t, (dbl t).length + 1)) = (t, pre.length + (wrt (t, true)).length) := by simp [qpre, wrt]; omega
    rw [Option.map_some, e3]
    simp only [closeN]
    have e4 : (pre ++ (wrt (t, true) ++ R))[pre.length + (wrt (t, true)).length]? = R[0]? := by
      rw [List.getElem?_append_right (by omega), List.getElem?_append_right (by omega)]; congr 1; omega
    rw [e4]
    rcases hR with rfl | ⟨r, rfl⟩
    · simp
    · simp
  | false =>
    have hsp : spc sep t = false := by simpa [spcC] using hc
    have e : (pre ++ (wrt (t, false) ++ R))[pre.length]? ≠ some 34 := by
      rw [List.getElem?_append_right (by omega), Nat.sub_self]
      cases t with
      | nil => simpa [wrt] using hR0
      | cons c t =>
        simp only [spc, List.any_cons, Bool.or_eq_false_iff, beq_eq_false_iff_ne] at hsp
        have : bad c = false := hsp.1.2
        simp only [wrt, Bool.false_eq_true, if_false, List.cons_append, List.getElem?_cons_zero, ne_eq, Option.some.injEq]
        rintro rfl; exact absurd this (by decide)
    rw [if_neg e, plainN, List.drop_left]
    have e5 : wrt (t, false) = t := by simp [wrt]
    rw [e5, scanP_pre hsp hR]
    simp
def plcN (C : List Cel) : Nat → List Nat
  | a => match C with
    | [] => []
    | c :: r => a :: plcN r (a + (wrt c).length + 1)
theorem run_line {sep : UInt8} (hs : sep ≠ 34) : ∀ (C : List Cel) (c : Cel) (pre : List UInt8) (D : List Cel) (Pl : List Nat), D.length + C.length + 1 ≤ 64 → (∀ d, d ∈ c :: C → spcC sep d = false) →
    runN (pre ++ lineN sep (c :: C)) sep pre.length D Pl = .ok (D ++ c :: C) (Pl ++ plcN (c :: C) pre.length)
  | [], c, pre, D, Pl, h1, h2 => by
    rw [runN_eq (by simp), if_neg (by simp at h1; omega)]
    have := cellN_pre (pre := pre) (R := []) hs (h2 c (by simp)) (.inl rfl)
    simp only [lineN, List.flatMap_nil] at this ⊢
    rw [this]
    simp [contN, endN, plcN]
  | d :: C, c, pre, D, Pl, h1, h2 => by
    rw [runN_eq (by simp), if_neg (by simp at h1; omega)]
    have := cellN_pre (pre := pre) (R := sep :: lineN sep (d :: C)) hs (h2 c (by simp)) (.inr ⟨_, rfl⟩)
    have e : lineN sep (c :: d :: C) = wrt c ++ sep :: lineN sep (d :: C) := by simp [lineN]
    rw [e, this]
    have ih := run_line hs C d (pre ++ wrt c ++ [sep]) (D ++ [c]) (Pl ++ [pre.length]) (by simp at h1 ⊢; omega) fun x hx => h2 x (List.mem_cons_of_mem _ hx)
    simp only [contN, endN]
    rw [if_neg (by simp)]
    have e2 : pre.length + (wrt c).length + 1 = (pre ++ wrt c ++ [sep]).length := by simp; omega
    have e3 : pre ++ (wrt c ++ sep :: lineN sep (d :: C)) = (pre ++ wrt c ++ [sep]) ++ lineN sep (d :: C) := by simp
    rw [e2, e3, ih]
    simp [plcN, Nat.add_assoc]
def joinN (sepOk : Bool) (sep : UInt8) (C : List Cel) : List UInt8 × Int :=
  if sepOk = false then ([], 2) else if C.length = 0 then ([], 4) else if 64 < C.length then ([], 9)
  else if C.any (spcC sep) = true then ([], 6) else if 65536 < (lineN sep C).length then ([], 5) else (lineN sep C, 0)
end Go.Ab
