/- A part of the proof for DelimitedJoinsCardSaid. -/
import Derived.Test.YtbaaokocnegdoaaGreatDoorCore5
set_option linter.unusedVariables false
set_option linter.unusedSimpArgs false
namespace Go.Ab
open Go
abbrev Cel := List UInt8 × Bool
def bad (c : UInt8) : Bool := c == 34 || (c == 13 || c == 10)
def scanP (sep : UInt8) : List UInt8 → Nat × Bool
  | [] => (0, false)
  | c :: r => if c = sep then (0, false) else if bad c = true then (0, true) else ((scanP sep r).1 + 1, (scanP sep r).2)
def qcons (c : UInt8) (n : Nat) (p : List UInt8 × Nat) : List UInt8 × Nat := (c :: p.1, p.2 + n)
def scanQ : List UInt8 → Option (List UInt8 × Nat)
  | [] => none
  | [c] => if c = 34 then some ([], 1) else none
  | c :: d :: r => if c = 34 then (if d = 34 then (scanQ r).map (qcons 34 2) else some ([], 1)) else (scanQ (d :: r)).map (qcons c 1)
theorem scanQ_ne {c : UInt8} (h : c ≠ 34) (r : List UInt8) : scanQ (c :: r) = (scanQ r).map (qcons c 1) := by
  cases r with
  | nil => simp [scanQ, h]
  | cons d r => rw [scanQ]; simp [h]
theorem scanQ_qq (r : List UInt8) : scanQ (34 :: 34 :: r) = (scanQ r).map (qcons 34 2) := by rw [scanQ]; simp
theorem scanQ_q1 : scanQ [34] = some ([], 1) := by rw [scanQ]; simp
theorem scanQ_qx {d : UInt8} (h : d ≠ 34) (r : List UInt8) : scanQ (34 :: d :: r) = some ([], 1) := by rw [scanQ]; simp [h]
def qpre (t : List UInt8) (n : Nat) (p : List UInt8 × Nat) : List UInt8 × Nat := (t ++ p.1, n + p.2)
theorem fstB_cases (c : UInt8) : ∀ (l : List UInt8) (i : Nat), (fstB c l i = -1 ∧ ∀ b, b ∈ l → b ≠ c) ∨ ∃ m, fstB c l i = ((i + m : Nat) : Int) ∧ l[m]? = some c ∧ ∀ b, b ∈ l.take m → b ≠ c
  | [], i => .inl ⟨rfl, by simp⟩
  | b :: r, i => by
    by_cases h : b = c
    · subst h
      exact .inr ⟨0, by simp [fstB], by simp, by simp⟩
    · have e : fstB c (b :: r) i = fstB c r (i + 1) := by simp [fstB, h]
      rcases fstB_cases c r (i + 1) with ⟨h1, h2⟩ | ⟨m, h1, h2, h3⟩
      · exact .inl ⟨e.trans h1, fun x hx => by rcases List.mem_cons.1 hx with rfl | hx; exact h; exact h2 x hx⟩
      · refine .inr ⟨m + 1, by rw [e, h1]; congr 1; omega, by simpa using h2, fun x hx => ?_⟩
        rw [List.take_succ_cons] at hx
        rcases List.mem_cons.1 hx with rfl | hx
        · exact h
        · exact h3 x hx
theorem scanQ_none : ∀ {l : List UInt8}, (∀ b, b ∈ l → b ≠ 34) → scanQ l = none
  | [], _ => rfl
  | c :: r, h => by
    rw [scanQ_ne (h c (by simp)), scanQ_none fun b hb => h b (by simp [hb])]; rfl
theorem scanQ_skip : ∀ {m : Nat} {l : List UInt8}, m ≤ l.length → (∀ b, b ∈ l.take m → b ≠ 34) → scanQ l = (scanQ (l.drop m)).map (qpre (l.take m) m)
  | 0, l, _, _ => by
    have : (qpre ([] : List UInt8) 0) = id := by funext p; simp [qpre]
    simp [this]
  | m + 1, [], h, _ => by simp at h
  | m + 1, c :: r, hm, h => by
    rw [List.take_succ_cons] at h
    rw [scanQ_ne (h c (by simp)), scanQ_skip (m := m) (by simpa using hm) fun b hb => h b (by simp [hb])]
    rw [List.drop_succ_cons, List.take_succ_cons]
    cases scanQ (r.drop m) with
    | none => rfl
    | some p => simp [qpre, qcons]; omega
def quoM (l : List UInt8) : Option (List UInt8 × Nat) :=
  if l[0]? = some 34 then (scanQ (l.drop 1)).map (qcons 34 2) else some ([], 1)
theorem scanQ_at (r : List UInt8) : scanQ (34 :: r) = quoM r := by
  cases r with
  | nil => rw [scanQ_q1]; rfl
  | cons d r =>
    by_cases h : d = 34
    · subst h; rw [scanQ_qq]; simp [quoM]
    · rw [scanQ_qx h]; simp [quoM, h]
theorem scanQ_idx {l : List UInt8} {m : Nat} (h : l[m]? = some 34) (hn : ∀ b, b ∈ l.take m → b ≠ 34) : scanQ l = (quoM (l.drop (m + 1))).map (qpre (l.take m) m) := by
  have hm : m < l.length := (List.getElem?_eq_some_iff.1 h).1
  rw [scanQ_skip (Nat.le_of_lt hm) hn, drop_at h, scanQ_at]
inductive Out where
  | err (o : Nat) (e : Int)
  | ok (c : Cel) (a : Nat)
def plainN (L : List UInt8) (sep : UInt8) (a : Nat) : Out :=
  if (scanP sep (L.drop a)).2 = true then .err (a + (scanP sep (L.drop a)).1) 6 else .ok ((L.drop a).take (scanP sep (L.drop a)).1, false) (a + (scanP sep (L.drop a)).1)
def closeN (L : List UInt8) (sep : UInt8) : Option (List UInt8 × Nat) → Out
  | none => .err L.length 29
  | some p => match L[p.2]? with
    | some b => if b = sep then .ok (p.1, true) p.2 else .err p.2 13
    | none => .ok (p.1, true) p.2
def quotN (L : List UInt8) (sep : UInt8) (a : Nat) : Out := closeN L sep ((scanQ (L.drop a)).map (qpre [] a))
def cellN (L : List UInt8) (sep : UInt8) (a : Nat) : Out :=
  if L[a]? = some 34 then quotN L sep (a + 1) else plainN L sep a
inductive Res where
  | err (o : Nat) (e : Int)
  | ok (c : List Cel) (p : List Nat)
def runN (L : List UInt8) (sep : UInt8) (a : Nat) (C : List Cel) (Pl : List Nat) : Res :=
  if C.length = 64 then .err a 9 else
  match cellN L sep a with
  | .err o e => .err o e
  | .ok c a' => if L.length ≤ a' then .ok (C ++ [c]) (Pl ++ [a]) else if h : a ≤ a' ∧ a' < L.length then runN L sep (a' + 1) (C ++ [c]) (Pl ++ [a]) else .err 0 0
termination_by L.length - a
decreasing_by omega
def endN (L : List UInt8) (sep : UInt8) (a : Nat) (C : List Cel) (Pl : List Nat) : Res :=
  if L.length ≤ a then .ok C Pl else runN L sep (a + 1) C Pl
def contN (L : List UInt8) (sep : UInt8) (C : List Cel) (Pl : List Nat) : Out → Res
  | .err o e => .err o e
  | .ok c a' => endN L sep a' (C ++ [c]) Pl
theorem scanP_le (sep : UInt8) : ∀ l : List UInt8, (scanP sep l).1 ≤ l.length
  | [] => by simp [scanP]
  | c :: r => by
    have := scanP_le sep r
    simp only [scanP]
    split
    · simp
    · split
      · simp
      · simpa using this
theorem scanQ_le : ∀ (n : Nat) (l : List UInt8), l.length ≤ n → ∀ p, scanQ l = some p → p.2 ≤ l.length ∧ p.1.length ≤ l.length
  | 0, l, h, p, hp => by
    have : l = [] := by cases l <;> simp_all
    subst this; simp [scanQ] at hp
  | n + 1, [], h, p, hp => by simp [scanQ] at hp
  | n + 1, c :: r, h, p, hp => by
    simp only [List.length_cons, Nat.succ_le_succ_iff] at h
    by_cases hc : c = 34
    · subst hc
      rw [scanQ_at] at hp
      unfold quoM at hp
      split at hp
      · rename_i h0
        simp only [Option.map_eq_some_iff] at hp
        obtain ⟨q, hq, rfl⟩ := hp
        obtain ⟨d, r', rfl⟩ : ∃ d r', r = d :: r' := by cases r with | nil => simp at h0 | cons d r' => exact ⟨d, r', rfl⟩
        have := scanQ_le n r' (by simp at h; omega) q (by simpa using hq)
        simp [qcons]; omega
      · cases hp; simp
    · rw [scanQ_ne hc] at hp
      simp only [Option.map_eq_some_iff] at hp
      obtain ⟨q, hq, rfl⟩ := hp
      have := scanQ_le n r h q hq
      simp [qcons]; omega
theorem plainN_ok {L : List UInt8} {sep : UInt8} {a : Nat} {c : Cel} {a' : Nat} (ha : a ≤ L.length) (h : plainN L sep a = .ok c a') : a ≤ a' ∧ a' ≤ L.length ∧ c.1.length ≤ L.length := by
  have := scanP_le sep (L.drop a)
  rw [List.length_drop] at this
  unfold plainN at h
  split at h
  · cases h
  · cases h
    simp; omega
theorem quotN_ok {L : List UInt8} {sep : UInt8} {a : Nat} {c : Cel} {a' : Nat} (ha : a ≤ L.length) (h : quotN L sep a = .ok c a') : a ≤ a' ∧ a' ≤ L.length ∧ c.1.length ≤ L.length := by
  unfold quotN at h
  cases hq : scanQ (L.drop a) with
  | none => rw [hq] at h; simp [closeN] at h
  | some p =>
    have := scanQ_le _ _ (Nat.le_refl _) p hq
    rw [List.length_drop] at this
    rw [hq] at h
    simp only [Option.map_some, closeN, qpre] at h
    split at h
    · split at h
      · cases h; simp; omega
      · cases h
    · cases h; simp; omega
theorem cellN_ok {L : List UInt8} {sep : UInt8} {a : Nat} {c : Cel} {a' : Nat} (ha : a ≤ L.length) (h : cellN L sep a = .ok c a') : a ≤ a' ∧ a' ≤ L.length ∧ c.1.length ≤ L.length := by
  unfold cellN at h
  split at h
  · rename_i h0
    have := (List.getElem?_eq_some_iff.1 h0).1
    have := quotN_ok (by omega) h
    omega
  · exact plainN_ok ha h
theorem runN_eq {L : List UInt8} {sep : UInt8} {a : Nat} {C : List Cel} {Pl : List Nat} (ha : a ≤ L.length) :
    runN L sep a C Pl = if C.length = 64 then .err a 9 else contN L sep C (Pl ++ [a]) (cellN L sep a) := by
  rw [runN]
  split
  · rfl
  · cases h : cellN L sep a with
    | err o e => rfl
    | ok c a' =>
      have := cellN_ok ha h
      simp only [contN, endN]
      split
      · rfl
      · rw [dif_pos (by omega)]
end Go.Ab
