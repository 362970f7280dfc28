/- A part of the proof for ResolveTextsCardSaid. -/
import Derived.Test.YtfbakipopjoghaaDoorTextX8
import Derived.Test.YtfbakipopjoghaaDoorTextXS
set_option maxRecDepth 100000
set_option linter.unusedVariables false
set_option linter.unusedSimpArgs false
namespace Go.Proofs.YtfbakipopjoghaaDoor
open Go Go.Ab

/-- A comparison that orders. -/
structure Ordr {α : Type} (c : α → α → Int) : Prop where
  tri : ∀ x y, c x y = -1 ∨ c x y = 0 ∨ c x y = 1
  eqv : ∀ x y, c x y = 0 ↔ x = y
  anti : ∀ x y, c y x = -c x y
  trans : ∀ x y z, c x y = -1 → c y z = -1 → c x z = -1

theorem Ordr.le {α : Type} {c : α → α → Int} (h : Ordr c) {x y z : α} (h1 : c x y ≤ 0) (h2 : c y z ≤ 0) : c x z ≤ 0 := by
  rcases h.tri x y with a | a | a
  · rcases h.tri y z with b | b | b
    · have := h.trans x y z a b; omega
    · obtain rfl := (h.eqv y z).1 b; omega
    · omega
  · obtain rfl := (h.eqv x y).1 a; exact h2
  · omega

theorem cmpI_ord : Ordr cmpI := by
  refine ⟨fun x y => ?_, fun x y => cmpI_zero, fun x y => ?_, fun x y z h1 h2 => ?_⟩
  · unfold cmpI; by_cases h1 : x < y <;> by_cases h2 : y < x <;> simp [h1, h2]
  · unfold cmpI; by_cases h1 : x < y <;> by_cases h2 : y < x <;> simp [h1, h2] <;> omega
  · unfold cmpI at h1 h2 ⊢
    have a : x < y := by
      by_cases h : x < y
      · exact h
      · rw [if_neg h] at h1; split at h1 <;> omega
    have b : y < z := by
      by_cases h : y < z
      · exact h
      · rw [if_neg h] at h2; split at h2 <;> omega
    rw [if_pos (by omega)]

/-- Lists, by their first difference. -/
def lexL {α : Type} (c : α → α → Int) : List α → List α → Int
  | [], [] => 0
  | [], _ :: _ => -1
  | _ :: _, [] => 1
  | x :: r, y :: q => if c x y = 0 then lexL c r q else c x y
theorem lexL_ord {α : Type} {c : α → α → Int} (h : Ordr c) : Ordr (lexL c) := by
  refine ⟨fun x => ?_, fun x => ?_, fun x => ?_, fun x => ?_⟩
  · induction x with
    | nil => intro y; cases y <;> simp [lexL]
    | cons a r ih =>
      intro y
      cases y with
      | nil => simp [lexL]
      | cons b q =>
        rw [lexL]
        by_cases h0 : c a b = 0
        · rw [if_pos h0]; exact ih q
        · rw [if_neg h0]; exact h.tri a b
  · induction x with
    | nil => intro y; cases y <;> simp [lexL]
    | cons a r ih =>
      intro y
      cases y with
      | nil => simp [lexL]
      | cons b q =>
        rw [lexL]
        by_cases h0 : c a b = 0
        · rw [if_pos h0, ih q]
          obtain rfl := (h.eqv a b).1 h0
          simp
        · rw [if_neg h0]
          constructor
          · intro h1; exact absurd h1 h0
          · intro h1; cases h1; exact absurd ((h.eqv a a).2 rfl) h0
  · induction x with
    | nil => intro y; cases y <;> simp [lexL]
    | cons a r ih =>
      intro y
      cases y with
      | nil => simp [lexL]
      | cons b q =>
        have ha := h.anti a b
        rw [lexL, lexL]
        by_cases h0 : c a b = 0
        · rw [if_pos h0, if_pos (by omega)]; exact ih q
        · rw [if_neg h0, if_neg (by omega)]; exact ha
  · induction x with
    | nil =>
      intro y z h1 h2
      cases y with
      | nil => simp [lexL] at h1
      | cons b q =>
        cases z with
        | nil => simp [lexL] at h2
        | cons d p => simp [lexL]
    | cons a r ih =>
      intro y z h1 h2
      cases y with
      | nil => simp [lexL] at h1
      | cons b q =>
        cases z with
        | nil => simp [lexL] at h2
        | cons d p =>
          rw [lexL] at h1 h2 ⊢
          by_cases h0 : c a b = 0
          · obtain rfl := (h.eqv a b).1 h0
            rw [if_pos h0] at h1
            by_cases h3 : c a d = 0
            · rw [if_pos h3] at h2 ⊢; exact ih q p h1 h2
            · rw [if_neg h3] at h2 ⊢; exact h2
          · rw [if_neg h0] at h1
            by_cases h3 : c b d = 0
            · obtain rfl := (h.eqv b d).1 h3
              rw [if_neg h0]; exact h1
            · rw [if_neg h3] at h2
              have := h.trans a b d h1 h2
              rw [if_neg (by omega)]; exact this

theorem lex2 {α β : Type} {c : α → α → Int} {d : β → β → Int} (h : Ordr c) (k : Ordr d) : Ordr (fun (x y : α × β) => if c x.1 y.1 = 0 then d x.2 y.2 else c x.1 y.1) := by
  refine ⟨fun x y => ?_, fun x y => ?_, fun x y => ?_, fun x y z h1 h2 => ?_⟩
  · split
    · exact k.tri _ _
    · exact h.tri _ _
  · by_cases h0 : c x.1 y.1 = 0
    · rw [if_pos h0, k.eqv, Prod.ext_iff]
      exact ⟨fun h1 => ⟨(h.eqv _ _).1 h0, h1⟩, fun h1 => h1.2⟩
    · rw [if_neg h0, Prod.ext_iff]
      exact ⟨fun h1 => absurd h1 h0, fun h1 => absurd ((h.eqv _ _).2 h1.1) h0⟩
  · have ha := h.anti x.1 y.1
    by_cases h0 : c x.1 y.1 = 0
    · rw [if_pos h0, if_pos (by omega)]; exact k.anti _ _
    · rw [if_neg h0, if_neg (by omega)]; exact ha
  · by_cases h0 : c x.1 y.1 = 0
    · rw [if_pos h0] at h1
      rw [(h.eqv _ _).1 h0]
      by_cases h3 : c y.1 z.1 = 0
      · rw [if_pos h3] at h2 ⊢; exact k.trans _ _ _ h1 h2
      · rw [if_neg h3] at h2 ⊢; exact h2
    · rw [if_neg h0] at h1
      by_cases h3 : c y.1 z.1 = 0
      · rw [← (h.eqv _ _).1 h3, if_neg h0]; exact h1
      · rw [if_neg h3] at h2
        have := h.trans _ _ _ h1 h2
        rw [if_neg (by omega)]; exact this

def cmpB (x y : UInt8) : Int := cmpI x.toNat y.toNat
theorem cmpB_ord : Ordr cmpB := by
  refine ⟨fun x y => cmpI_ord.tri _ _, fun x y => ?_, fun x y => cmpI_ord.anti _ _, fun x y z => cmpI_ord.trans _ _ _⟩
  unfold cmpB
  rw [cmpI_zero]
  constructor
  · intro h; exact UInt8.toNat_inj.1 (by omega)
  · rintro rfl; rfl
theorem compareBytes_lex : ∀ a b : List UInt8, Lib.compareBytes a b = lexL cmpB a b
  | [], [] => rfl
  | [], _ :: _ => rfl
  | _ :: _, [] => rfl
  | a :: r, b :: q => by
    rw [Lib.compareBytes, lexL, compareBytes_lex r q]
    have h1 : a < b ↔ (a.toNat : Int) < b.toNat := by rw [UInt8.lt_iff_toNat_lt]; omega
    have h2 : b < a ↔ (b.toNat : Int) < a.toNat := by rw [UInt8.lt_iff_toNat_lt]; omega
    unfold cmpB cmpI
    simp only [h1, h2]
    by_cases k1 : (a.toNat : Int) < b.toNat
    · simp [k1]
    · by_cases k2 : (b.toNat : Int) < a.toNat
      · simp [k1, k2]
      · simp [k1, k2]
theorem cmpL_lex : ∀ a b : List Int, cmpL a b = lexL cmpI a b
  | [], [] => rfl
  | [], _ :: _ => rfl
  | _ :: _, [] => rfl
  | a :: r, b :: q => by rw [cmpL_cons, lexL, cmpL_lex r q]
theorem bytes_ord : Ordr Lib.compareBytes := by
  have : Lib.compareBytes = lexL cmpB := by funext a b; exact compareBytes_lex a b
  rw [this]; exact lexL_ord cmpB_ord
theorem ints_ord : Ordr cmpL := by
  have : cmpL = lexL cmpI := by funext a b; exact cmpL_lex a b
  rw [this]; exact lexL_ord cmpI_ord
theorem bytesLt_iff : ∀ a b : List UInt8, bytesLt a b = decide (Lib.compareBytes a b = -1)
  | [], [] => rfl
  | [], _ :: _ => rfl
  | _ :: _, [] => rfl
  | a :: r, b :: q => by
    have ih := bytesLt_iff r q
    show Op.bytesLess (a :: r) (b :: q) = _
    rw [Lib.compareBytes]
    have ih' : Op.bytesLess r q = decide (Lib.compareBytes r q = -1) := ih
    rw [Op.bytesLess]
    by_cases h1 : a < b
    · simp [h1]
    · by_cases h2 : b < a
      · have h3 : ¬ a = b := by rintro rfl; exact h1 h2
        simp [h1, h2, h3]
      · have h3 : a = b := UInt8.le_antisymm (UInt8.not_lt.1 h2) (UInt8.not_lt.1 h1)
        simp [h1, h2, h3, ih']
def keyP (a : Prb) : List UInt8 × List Int × Int × List UInt8 := (a.route, a.place, a.code, a.name)
theorem cmpP_ord : Ordr cmpP := by
  have h := lex2 bytes_ord (lex2 ints_ord (lex2 cmpI_ord bytes_ord))
  have e : ∀ a b, cmpP a b = (fun (x y : List UInt8 × List Int × Int × List UInt8) => if Lib.compareBytes x.1 y.1 = 0 then (fun (x y : List Int × Int × List UInt8) => if cmpL x.1 y.1 = 0 then (fun (x y : Int × List UInt8) => if cmpI x.1 y.1 = 0 then Lib.compareBytes x.2 y.2 else cmpI x.1 y.1) x.2 y.2 else cmpL x.1 y.1) x.2 y.2 else Lib.compareBytes x.1 y.1) (keyP a) (keyP b) := by
    intro a b
    simp only [cmpP, orI, keyP]
    by_cases h1 : Lib.compareBytes a.route b.route = 0
    · by_cases h2 : cmpL a.place b.place = 0
      · by_cases h3 : cmpI a.code b.code = 0
        · simp only [h1, h2, h3, if_true]
          split
          · rename_i h; exact h.symm
          · rfl
        · simp [h1, h2, h3]
      · simp [h1, h2]
    · simp [h1]
  refine ⟨fun x y => ?_, fun x y => ?_, fun x y => ?_, fun x y z => ?_⟩
  · rw [e]; exact h.tri _ _
  · rw [e]
    refine (h.eqv _ _).trans ⟨fun hk => ?_, fun hk => by rw [hk]⟩
    obtain ⟨a1, a2, a3, a4⟩ := x
    obtain ⟨b1, b2, b3, b4⟩ := y
    simp only [keyP, Prb.route, Prb.place, Prb.code, Prb.name, Prod.mk.injEq] at hk
    obtain ⟨rfl, rfl, rfl, rfl⟩ := hk
    rfl
  · rw [e, e]; exact h.anti _ _
  · rw [e, e, e]; exact h.trans _ _ _
end Go.Proofs.YtfbakipopjoghaaDoor
