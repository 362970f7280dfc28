/- A part of the proof for DelimitedValuesCardSaid. -/
import Derived.Test.YtbaaokocnegdoaaGreatDoorValVC29
import Derived.Test.YtbaaokocnegdoaaGreatDoorValF
set_option maxRecDepth 100000
set_option linter.unusedVariables false
set_option linter.unusedSimpArgs false
-- many steps
namespace Go.Proofs.YtbaaokocnegdoaaGreatDoor
open Go Go.Ab
attribute [local irreducible] vc
theorem fmtB41 (b : Bool) : Pure Tryz.prog tabG 41 [.bool b] (.str (if b = true then trueB else falseB)) := by
 have h85 : Pure Tryz.prog tabG 85 [.bool b] (.str (if b = true then trueB else falseB)) := by
  unfold trueB falseB
  refine Pure.intro F85_ok (by simp [F85]) ?_
  cases b with
  | true => simp (maxSteps:=9^7) (disch:=first|exact dI|fail) only [F85, push_cast, seval]
  | false => simp (maxSteps:=9^7) (disch:=first|exact dI|fail) only [F85, Bool.false_eq_true, push_cast, seval]
 generalize (if b = true then trueB else falseB) = q at *
 refine Pure.intro F41_ok (by simp [F41]) ?_
 simp (maxSteps:=9^7) (disch:=first|exact dI|fail) only [F41, push_cast, seval]
 refine ACall.pure h85 rfl ?_
 simp (maxSteps:=9^7) (disch:=first|exact dI|fail) only [push_cast, seval]
def hx (k : Nat) : UInt8 := hexD.getD k 0
def hexW : List UInt8 → List UInt8
 | [] => []
 | b :: r => hx (b.toNat / 16) :: hx (b.toNat % 16) :: hexW r
theorem hexW_app : ∀ (l : List UInt8) (b : UInt8), hexW (l ++ [b]) = hexW l ++ [hx (b.toNat / 16), hx (b.toNat % 16)]
 | [], b => rfl
 | c :: l, b => by simp [hexW, hexW_app l b]
theorem hexW_len : ∀ l : List UInt8, (hexW l).length = 2 * l.length
 | [] => rfl
 | b :: r => by simp [hexW, hexW_len r]; omega
theorem hexW_back : ∀ {s b : List UInt8}, hexP s = some b → hexW b = s
 | [], b, h => by cases h; rfl
 | [_], b, h => by simp [hexP] at h
 | x :: y :: r, b, h => by
   rw [hexP] at h
   split at h
   ·cases h
   ·rename_i hn
    simp only [Option.map_eq_some_iff] at h
    obtain ⟨q, hq, rfl⟩ := h
    have h1 := nib_all x
    have h2 := nib_all y
    have hxn : ¬ nib x < 0 := fun h => hn (Or.inl h)
    have hyn : ¬ nib y < 0 := fun h => hn (Or.inr h)
    have hb := bytX_nat hxn hyn
    have e1 : (bytX x y).toNat / 16 = (nib x).toNat := by omega
    have e2 : (bytX x y).toNat % 16 = (nib y).toNat := by omega
    rw [hexW, hexW_back hq, e1, e2]
    unfold hx
    rw [List.getD_eq_getElem?_getD, List.getD_eq_getElem?_getD, h1.2.2 (by omega), h2.2.2 (by omega)]
    rfl
theorem shr4 (b : UInt8) {u : Nat} (h : b.toNat / 16 = u) : rBin .shr (.pv (.int .u8 (b.toNat : Int))) (.pv (.int .u64 4)) = some (.pv (.int .u8 (u : Int))) := by
 have e : rBin .shr (.pv (.int .u8 (b.toNat : Int))) (.pv (.int .u64 4)) = some (.pv (.int .u8 ((b.toNat : Int).fdiv 16))) := rfl
 rw [e, ← h, Int.fdiv_eq_ediv_of_nonneg _ (by omega)]
 rfl
theorem and15 (b : UInt8) {u : Nat} (h : b.toNat % 16 = u) : bits .and .u8 (b.toNat : Int) 15 = (u : Int) := by
 have key : ∀ x : Fin 256, bits .and .u8 ((x.val : Nat) : Int) 15 = ((x.val % 16 : Nat) : Int) := by decide +kernel
 rw [← h]
 exact key ⟨b.toNat, b.toNat_lt⟩
theorem hx_get {u : Nat} (h : u < 16) : hexD[u]? = some (hx u) := by
 unfold hx
 rw [List.getD_eq_getElem?_getD, List.getElem?_eq_getElem (by simpa [hexD] using h)]
 rfl
end Go.Proofs.YtbaaokocnegdoaaGreatDoor
