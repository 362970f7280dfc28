/- A part of the proof for DelimitedValuesCardSaid. -/
import Derived.Test.YtbaaokocnegdoaaGreatDoorValWTy
set_option maxRecDepth 100000
set_option linter.unusedVariables false
set_option linter.unusedSimpArgs false
namespace Go.Proofs.YtbaaokocnegdoaaGreatDoor
open Go Go.Ab
attribute [local irreducible] vc
def named (name : List UInt8) (x : TFd) : Bool := decide (x.name = name)
def namedF (name : List UInt8) (x : Fld) : Bool := decide (x.name = name)
def zeroTF : TFd := .mk 0 [] 0 (.mk 0 0 0 0 [] [] []) []
def zeroV : Val := .mk 0 0 0 [] [] []
def tfR (o : Option TFd) : PV := .tup [(o.getD zeroTF).pv, .bool o.isSome]
def vlR (o : Option Val) : PV := .tup [(o.getD zeroV).pv, .bool o.isSome]
theorem typeField61 (t : Typ) (name : List UInt8) (h : t.fields.length ≤ 1000000) : Pure Tryz.prog tabG 65 [t.pv, .str name] (tfR (t.fields.find? (named name))) := by
 obtain ⟨k, m, n, s, w, e, f⟩ := t
 simp only [Typ.fields] at h ⊢
 refine Pure.intro F65_ok (by simp [F65]) ?_
 generalize hR : f.find? (named name) = R
 simp (disch:=first|exact dI|fail) only [F65, Typ.pv_mk, push_cast, seval]
 refine vc_over ([]) (fun m : Nat => [(6, .pv (.int .i64 (m : Int)))]) (fun m => []) (fun m => m ≤ f.length ∧ R = (f.drop m).find? (named name)) (fun m => f.length - m) (0) ?_; intro e0 σ0 n0 h0; simp (disch:=first|exact dI|fail) only [push_cast, seval] at h0; obtain ⟨rfl, rfl, rfl⟩ := h0; refine ⟨?_, ?_, ?_⟩
 ·simp (disch:=first|exact dI|fail) only [push_cast, seval]
 ·exact ⟨by omega, hR.symm⟩
 ·rintro i ⟨hi, he⟩
  by_cases hlt : i < f.length
  ·have hltI : (i : Int) < f.length := by omega
   obtain ⟨x, hx⟩ : ∃ x, f[i]? = some x := ⟨_, List.getElem?_eq_getElem hlt⟩
   have hhit := find_hit (p := named name) hx
   have hmiss := find_miss (p := named name) hx
   obtain ⟨x1, x2, x3, ⟨y1, y2, y3, y4, y5, y6, y7⟩, x5⟩ := x
   simp only [named, TFd.name] at hhit hmiss
   by_cases hn : x2 = name
   ·rw [he]
    rw [hhit (decide_eq_true hn)]
    simp (disch:=first|exact dI|fail) only [hx, hn, tfR, Option.getD_some, Option.isSome_some, TFd.pv_mk, Typ.pv_mk, push_cast, seval]
   ·simp (disch:=first|exact dI|fail) only [hx, hn, TFd.pv_mk, Typ.pv_mk, push_cast, seval]
    exact ⟨i + 1, hd_z (by simp (disch:=first|exact dI|fail) only [push_cast, seval]), ⟨by omega, by rw [he]; exact hmiss (decide_eq_false hn)⟩, by omega⟩
  ·have hltI : ¬ (i : Int) < f.length := by omega
   rw [he, find_end hlt]
   simp (disch:=first|exact dI|fail) only [tfR, Option.getD_none, Option.isSome_none, zeroTF, TFd.pv_mk, Typ.pv_mk, push_cast, seval]
theorem field92 (v : Val) (name : List UInt8) (h : v.fields.length ≤ 1000000) : Pure Tryz.prog tabG 117 [v.pv, .str name] (vlR ((v.fields.find? (namedF name)).map Fld.value)) := by
 obtain ⟨k, i, s, t, l, f⟩ := v
 simp only [Val.fields] at h ⊢
 refine Pure.intro F117_ok (by simp [F117]) ?_
 generalize hR : f.find? (namedF name) = R
 simp (disch:=first|exact dI|fail) only [F117, Val.pv_mk, push_cast, seval]
 refine vc_over ([]) (fun m : Nat => [(6, .pv (.int .i64 (m : Int)))]) (fun m => []) (fun m => m ≤ f.length ∧ R = (f.drop m).find? (namedF name)) (fun m => f.length - m) (0) ?_; intro e0 σ0 n0 h0; simp (disch:=first|exact dI|fail) only [push_cast, seval] at h0; obtain ⟨rfl, rfl, rfl⟩ := h0; refine ⟨?_, ?_, ?_⟩
 ·simp (disch:=first|exact dI|fail) only [push_cast, seval]
 ·exact ⟨by omega, hR.symm⟩
 ·rintro i ⟨hi, he⟩
  by_cases hlt : i < f.length
  ·have hltI : (i : Int) < f.length := by omega
   obtain ⟨x, hx⟩ : ∃ x, f[i]? = some x := ⟨_, List.getElem?_eq_getElem hlt⟩
   have hhit := find_hit (p := namedF name) hx
   have hmiss := find_miss (p := namedF name) hx
   obtain ⟨x1, ⟨y1, y2, y3, y4, y5, y6⟩⟩ := x
   simp only [namedF, Fld.name] at hhit hmiss
   by_cases hn : x1 = name
   ·rw [he]
    rw [hhit (decide_eq_true hn)]
    simp (disch:=first|exact dI|fail) only [hx, hn, vlR, Option.map_some, Fld.value, Option.getD_some, Option.isSome_some, Fld.pv_mk, Val.pv_mk, push_cast, seval]
   ·simp (disch:=first|exact dI|fail) only [hx, hn, Fld.pv_mk, Val.pv_mk, push_cast, seval]
    exact ⟨i + 1, hd_z (by simp (disch:=first|exact dI|fail) only [push_cast, seval]), ⟨by omega, by rw [he]; exact hmiss (decide_eq_false hn)⟩, by omega⟩
  ·have hltI : ¬ (i : Int) < f.length := by omega
   rw [he, find_end hlt]
   simp (disch:=first|exact dI|fail) only [vlR, Option.map_none, Option.getD_none, Option.isSome_none, zeroV, Val.pv_mk, push_cast, seval]
theorem has58 (l : List (List UInt8)) (s : List UInt8) (h : l.length ≤ 1000000) : Pure Tryz.prog tabG 62 [.list (l.map PV.str), .str s] (.bool (l.any fun x => decide (x = s))) := by
 refine Pure.intro F62_ok (by simp [F62]) ?_
 generalize hR : (l.any fun x => decide (x = s)) = R
 simp (disch:=first|exact dI|fail) only [F62, push_cast, seval]
 refine vc_over ([]) (fun m : Nat => [(5, .pv (.int .i64 (m : Int)))]) (fun m => []) (fun m => m ≤ l.length ∧ R = (l.drop m).any fun x => decide (x = s)) (fun m => l.length - m) (0) ?_; intro e0 σ0 n0 h0; simp (disch:=first|exact dI|fail) only [push_cast, seval] at h0; obtain ⟨rfl, rfl, rfl⟩ := h0; refine ⟨?_, ?_, ?_⟩
 ·simp (disch:=first|exact dI|fail) only [push_cast, seval]
 ·exact ⟨by omega, hR.symm⟩
 ·rintro i ⟨hi, he⟩
  by_cases hlt : i < l.length
  ·have hltI : (i : Int) < l.length := by omega
   obtain ⟨x, hx⟩ : ∃ x, l[i]? = some x := ⟨_, List.getElem?_eq_getElem hlt⟩
   by_cases hn : x = s
   ·rw [he, any_hit hx (by simp [hn])]
    simp (disch:=first|exact dI|fail) only [hx, hn, push_cast, seval]
   ·rw [any_miss hx (by simp [hn])] at he
    simp (disch:=first|exact dI|fail) only [hx, hn, push_cast, seval]
    exact ⟨i + 1, hd_z (by simp (disch:=first|exact dI|fail) only [push_cast, seval]), ⟨by omega, he⟩, by omega⟩
  ·have hltI : ¬ (i : Int) < l.length := by omega
   rw [he, any_end hlt]
   simp (disch:=first|exact dI|fail) only [push_cast, seval]
theorem index111 (l : List (List UInt8)) (s : List UInt8) (h : l.length ≤ 1000000) : Pure Tryz.prog tabG 179 [.list (l.map PV.str), .str s] (.int .i64 (fstI (fun x => decide (x = s)) l 0)) := by
 refine Pure.intro F179_ok (by simp [F179]) ?_
 generalize hR : fstI (fun x => decide (x = s)) l 0 = R
 simp (disch:=first|exact dI|fail) only [F179, push_cast, seval]
 refine vc_over ([]) (fun m : Nat => [(8, .pv (.int .i64 (m : Int)))]) (fun m => []) (fun m => m ≤ l.length ∧ R = fstI (fun x => decide (x = s)) (l.drop m) m) (fun m => l.length - m) (0) ?_; intro e0 σ0 n0 h0; simp (disch:=first|exact dI|fail) only [push_cast, seval] at h0; obtain ⟨rfl, rfl, rfl⟩ := h0; refine ⟨?_, ?_, ?_⟩
 ·simp (disch:=first|exact dI|fail) only [push_cast, seval]
 ·exact ⟨by omega, hR.symm⟩
 ·rintro i ⟨hi, he⟩
  by_cases hlt : i < l.length
  ·have hltI : (i : Int) < l.length := by omega
   obtain ⟨x, hx⟩ : ∃ x, l[i]? = some x := ⟨_, List.getElem?_eq_getElem hlt⟩
   by_cases hn : s = x
   ·rw [he, fst_hit hx (by simp [hn])]
    simp (disch:=first|exact dI|fail) only [hx, hn, push_cast, seval]
   ·rw [fst_miss hx (by simp; exact fun h => hn h.symm)] at he
    simp (disch:=first|exact dI|fail) only [hx, hn, push_cast, seval]
    exact ⟨i + 1, hd_z (by simp (disch:=first|exact dI|fail) only [push_cast, seval]), ⟨by omega, he⟩, by omega⟩
  ·have hltI : ¬ (i : Int) < l.length := by omega
   rw [he, fst_end hlt]
   simp (disch:=first|exact dI|fail) only [push_cast, seval]
theorem contains86 (l : List (List UInt8)) (s : List UInt8) (h : l.length ≤ 1000000) : Pure Tryz.prog tabG 132 [.list (l.map PV.str), .str s] (.bool (l.any fun x => decide (x = s))) := by
 have h111 := index111 l s h
 have hfa := find_any (p := fun x => decide (x = s)) l
 refine Pure.intro F132_ok (by simp [F132]) ?_
 rcases fst_find (p := fun x => decide (x = s)) l 0 with ⟨h1, h2⟩ | ⟨k, x, h1, h2, h3⟩
 ·rw [h2] at h111
  rw [h1] at hfa
  rw [← hfa]
  simp (disch:=first|exact dI|fail) only [F132, push_cast, seval]
  refine ACall.pure h111 rfl ?_
  simp (disch:=first|exact dI|fail) only [push_cast, seval]
  exact .refl _
 ·rw [h3] at h111
  rw [h2] at hfa
  rw [← hfa]
  have hk : (0 : Int) ≤ ((0 + k : Nat) : Int) := by omega
  generalize ((0 + k : Nat) : Int) = z at *
  simp (disch:=first|exact dI|fail) only [F132, push_cast, seval]
  refine ACall.pure h111 rfl ?_
  simp (disch:=first|exact dI|fail) only [push_cast, seval]
  exact .refl _
end Go.Proofs.YtbaaokocnegdoaaGreatDoor
set_option maxRecDepth 100000
set_option linter.unusedVariables false
set_option linter.unusedSimpArgs false
namespace Go.Proofs.YtbaaokocnegdoaaGreatDoor
open Go Go.Ab
attribute [local irreducible] vc
def stepM : Bool → List Mis → Mis → Bool × List Mis
 | true, l, _ => (true, l)
 | false, l, m => (!decide (l.length + 1 < 64), l ++ [m])
end Go.Proofs.YtbaaokocnegdoaaGreatDoor
