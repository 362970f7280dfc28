/- A part of the proof for FitBackCardSaid. -/
import Derived.Test.YtikmckfppnmlnaaDoorBakY9
import Derived.Test.YtikmckfppnmlnaaDoorBakYC
set_option maxRecDepth 100000
set_option linter.unusedVariables false
set_option linter.unusedSimpArgs false
namespace Go.Proofs.YtikmckfppnmlnaaDoor
open Go Go.Ab
open Nat renaming reduceEqDiff → qa, reduceAdd → qb, reduceMul → qc, reduceLeDiff → qd, reduceLT → qe, reduceBEq → qf, reduceSub → qg
open Int renaming reduceToNat → qh, reduceNeg → qi
attribute [local irreducible] vc
def named (name : List UInt8) (x : TFd) : Bool := decide (x.name = name)
def namedF (name : List UInt8) (x : Fld) : Bool := decide (x.name = name)
def zeroTF : TFd := .mk 0 [] 0 (.mk 0 0 0 0 [] [] []) []
def zeroV : Val := .mk 0 0 0 [] [] []
def tfR (o : Option TFd) : PV := .tup [(o.getD zeroTF).pv, .bool o.isSome]
def vlR (o : Option Val) : PV := .tup [(o.getD zeroV).pv, .bool o.isSome]
theorem clo115 (x : TFd) (name : List UInt8) : Pure Tryd.prog tabG 115 [x.pv, .eptr [.str name] 0 0] (.bool (named name x)) := by
  obtain ⟨a, b, c, ⟨k, m, n, s, w, e, fs⟩, d⟩ := x
  refine Pure.intro F115_ok (by simp [F115]) ?_
  simp (disch := first | exact dI | fail) only [F115o0, F115o1, F115c, F115, TFd.pv_mk, Typ.pv_mk, named, TFd.name, push_cast, ↓reduceIte, qa, qb, qc, qd, qe, qf, qg, qh, qi]
  exact decide_eq_decide.2 Iff.rfl
theorem typeField89 (t : Typ) (name : List UInt8) (h : t.fields.length ≤ 1000000) : Pure Tryd.prog tabG 89 [t.pv, .str name] (tfR (t.fields.find? (named name))) := by
  obtain ⟨k, m, n, s, w, e, f⟩ := t
  simp only [Typ.fields] at h ⊢
  have h94 := index94 f 115 [.eptr [.str name] 0 0] (named name) (fun x _ => clo115 x name) (by omega)
  refine Pure.intro F89_ok (by simp [F89]) ?_
  rcases fst_find (p := named name) f 0 with ⟨h1, h2⟩ | ⟨i, x, h1, h2, h3⟩
  · rw [h1]
    rw [h2] at h94
    simp (disch := first | exact dI | fail) only [F89o0, F89o1, F89o2, F89o3, F89o4, F89c, F89, Typ.pv_mk, push_cast, ↓reduceIte, qa, qb, qc, qd, qe, qf, qg, qh, qi]
    refine ACall.pure h94 rfl ?_
    simp (disch := first | exact dI | fail) only [tfR, Option.getD_none, Option.isSome_none, zeroTF, TFd.pv_mk, Typ.pv_mk, push_cast, ↓reduceIte, qa, qb, qc, qd, qe, qf, qg, qh, qi]
  · rw [h2]
    rw [h3, Nat.zero_add] at h94
    obtain ⟨x1, x2, x3, ⟨y1, y2, y3, y4, y5, y6, y7⟩, x5⟩ := x
    have hi : ¬ (i : Int) < 0 := by omega
    simp (disch := first | exact dI | fail) only [F89o0, F89o1, F89o2, F89o3, F89o4, F89c, F89, Typ.pv_mk, push_cast, ↓reduceIte, qa, qb, qc, qd, qe, qf, qg, qh, qi]
    refine ACall.pure h94 rfl ?_
    simp (disch := first | exact dI | fail) only [h1, tfR, Option.getD_some, Option.isSome_some, TFd.pv_mk, Typ.pv_mk, push_cast, ↓reduceIte, qa, qb, qc, qd, qe, qf, qg, qh, qi]
theorem index111 (l : List (List UInt8)) (s : List UInt8) (h : l.length ≤ 1000000) : Pure Tryd.prog tabG 111 [.list (l.map PV.str), .str s] (.int .i64 (fstI (fun x => decide (x = s)) l 0)) := by
  refine Pure.intro F111_ok (by simp [F111]) ?_
  generalize hR : fstI (fun x => decide (x = s)) l 0 = R
  simp (disch := first | exact dI | fail) only [F111o0, F111o1, F111o2, F111o3, F111o4, F111o5, F111o6, F111b7, F111o8, F111c, F111, push_cast, ↓reduceIte, qa, qb, qc, qd, qe, qf, qg, qh, qi]
  refine vc_over ([]) (fun m : Nat => [(8, .pv (.int .i64 (m : Int)))]) (fun m => []) (fun m => m ≤ l.length ∧ R = fstI (fun x => decide (x = s)) (l.drop m) m) (fun m => l.length - m) (0) ?_; intro e0 σ0 n0 h0; simp (disch := first | exact dI | fail) only [push_cast, ↓reduceIte, qa, qb, qc, qd, qe, qf, qg, qh, qi] at h0; obtain ⟨rfl, rfl, rfl⟩ := h0; refine ⟨?_, ?_, ?_⟩
  · simp (disch := first | exact dI | fail) only [push_cast, ↓reduceIte, qa, qb, qc, qd, qe, qf, qg, qh, qi]
  · exact ⟨by omega, hR.symm⟩
  · rintro i ⟨hi, he⟩
    by_cases hlt : i < l.length
    · have hltI : (i : Int) < l.length := by omega
      obtain ⟨x, hx⟩ : ∃ x, l[i]? = some x := ⟨_, List.getElem?_eq_getElem hlt⟩
      by_cases hn : s = x
      · rw [he, fst_hit hx (by simp [hn])]
        simp (disch := first | exact dI | fail) only [hx, hn, push_cast, ↓reduceIte, qa, qb, qc, qd, qe, qf, qg, qh, qi]
      · rw [fst_miss hx (by simp; exact fun h => hn h.symm)] at he
        simp (disch := first | exact dI | fail) only [hx, hn, push_cast, ↓reduceIte, qa, qb, qc, qd, qe, qf, qg, qh, qi]
        exact ⟨i + 1, hd_z (by simp (disch := first | exact dI | fail) only [push_cast, ↓reduceIte, qa, qb, qc, qd, qe, qf, qg, qh, qi]), ⟨by omega, he⟩, by omega⟩
    · have hltI : ¬ (i : Int) < l.length := by omega
      rw [he, fst_end hlt]
      simp (disch := first | exact dI | fail) only [push_cast, ↓reduceIte, qa, qb, qc, qd, qe, qf, qg, qh, qi]
theorem contains86 (l : List (List UInt8)) (s : List UInt8) (h : l.length ≤ 1000000) : Pure Tryd.prog tabG 86 [.list (l.map PV.str), .str s] (.bool (l.any fun x => decide (x = s))) := by
  have h111 := index111 l s h
  have hfa := find_any (p := fun x => decide (x = s)) l
  refine Pure.intro F86_ok (by simp [F86]) ?_
  rcases fst_find (p := fun x => decide (x = s)) l 0 with ⟨h1, h2⟩ | ⟨k, x, h1, h2, h3⟩
  · rw [h2] at h111
    rw [h1] at hfa
    rw [← hfa]
    simp (disch := first | exact dI | fail) only [F86o0, F86o1, F86c, F86, push_cast, ↓reduceIte, qa, qb, qc, qd, qe, qf, qg, qh, qi]
    refine ACall.pure h111 rfl ?_
    simp (disch := first | exact dI | fail) only [push_cast, ↓reduceIte, qa, qb, qc, qd, qe, qf, qg, qh, qi]
    exact .refl _
  · rw [h3] at h111
    rw [h2] at hfa
    rw [← hfa]
    have hk : (0 : Int) ≤ ((0 + k : Nat) : Int) := by omega
    generalize ((0 + k : Nat) : Int) = z at *
    simp (disch := first | exact dI | fail) only [F86o0, F86o1, F86c, F86, push_cast, ↓reduceIte, qa, qb, qc, qd, qe, qf, qg, qh, qi]
    refine ACall.pure h111 rfl ?_
    simp (disch := first | exact dI | fail) only [push_cast, ↓reduceIte, qa, qb, qc, qd, qe, qf, qg, qh, qi]
    exact .refl _
theorem clo144 (x : Fld) (name : List UInt8) : Pure Tryd.prog tabG 144 [x.pv, .eptr [.str name] 0 0] (.bool (namedF name x)) := by
  obtain ⟨a, ⟨k, m, n, s, w, e⟩⟩ := x
  refine Pure.intro F144_ok (by simp [F144]) ?_
  simp (disch := first | exact dI | fail) only [F144o0, F144o1, F144c, F144, Fld.pv_mk, Val.pv_mk, namedF, Fld.name, push_cast, ↓reduceIte, qa, qb, qc, qd, qe, qf, qg, qh, qi]
  exact decide_eq_decide.2 Iff.rfl
theorem index117 (l : List Fld) (g : Nat) (cs : List PV) (q : Fld → Bool) (hq : ∀ x ∈ l, Pure Tryd.prog tabG g (x.pv :: cs) (.bool (q x))) (hl : l.length ≤ 1000000000) :
    Pure Tryd.prog tabG 117 [.list (l.map Fld.pv), .clo g [] cs] (.int .i64 (fstI q l 0)) := by
  refine Pure.intro F117_ok (by simp [F117]) ?_
  simp (disch := first | exact dI | fail) only [F117o0, F117o1, F117o2, F117o3, F117o4, F117o5, F117o6, F117b7, F117o8, F117c, F117, push_cast, ↓reduceIte, qa, qb, qc, qd, qe, qf, qg, qh, qi]
  refine vc_over ([]) (fun m : Nat => [(8, .pv (.int .i64 (m : Int)))]) (fun m => []) (fun m => m ≤ l.length ∧ fstI q l 0 = fstI q (l.drop m) m) (fun m => l.length - m) (0) ?_; intro e0 σ0 n0 h0; simp (disch := first | exact dI | fail) only [push_cast, ↓reduceIte, qa, qb, qc, qd, qe, qf, qg, qh, qi] at h0; obtain ⟨rfl, rfl, rfl⟩ := h0; refine ⟨?_, ?_, ?_⟩
  · simp (disch := first | exact dI | fail) only [push_cast, ↓reduceIte, qa, qb, qc, qd, qe, qf, qg, qh, qi]
  · exact ⟨by omega, by simp⟩
  · rintro m ⟨hm, he⟩
    by_cases hlt : m < l.length
    · have hltI : (m : Int) < l.length := by omega
      obtain ⟨x, hx⟩ : ∃ x, l[m]? = some x := ⟨_, List.getElem?_eq_getElem hlt⟩
      have hcall := hq x (List.mem_of_getElem? hx)
      simp (disch := first | exact dI | fail) only [hx, Fld.cells_len, Fld.isAgg, push_cast, ↓reduceIte, qa, qb, qc, qd, qe, qf, qg, qh, qi]
      refine ACall.pure hcall (by exact pvs_pv (x.pv :: cs)) ?_
      cases hqx : q x with
      | true =>
        rw [he, fst_hit hx hqx]
        simp (disch := first | exact dI | fail) only [push_cast, ↓reduceIte, qa, qb, qc, qd, qe, qf, qg, qh, qi]
      | false =>
        rw [fst_miss hx hqx] at he
        simp (disch := first | exact dI | fail) only [push_cast, ↓reduceIte, qa, qb, qc, qd, qe, qf, qg, qh, qi]
        exact ⟨m + 1, hd_z (by simp (disch := first | exact dI | fail) only [push_cast, ↓reduceIte, qa, qb, qc, qd, qe, qf, qg, qh, qi]), ⟨by omega, he⟩, by omega⟩
    · have hltI : ¬ (m : Int) < l.length := by omega
      rw [he, fst_end hlt]
      simp (disch := first | exact dI | fail) only [push_cast, ↓reduceIte, qa, qb, qc, qd, qe, qf, qg, qh, qi]
theorem index127 (v : Val) (name : List UInt8) (h : v.fields.length ≤ 1000000) : Pure Tryd.prog tabG 127 [v.pv, .str name] (.int .i64 (fstI (namedF name) v.fields 0)) := by
  obtain ⟨k, i, s, t, l, f⟩ := v
  simp only [Val.fields] at h ⊢
  have h117 := index117 f 144 [.eptr [.str name] 0 0] (namedF name) (fun x _ => clo144 x name) (by omega)
  refine Pure.intro F127_ok (by simp [F127]) ?_
  simp (disch := first | exact dI | fail) only [F127o0, F127o1, F127c, F127, Val.pv_mk, push_cast, ↓reduceIte, qa, qb, qc, qd, qe, qf, qg, qh, qi]
  refine ACall.pure h117 rfl ?_
  simp (disch := first | exact dI | fail) only [push_cast, ↓reduceIte, qa, qb, qc, qd, qe, qf, qg, qh, qi]
theorem field113 (v : Val) (name : List UInt8) (hv : v.ok) (hk : v.kind = 9) (h : v.fields.length ≤ 1000000) : Pure Tryd.prog tabG 113 [v.pv, .str name] (vlR ((v.fields.find? (namedF name)).map Fld.value)) := by
  have h127 := index127 v name h
  obtain ⟨k, i, s, t, l, f⟩ := v
  rw [Val.ok_mk] at hv
  simp only [Val.fields, Val.kind] at h hk h127 ⊢
  rw [Val.pv_mk] at h127
  refine Pure.intro F113_ok (by simp [F113]) ?_
  rcases fst_find (p := namedF name) f 0 with ⟨h1, h2⟩ | ⟨i', x, h1, h2, h3⟩
  · rw [h1]
    rw [h2] at h127
    simp (disch := first | exact dI | fail) only [F113o0, F113o1, F113o2, F113o3, F113o4, F113c, F113, Val.pv_mk, push_cast, ↓reduceIte, qa, qb, qc, qd, qe, qf, qg, qh, qi]
    refine ACall.pure h127 rfl ?_
    simp (disch := first | exact dI | fail) only [hk, vlR, Option.map_none, Option.getD_none, Option.isSome_none, zeroV, Val.pv_mk, push_cast, ↓reduceIte, qa, qb, qc, qd, qe, qf, qg, qh, qi]
  · rw [h2]
    rw [h3, Nat.zero_add] at h127
    have hxo := hv.2.2.2.2.2.2.2 x (List.mem_of_getElem? h1)
    obtain ⟨x1, x2⟩ := x
    rw [Fld.ok_mk] at hxo
    have hcl := cloneV_ok _ x2 (Nat.lt_succ_self _) hxo.2
    obtain ⟨y1, y2, y3, y4, y5, y6⟩ := x2
    rw [Val.pv_mk] at hcl
    have hi : ¬ (i' : Int) < 0 := by omega
    simp (disch := first | exact dI | fail) only [F113o0, F113o1, F113o2, F113o3, F113o4, F113c, F113, Val.pv_mk, push_cast, ↓reduceIte, qa, qb, qc, qd, qe, qf, qg, qh, qi]
    refine ACall.pure h127 rfl ?_
    simp (disch := first | exact dI | fail) only [h1, hk, Fld.pv_mk, Val.pv_mk, push_cast, ↓reduceIte, qa, qb, qc, qd, qe, qf, qg, qh, qi]
    refine ACall.pure hcl rfl ?_
    simp (disch := first | exact dI | fail) only [vlR, Option.map_some, Fld.value, Option.getD_some, Option.isSome_some, Val.pv_mk, push_cast, ↓reduceIte, qa, qb, qc, qd, qe, qf, qg, qh, qi]
end Go.Proofs.YtikmckfppnmlnaaDoor
