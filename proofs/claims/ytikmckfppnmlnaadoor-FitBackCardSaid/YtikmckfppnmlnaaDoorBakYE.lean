/- A part of the proof for FitBackCardSaid. -/
import Derived.Test.YtikmckfppnmlnaaDoorBakYB
set_option maxRecDepth 100000
set_option linter.unusedVariables false
set_option linter.unusedSimpArgs false
namespace Go.Proofs.YtikmckfppnmlnaaDoor
open Go Go.Ab
open Nat renaming reduceEqDiff → qa, reduceAdd → qb, reduceMul → qc, reduceLeDiff → qd, reduceLT → qe, reduceBEq → qf, reduceSub → qg
open Int renaming reduceToNat → qh, reduceNeg → qi
attribute [local irreducible] vc
def delB (n : Nat) (fs : List TFd) (x : Fld) : Bool :=
  match fs.find? (named x.name) with
  | some f => if f.need = 3 then (match f.dflt with | [d] => decide (cmpV n d x.value = 0) | _ => false) else false
  | none => false
section
variable {n : Nat} {fs : List TFd} {x : Fld}
theorem delB_none (h : fs.find? (named x.name) = none) : delB n fs x = false := by unfold delB; rw [h]
theorem delB_need {f : TFd} (h : fs.find? (named x.name) = some f) (hn : ¬ f.need = 3) : delB n fs x = false := by unfold delB; rw [h]; exact if_neg hn
theorem delB_one {f : TFd} {d : Val} (h : fs.find? (named x.name) = some f) (hn : f.need = 3) (hd : f.dflt = [d]) : delB n fs x = decide (cmpV n d x.value = 0) := by
  unfold delB; rw [h]; simp only; rw [if_pos hn, hd]
theorem delB_len {f : TFd} (h : fs.find? (named x.name) = some f) (hl : ¬ f.dflt.length = 1) : delB n fs x = false := by
  unfold delB; rw [h]; simp only
  split
  · split
    · rename_i d hd; rw [hd] at hl; exact absurd rfl hl
    · rfl
  · rfl
end
theorem clo97 (t : Typ) (x : Fld) (n : Nat) (hf : t.fields.length ≤ 300) (hd : ∀ f ∈ t.fields, ∀ d ∈ f.dflt, dep n d ∧ d.ok) (hxo : x.ok) : Pure Tryd.prog tabG 97 [x.pv, .eptr [t.pv] 0 0] (.bool (delB n t.fields x)) := by
  generalize hr : delB n t.fields x = r
  have h89 := typeField89 t x.name (by omega)
  obtain ⟨xn, xv⟩ := x
  rw [Fld.ok_mk] at hxo
  obtain ⟨k, m, M, s, w, e, fs⟩ := t
  simp only [Typ.fields, Fld.name, Fld.value, Typ.pv_mk] at *
  refine Pure.intro F97_ok (by simp [F97]) ?_
  cases hfd : fs.find? (named xn) with
  | none =>
    rw [delB_none (by exact hfd)] at hr
    rw [hfd] at h89
    subst hr
    obtain ⟨v1, v2, v3, v4, v5, v6⟩ := xv
    simp only [tfR, Option.getD_none, Option.isSome_none, zeroTF, TFd.pv_mk, Typ.pv_mk, List.map_nil] at h89
    simp (disch := first | exact dI | fail) only [F97o0, F97o1, F97o2, F97p2, F97c, F97, Fld.pv_mk, Val.pv_mk, Typ.pv_mk, push_cast, ↓reduceIte, qa, qb, qc, qd, qe, qf, qg, qh, qi]
    refine ACall.pure h89 rfl ?_
    simp (disch := first | exact dI | fail) only [push_cast, ↓reduceIte, qa, qb, qc, qd, qe, qf, qg, qh, qi]
  | some f =>
    rw [hfd] at h89
    have hdf := hd f (List.mem_of_find?_eq_some hfd)
    obtain ⟨f1, f2, f3, ⟨g1, g2, g3, g4, g5, g6, g7⟩, f5⟩ := f
    simp only [TFd.dflt] at hdf
    simp only [tfR, Option.getD_some, Option.isSome_some, TFd.pv_mk, Typ.pv_mk] at h89
    by_cases hn : f3 = 3
    · by_cases hl : f5.length = 1
      · obtain ⟨d, rfl⟩ := List.length_eq_one_iff.1 hl
        obtain ⟨hd1, hd2⟩ := hdf d (by simp)
        have h98 := equal98 n d xv hd1 hd2 hxo.2
        rw [delB_one (by exact hfd) (by exact hn) rfl] at hr
        have h98 : Pure Tryd.prog tabG 98 [d.pv, xv.pv] (.bool r) := by rw [← hr]; exact h98
        subst hn
        obtain ⟨v1, v2, v3, v4, v5, v6⟩ := xv
        obtain ⟨c1, c2, c3, c4, c5, c6⟩ := d
        simp only [Val.pv_mk] at h98
        simp (disch := first | exact dI | fail) only [F97o0, F97o1, F97o2, F97p2, F97c, F97, Fld.pv_mk, Val.pv_mk, Typ.pv_mk, push_cast, ↓reduceIte, qa, qb, qc, qd, qe, qf, qg, qh, qi]
        refine ACall.pure h89 rfl ?_
        simp (disch := first | exact dI | fail) only [rElem_zero, List.getElem?_cons_zero, List.map_cons, List.map_nil, Val.pv_mk, push_cast, ↓reduceIte, qa, qb, qc, qd, qe, qf, qg, qh, qi]
        refine ACall.pure h98 rfl ?_
        simp (disch := first | exact dI | fail) only [push_cast, ↓reduceIte, qa, qb, qc, qd, qe, qf, qg, qh, qi]
      · have hlI : ¬ (f5.length : Int) = 1 := by omega
        have hr2 : r = false := by rw [← hr]; exact delB_len (by exact hfd) (by exact hl)
        subst hn
        rw [hr2]
        obtain ⟨v1, v2, v3, v4, v5, v6⟩ := xv
        simp (disch := first | exact dI | fail) only [F97o0, F97o1, F97o2, F97p2, F97c, F97, Fld.pv_mk, Val.pv_mk, Typ.pv_mk, push_cast, ↓reduceIte, qa, qb, qc, qd, qe, qf, qg, qh, qi]
        refine ACall.pure h89 rfl ?_
        simp (disch := first | exact dI | fail) only [push_cast, ↓reduceIte, qa, qb, qc, qd, qe, qf, qg, qh, qi]
    · have hr2 : r = false := by rw [← hr]; exact delB_need (by exact hfd) (by exact hn)
      rw [hr2]
      obtain ⟨v1, v2, v3, v4, v5, v6⟩ := xv
      simp (disch := first | exact dI | fail) only [F97o0, F97o1, F97o2, F97p2, F97c, F97, Fld.pv_mk, Val.pv_mk, Typ.pv_mk, push_cast, ↓reduceIte, qa, qb, qc, qd, qe, qf, qg, qh, qi]
      refine ACall.pure h89 rfl ?_
      simp (disch := first | exact dI | fail) only [push_cast, ↓reduceIte, qa, qb, qc, qd, qe, qf, qg, qh, qi]
end Go.Proofs.YtikmckfppnmlnaaDoor
