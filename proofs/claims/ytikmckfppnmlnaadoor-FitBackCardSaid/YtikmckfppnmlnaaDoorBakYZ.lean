/- A part of the proof for FitBackCardSaid. -/
import Derived.Test.YtikmckfppnmlnaaDoorBakYE
import Derived.Test.YtikmckfppnmlnaaDoorBakYR
set_option maxRecDepth 100000
set_option linter.unusedVariables false
set_option linter.unusedSimpArgs false
namespace Go.Proofs.YtikmckfppnmlnaaDoor
open Go Go.Ab
open Nat renaming reduceEqDiff → qa, reduceAdd → qb, reduceMul → qc, reduceLeDiff → qd, reduceLT → qe, reduceBEq → qf, reduceSub → qg
open Int renaming reduceToNat → qh, reduceNeg → qi
attribute [local irreducible] vc
def redF (R : Typ → Val → Val) (fs : List TFd) (x : Fld) : Fld :=
  match fs.find? (named x.name) with
  | some f => .mk x.name (R f.typ x.value)
  | none => x
def redE (R : Typ → Val → Val) (e : List Typ) (x : Val) : Val :=
  match e with
  | [t] => R t x
  | _ => x
def redC (R : Typ → Val → Val) (t : Typ) (v : Val) : List Val :=
  match t.fields.find? (named v.text) with
  | some c => [R c.typ (v.lst.headD zeroV)]
  | none => v.lst
def red1 (R : Typ → Val → Val) (t : Typ) (v : Val) : Val :=
  if v.kind = 8 then .mk v.kind v.num v.scale v.text (v.lst.map (redE R t.elem)) v.fields
  else if v.kind = 10 then .mk v.kind v.num v.scale v.text (redC R t v) v.fields
  else if v.kind = 9 then .mk v.kind v.num v.scale v.text v.lst ((v.fields.filter fun x => !delB 3 t.fields x).map (redF R t.fields))
  else v
def redN : Nat → Typ → Val → Val
  | 0 => fun _ v => v
  | n + 1 => red1 (redN n)
def tyD : Nat → Typ → Prop
  | 0, _ => True
  | n + 1, t => (∀ f ∈ t.fields, (∀ d ∈ f.dflt, dep 3 d ∧ d.ok) ∧ tyD n f.typ) ∧ ∀ e ∈ t.elem, tyD n e
section
variable {R : Typ → Val → Val} {t : Typ} {v : Val}
theorem red1_list (h : v.kind = 8) : red1 R t v = .mk v.kind v.num v.scale v.text (v.lst.map (redE R t.elem)) v.fields := if_pos h
theorem red1_var (h : v.kind = 10) : red1 R t v = .mk v.kind v.num v.scale v.text (redC R t v) v.fields := by
  unfold red1; rw [if_neg (by omega), if_pos h]
theorem red1_rec (h : v.kind = 9) : red1 R t v = .mk v.kind v.num v.scale v.text v.lst ((v.fields.filter fun x => !delB 3 t.fields x).map (redF R t.fields)) := by
  unfold red1; rw [if_neg (by omega), if_neg (by omega), if_pos h]
theorem red1_else (h8 : ¬ v.kind = 8) (h10 : ¬ v.kind = 10) (h9 : ¬ v.kind = 9) : red1 R t v = v := by
  unfold red1; rw [if_neg h8, if_neg h10, if_neg h9]
theorem redE_one {e : Typ} {x : Val} : redE R [e] x = R e x := rfl
theorem redC_some {c : TFd} (h : t.fields.find? (named v.text) = some c) : redC R t v = [R c.typ (v.lst.headD zeroV)] := by unfold redC; rw [h]
theorem redF_some {fs : List TFd} {x : Fld} {f : TFd} (h : fs.find? (named x.name) = some f) : redF R fs x = .mk x.name (R f.typ x.value) := by unfold redF; rw [h]
end
theorem redN_succ (n : Nat) (t : Typ) (v : Val) : redN (n + 1) t v = red1 (redN n) t v := rfl
theorem fit_kind {R : Typ → Val → List UInt8 → List Mis} {t : Typ} {v : Val} {p : List UInt8} (h : miss1 R t v p = []) : ¬ (t.kind < 1 ∨ 10 < t.kind ∨ ¬ v.kind = t.kind) ∧ formedV v = true := by
  by_cases g : t.kind < 1 ∨ 10 < t.kind ∨ ¬ v.kind = t.kind
  · rw [miss1_kind g] at h; cases h
  · refine ⟨g, ?_⟩
    cases hf : formedV v with
    | true => rfl
    | false => rw [miss1_bad g hf] at h; cases h
theorem ixM_all {α β : Type} {F : α → Nat → List β} {l : List α} (h : ixM F l = []) {i : Nat} {x : α} (hx : l[i]? = some x) : F x i = [] := by
  unfold ixM at h
  rw [List.flatMap_eq_nil_iff] at h
  refine h (x, i) ?_
  rw [List.mem_zipIdx_iff_getElem?]; exact hx
end Go.Proofs.YtikmckfppnmlnaaDoor
