/- A part of the proof for DelimitedValuesCardSaid. -/
import Derived.Test.YtbaaokocnegdoaaGreatDoorValWH
import Derived.Test.YtbaaokocnegdoaaGreatDoorValWG
set_option maxRecDepth 100000
set_option linter.unusedVariables false
set_option linter.unusedSimpArgs false
namespace Go.Proofs.YtbaaokocnegdoaaGreatDoor
open Go Go.Ab
attribute [local irreducible] vc
def underT (p n : List UInt8) : List UInt8 := if p = [] then n else p ++ (46 :: n)
theorem join93 (p n : List UInt8) (hp : p.length ≤ 1000000) (hn : n.length ≤ 1000000) : Pure Tryz.prog tabG 118 [.str p, .str n] (.str (underT p n)) := by
 refine Pure.intro F118_ok (by simp [F118]) ?_
 by_cases h : p = []
 ·rw [underT, if_pos h]
  simp (disch:=first|exact dI|fail) only [F118, h, push_cast, seval]
 ·rw [underT, if_neg h]
  simp (disch:=first|exact dI|fail) only [F118, h, push_cast, seval]
def outM (mn mx : Int) (p : List UInt8) (n : Int) : List Mis := if n < mn ∨ mx < n then [.mk p 2] else []
theorem outM_t {mn mx n : Int} {p : List UInt8} (h : n < mn ∨ mx < n) : outM mn mx p n = [.mk p 2] := if_pos h
theorem outM_f {mn mx n : Int} {p : List UInt8} (h : ¬ (n < mn ∨ mx < n)) : outM mn mx p n = [] := if_neg h
end Go.Proofs.YtbaaokocnegdoaaGreatDoor
set_option maxRecDepth 100000
set_option linter.unusedVariables false
set_option linter.unusedSimpArgs false
namespace Go.Proofs.YtbaaokocnegdoaaGreatDoor
open Go Go.Ab
attribute [local irreducible] vc
def ixM {α β : Type} (F : α → Nat → List β) (l : List α) : List β := l.zipIdx.flatMap fun q => F q.1 q.2
theorem ixM_nil {α β : Type} (F : α → Nat → List β) : ixM F [] = [] := _root_.id rfl
theorem ixM_snoc {α β : Type} (F : α → Nat → List β) {l : List α} {m : Nat} {x : α} (h : l[m]? = some x) : ixM F (l.take (m + 1)) = ixM F (l.take m) ++ F x m := by
 have hm : m < l.length := (List.getElem?_eq_some_iff.1 h).1
 have hl : (l.take m).length = m := by rw [List.length_take]; omega
 rw [take_snoc h]
 simp [ixM, List.zipIdx_append, List.flatMap_append, hl]
theorem flat_snoc {α β : Type} (F : α → List β) {l : List α} {m : Nat} {x : α} (h : l[m]? = some x) : (l.take (m + 1)).flatMap F = (l.take m).flatMap F ++ F x := by
 rw [take_snoc h]; simp
def atT (p : List UInt8) (i : Nat) : List UInt8 := p ++ (91 :: (itoaT i ++ [93]))
def elemM (R : Typ → Val → List UInt8 → List Mis) (e : List Typ) (p : List UInt8) (x : Val) (i : Nat) : List Mis :=
 match e with
 | [t] => R t x (atT p i)
 | _ => [.mk (atT p i) 1]
def fieldM (R : Typ → Val → List UInt8 → List Mis) (fs : List Fld) (p : List UInt8) (x : TFd) : List Mis :=
 match fs.find? (namedF x.name) with
 | some y => R x.typ y.value (underT p x.name)
 | none => if x.need = 2 then [] else [.mk (underT p x.name) 5]
def otherM (ts : List TFd) (p : List UInt8) (x : Fld) : List Mis := if (ts.find? (named x.name)).isSome = true then [] else [.mk (underT p x.name) 6]
theorem fieldM_some {R : Typ → Val → List UInt8 → List Mis} {fs : List Fld} {p : List UInt8} {x : TFd} {y : Fld} (h : fs.find? (namedF x.name) = some y) : fieldM R fs p x = R x.typ y.value (underT p x.name) := by
 unfold fieldM; rw [h]
theorem fieldM_opt {R : Typ → Val → List UInt8 → List Mis} {fs : List Fld} {p : List UInt8} {x : TFd} (h : fs.find? (namedF x.name) = none) (hn : x.need = 2) : fieldM R fs p x = [] := by
 unfold fieldM; rw [h]; exact if_pos hn
theorem fieldM_need {R : Typ → Val → List UInt8 → List Mis} {fs : List Fld} {p : List UInt8} {x : TFd} (h : fs.find? (namedF x.name) = none) (hn : ¬ x.need = 2) : fieldM R fs p x = [.mk (underT p x.name) 5] := by
 unfold fieldM; rw [h]; exact if_neg hn
theorem otherM_some {ts : List TFd} {p : List UInt8} {x : Fld} {z : TFd} (h : ts.find? (named x.name) = some z) : otherM ts p x = [] := by
 unfold otherM; rw [h]; exact if_pos rfl
theorem otherM_none {ts : List TFd} {p : List UInt8} {x : Fld} (h : ts.find? (named x.name) = none) : otherM ts p x = [.mk (underT p x.name) 6] := by
 unfold otherM; rw [h]; exact if_neg (by simp)
def recM (R : Typ → Val → List UInt8 → List Mis) (t : Typ) (v : Val) (p : List UInt8) : List Mis := t.fields.flatMap (fieldM R v.fields p) ++ v.fields.flatMap (otherM t.fields p)
def varM (R : Typ → Val → List UInt8 → List Mis) (t : Typ) (v : Val) (p : List UInt8) : List Mis :=
 match t.fields.find? (named v.text) with
 | some c => R c.typ (v.lst.headD zeroV) (p ++ (63 :: v.text))
 | none => [.mk p 7]
def miss1 (R : Typ → Val → List UInt8 → List Mis) (t : Typ) (v : Val) (p : List UInt8) : List Mis :=
 if t.kind < 1 ∨ 10 < t.kind ∨ ¬ v.kind = t.kind then [.mk p 1]
 else if formedV v = false then [.mk p 8]
 else if t.kind = 2 ∨ t.kind = 6 ∨ t.kind = 7 then outM t.min t.max p v.num
 else if t.kind = 3 then (if v.scale = t.scale then outM t.min t.max p v.num else [.mk p 3])
 else if t.kind = 4 ∨ t.kind = 5 then (if t.kind = 4 ∧ 0 < t.words.length then (if (t.words.any fun x => decide (x = v.text)) = true then [] else [.mk p 4]) else outM t.min t.max p v.text.length)
 else if t.kind = 8 then outM t.min t.max p v.lst.length ++ ixM (elemM R t.elem p) v.lst
 else if t.kind = 9 then recM R t v p
 else if t.kind = 10 then varM R t v p
 else []
def missN : Nat → Typ → Val → List UInt8 → List Mis
 | 0 => fun _ _ _ => []
 | n + 1 => miss1 (missN n)
def dep : Nat → Val → Prop
 | 0, _ => False
 | n + 1, v => v.lst.length ≤ 300 ∧ v.fields.length ≤ 300 ∧ v.text.length ≤ 100 ∧ (∀ x ∈ v.lst, dep n x) ∧ ∀ f ∈ v.fields, f.name.length ≤ 100 ∧ dep n f.value
def tyOk : Nat → Typ → Prop
 | 0, _ => True
 | n + 1, t => t.fields.length ≤ 300 ∧ t.words.length ≤ 300 ∧ (∀ e ∈ t.elem, tyOk n e) ∧ ∀ f ∈ t.fields, f.name.length ≤ 100 ∧ tyOk n f.typ
def invM (d : Bool) (l : List Mis) : Prop := l.length ≤ 64 ∧ (d = false → l.length < 64)
theorem underT_len (p n : List UInt8) : (underT p n).length ≤ p.length + n.length + 1 := by
 unfold underT; split
 ·omega
 ·simp only [List.length_append, List.length_cons]; omega
end Go.Proofs.YtbaaokocnegdoaaGreatDoor
set_option maxRecDepth 100000
set_option linter.unusedVariables false
set_option linter.unusedSimpArgs false
namespace Go.Proofs.YtbaaokocnegdoaaGreatDoor
open Go Go.Ab
attribute [local irreducible] vc
section
variable {R : Typ → Val → List UInt8 → List Mis} {t : Typ} {v : Val} {p : List UInt8}
theorem miss1_kind (h : t.kind < 1 ∨ 10 < t.kind ∨ ¬ v.kind = t.kind) : miss1 R t v p = [.mk p 1] := if_pos h
theorem miss1_bad (h : ¬ (t.kind < 1 ∨ 10 < t.kind ∨ ¬ v.kind = t.kind)) (hf : formedV v = false) : miss1 R t v p = [.mk p 8] := by
 unfold miss1; rw [if_neg h, if_pos hf]
theorem miss1_num (h : ¬ (t.kind < 1 ∨ 10 < t.kind ∨ ¬ v.kind = t.kind)) (hf : formedV v = true) (hk : t.kind = 2 ∨ t.kind = 6 ∨ t.kind = 7) : miss1 R t v p = outM t.min t.max p v.num := by
 unfold miss1; rw [if_neg h, if_neg (by rw [hf]; simp), if_pos hk]
theorem miss1_dec (h : ¬ (t.kind < 1 ∨ 10 < t.kind ∨ ¬ v.kind = t.kind)) (hf : formedV v = true) (hk : t.kind = 3) (hs : v.scale = t.scale) : miss1 R t v p = outM t.min t.max p v.num := by
 unfold miss1; rw [if_neg h, if_neg (by rw [hf]; simp), if_neg (by omega), if_pos hk, if_pos hs]
theorem miss1_scale (h : ¬ (t.kind < 1 ∨ 10 < t.kind ∨ ¬ v.kind = t.kind)) (hf : formedV v = true) (hk : t.kind = 3) (hs : ¬ v.scale = t.scale) : miss1 R t v p = [.mk p 3] := by
 unfold miss1; rw [if_neg h, if_neg (by rw [hf]; simp), if_neg (by omega), if_pos hk, if_neg hs]
theorem miss1_word (h : ¬ (t.kind < 1 ∨ 10 < t.kind ∨ ¬ v.kind = t.kind)) (hf : formedV v = true) (hk : t.kind = 4) (hw : 0 < t.words.length) (ha : (t.words.any fun x => decide (x = v.text)) = true) : miss1 R t v p = [] := by
 unfold miss1; rw [if_neg h, if_neg (by rw [hf]; simp), if_neg (by omega), if_neg (by omega), if_pos (.inl hk), if_pos ⟨hk, hw⟩, if_pos ha]
theorem miss1_noword (h : ¬ (t.kind < 1 ∨ 10 < t.kind ∨ ¬ v.kind = t.kind)) (hf : formedV v = true) (hk : t.kind = 4) (hw : 0 < t.words.length) (ha : (t.words.any fun x => decide (x = v.text)) = false) : miss1 R t v p = [.mk p 4] := by
 unfold miss1; rw [if_neg h, if_neg (by rw [hf]; simp), if_neg (by omega), if_neg (by omega), if_pos (.inl hk), if_pos ⟨hk, hw⟩, if_neg (by rw [ha]; simp)]
theorem miss1_text (h : ¬ (t.kind < 1 ∨ 10 < t.kind ∨ ¬ v.kind = t.kind)) (hf : formedV v = true) (hk : t.kind = 4 ∨ t.kind = 5) (hw : t.kind = 4 → t.words.length = 0) : miss1 R t v p = outM t.min t.max p v.text.length := by
 unfold miss1; rw [if_neg h, if_neg (by rw [hf]; simp), if_neg (by omega), if_neg (by omega), if_pos hk, if_neg (by intro hh; have := hw hh.1; omega)]
theorem miss1_list (h : ¬ (t.kind < 1 ∨ 10 < t.kind ∨ ¬ v.kind = t.kind)) (hf : formedV v = true) (hk : t.kind = 8) : miss1 R t v p = outM t.min t.max p v.lst.length ++ ixM (elemM R t.elem p) v.lst := by
 unfold miss1; rw [if_neg h, if_neg (by rw [hf]; simp), if_neg (by omega), if_neg (by omega), if_neg (by omega), if_pos hk]
theorem miss1_rec (h : ¬ (t.kind < 1 ∨ 10 < t.kind ∨ ¬ v.kind = t.kind)) (hf : formedV v = true) (hk : t.kind = 9) : miss1 R t v p = recM R t v p := by
 unfold miss1; rw [if_neg h, if_neg (by rw [hf]; simp), if_neg (by omega), if_neg (by omega), if_neg (by omega), if_neg (by omega), if_pos hk]
theorem miss1_var (h : ¬ (t.kind < 1 ∨ 10 < t.kind ∨ ¬ v.kind = t.kind)) (hf : formedV v = true) (hk : t.kind = 10) : miss1 R t v p = varM R t v p := by
 unfold miss1; rw [if_neg h, if_neg (by rw [hf]; simp), if_neg (by omega), if_neg (by omega), if_neg (by omega), if_neg (by omega), if_neg (by omega), if_pos hk]
theorem miss1_none (h : ¬ (t.kind < 1 ∨ 10 < t.kind ∨ ¬ v.kind = t.kind)) (hf : formedV v = true) (hk : t.kind = 1) : miss1 R t v p = [] := by
 unfold miss1; rw [if_neg h, if_neg (by rw [hf]; simp), if_neg (by omega), if_neg (by omega), if_neg (by omega), if_neg (by omega), if_neg (by omega), if_neg (by omega)]
theorem varM_some {c : TFd} (h : t.fields.find? (named v.text) = some c) : varM R t v p = R c.typ (v.lst.headD zeroV) (p ++ (63 :: v.text)) := by
 unfold varM; rw [h]
theorem varM_none (h : t.fields.find? (named v.text) = none) : varM R t v p = [.mk p 7] := by
 unfold varM; rw [h]
theorem elemM_one {e : List Typ} {y : Typ} {x : Val} {i : Nat} (h : e = [y]) : elemM R e p x i = R y x (atT p i) := by subst h; rfl
theorem elemM_bad {e : List Typ} {x : Val} {i : Nat} (h : ¬ e.length = 1) : elemM R e p x i = [.mk (atT p i) 1] := by
 match e, h with
 | [], _ => rfl
 | [_], h => exact absurd rfl h
 | _ :: _ :: _, _ => rfl
end
theorem atT_len (p : List UInt8) (i : Nat) : (atT p i).length ≤ p.length + 23 := by
 have := itoaT_len i
 unfold atT
 simp only [List.length_append, List.length_cons, List.length_nil]; omega
theorem missN_succ (n : Nat) (t : Typ) (v : Val) (p : List UInt8) : missN (n + 1) t v p = miss1 (missN n) t v p := rfl
end Go.Proofs.YtbaaokocnegdoaaGreatDoor
set_option maxRecDepth 100000
set_option linter.unusedVariables false
set_option linter.unusedSimpArgs false
namespace Go.Proofs.YtbaaokocnegdoaaGreatDoor
open Go Go.Ab
attribute [local irreducible] vc
theorem formed10 {v : Val} (hk : v.kind = 10) (hf : formedV v = true) : v.lst.length = 1 := by
 obtain ⟨vk, vi, vs, vt, vl, vf⟩ := v
 simp only [Val.kind, Val.lst] at *
 subst hk
 simp [formedV] at hf
 omega
end Go.Proofs.YtbaaokocnegdoaaGreatDoor
