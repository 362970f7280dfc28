/- A part of the proof for FitMisfitsCardSaid. -/
import Derived.Test.YtikmckfppnmlnaaDoorMisYJ
set_option maxRecDepth 100000
set_option linter.unusedVariables false
set_option linter.unusedSimpArgs false
namespace Go.Proofs.YtikmckfppnmlnaaDoor
open Go Go.Ab
open Nat (reduceEqDiff reduceAdd reduceMul reduceLeDiff reduceLT reduceSub)
attribute [local irreducible] vc

/-- What is made of the elements of a list, with their numbers, one behind the other. -/
def ixM {α β : Type} (F : α → Nat → List β) (l : List α) : List β := l.zipIdx.flatMap fun q => F q.1 q.2
theorem ixM_nil {α β : Type} (F : α → Nat → List β) : ixM F [] = [] := _root_.id rfl
theorem ixM_snoc {α β : Type} (F : α → Nat → List β) {l : List α} {m : Nat} {x : α} (h : l[m]? = some x) : ixM F (l.take (m + 1)) = ixM F (l.take m) ++ F x m := by
  have hm : m < l.length := (List.getElem?_eq_some_iff.1 h).1
  have hl : (l.take m).length = m := by rw [List.length_take]; omega
  rw [take_snoc h]
  simp [ixM, List.zipIdx_append, List.flatMap_append, hl]
theorem flat_snoc {α β : Type} (F : α → List β) {l : List α} {m : Nat} {x : α} (h : l[m]? = some x) : (l.take (m + 1)).flatMap F = (l.take m).flatMap F ++ F x := by
  rw [take_snoc h]; simp
def atT (p : List UInt8) (i : Nat) : List UInt8 := p ++ (91 :: (itoaT i ++ [93]))
def elemM (R : Typ → Val → List UInt8 → List Mis) (e : List Typ) (p : List UInt8) (x : Val) (i : Nat) : List Mis :=
  match e with
  | [t] => R t x (atT p i)
  | _ => [.mk (atT p i) 1]
def fieldM (R : Typ → Val → List UInt8 → List Mis) (fs : List Fld) (p : List UInt8) (x : TFd) : List Mis :=
  match fs.find? (namedF x.name) with
  | some y => R x.typ y.value (underT p x.name)
  | none => if x.need = 2 then [] else [.mk (underT p x.name) 5]
def otherM (ts : List TFd) (p : List UInt8) (x : Fld) : List Mis := if (ts.find? (named x.name)).isSome = true then [] else [.mk (underT p x.name) 6]
theorem fieldM_some {R : Typ → Val → List UInt8 → List Mis} {fs : List Fld} {p : List UInt8} {x : TFd} {y : Fld} (h : fs.find? (namedF x.name) = some y) : fieldM R fs p x = R x.typ y.value (underT p x.name) := by
  unfold fieldM; rw [h]
theorem fieldM_opt {R : Typ → Val → List UInt8 → List Mis} {fs : List Fld} {p : List UInt8} {x : TFd} (h : fs.find? (namedF x.name) = none) (hn : x.need = 2) : fieldM R fs p x = [] := by
  unfold fieldM; rw [h]; exact if_pos hn
theorem fieldM_need {R : Typ → Val → List UInt8 → List Mis} {fs : List Fld} {p : List UInt8} {x : TFd} (h : fs.find? (namedF x.name) = none) (hn : ¬ x.need = 2) : fieldM R fs p x = [.mk (underT p x.name) 5] := by
  unfold fieldM; rw [h]; exact if_neg hn
theorem otherM_some {ts : List TFd} {p : List UInt8} {x : Fld} {z : TFd} (h : ts.find? (named x.name) = some z) : otherM ts p x = [] := by
  unfold otherM; rw [h]; exact if_pos rfl
theorem otherM_none {ts : List TFd} {p : List UInt8} {x : Fld} (h : ts.find? (named x.name) = none) : otherM ts p x = [.mk (underT p x.name) 6] := by
  unfold otherM; rw [h]; exact if_neg (by simp)
def recM (R : Typ → Val → List UInt8 → List Mis) (t : Typ) (v : Val) (p : List UInt8) : List Mis := t.fields.flatMap (fieldM R v.fields p) ++ v.fields.flatMap (otherM t.fields p)
def varM (R : Typ → Val → List UInt8 → List Mis) (t : Typ) (v : Val) (p : List UInt8) : List Mis :=
  match t.fields.find? (named v.text) with
  | some c => R c.typ (v.lst.headD zeroV) (p ++ (63 :: v.text))
  | none => [.mk p 7]
def miss1 (R : Typ → Val → List UInt8 → List Mis) (t : Typ) (v : Val) (p : List UInt8) : List Mis :=
  if t.kind < 1 ∨ 10 < t.kind ∨ ¬ v.kind = t.kind then [.mk p 1]
  else if formedV v = false then [.mk p 8]
  else if t.kind = 2 ∨ t.kind = 6 ∨ t.kind = 7 then outM t.min t.max p v.num
  else if t.kind = 3 then (if v.scale = t.scale then outM t.min t.max p v.num else [.mk p 3])
  else if t.kind = 4 ∨ t.kind = 5 then (if t.kind = 4 ∧ 0 < t.words.length then (if (t.words.any fun x => decide (x = v.text)) = true then [] else [.mk p 4]) else outM t.min t.max p v.text.length)
  else if t.kind = 8 then outM t.min t.max p v.lst.length ++ ixM (elemM R t.elem p) v.lst
  else if t.kind = 9 then recM R t v p
  else if t.kind = 10 then varM R t v p
  else []
/-- The misfits of a value of so many levels. -/
def missN : Nat → Typ → Val → List UInt8 → List Mis
  | 0 => fun _ _ _ => []
  | n + 1 => miss1 (missN n)
/-- So many levels at most; sizes. -/
def dep : Nat → Val → Prop
  | 0, _ => False
  | n + 1, v => v.lst.length ≤ 300 ∧ v.fields.length ≤ 300 ∧ v.text.length ≤ 100 ∧ (∀ x ∈ v.lst, dep n x) ∧ ∀ f ∈ v.fields, f.name.length ≤ 100 ∧ dep n f.value
def tyOk : Nat → Typ → Prop
  | 0, _ => True
  | n + 1, t => t.fields.length ≤ 300 ∧ t.words.length ≤ 300 ∧ (∀ e ∈ t.elem, tyOk n e) ∧ ∀ f ∈ t.fields, f.name.length ≤ 100 ∧ tyOk n f.typ
def invM (d : Bool) (l : List Mis) : Prop := l.length ≤ 64 ∧ (d = false → l.length < 64)
theorem invM_step {d : Bool} {l : List Mis} (h : invM d l) (m : Mis) : invM (stepM d l m).1 (stepM d l m).2 := by
  cases d with
  | true => exact h
  | false =>
    have := h.2 rfl
    refine ⟨by simp [stepM]; omega, fun hh => ?_⟩
    simp only [stepM, Bool.not_eq_false', decide_eq_true_eq] at hh
    simp [stepM]; omega
theorem invM_add : ∀ (a : List Mis) {d : Bool} {l : List Mis}, invM d l → invM (addM d l a).1 (addM d l a).2
  | [], d, l, h => h
  | m :: r, d, l, h => invM_add r (invM_step h m)
def FindM (n : Nat) : Prop := ∀ (t : Typ) (v : Val) (p : List UInt8) (d : Bool) (l : List Mis) (R : Bool × List Mis), dep n v → tyOk n t → v.ok → p.length + 200 * n ≤ 100000 → invM d l → R = addM d l (missN n t v p) →
  Lent Tryd.prog tabG 2 56 [.ptr 0 0, .pv t.pv, .pv v.pv, .pv (.str p)] (blkM d l) (.pv (.tup [])) (blkM R.1 R.2)
theorem underT_len (p n : List UInt8) : (underT p n).length ≤ p.length + n.length + 1 := by
  unfold underT; split
  · omega
  · simp only [List.length_append, List.length_cons]; omega

set_option maxHeartbeats 4000000 in
theorem record88M (n : Nat) (ih : FindM n) (t : Typ) (v : Val) (p : List UInt8) (d : Bool) (l : List Mis) (R : Bool × List Mis) (hd : dep (n + 1) v) (ht : tyOk (n + 1) t) (hv : v.ok) (hk : v.kind = 9) (hp : p.length + 200 * (n + 1) ≤ 100000) (hi : invM d l) (hR : R = addM d l (recM (missN n) t v p)) :
    Lent Tryd.prog tabG 2 88 [.ptr 0 0, .pv t.pv, .pv v.pv, .pv (.str p)] (blkM d l) (.pv (.tup [])) (blkM R.1 R.2) := by
  have h113 := fun name => field113 v name hv hk
  have h89 := fun name => typeField89 t name
  obtain ⟨k, m, M, s, w, e, fs⟩ := t
  obtain ⟨vk, vi, vs, vt, vl, vf⟩ := v
  simp only [dep, tyOk, Val.lst, Val.fields, Val.text, Typ.fields, Typ.words, Typ.elem, recM] at hd ht hR h113 h89
  obtain ⟨d1, d2, d3, d4, d5⟩ := hd
  obtain ⟨t1, t2, t3, t4⟩ := ht
  rw [Val.ok_mk] at hv
  refine Lent.intro F88_ok (by simp [F88]) ?_
  rw [Typ.pv_mk, Val.pv_mk] at *
  generalize hF1 : fieldM (missN n) vf p = F1 at hR
  generalize hF2 : otherM fs p = F2 at hR
  simp (maxSteps := 1000000) (disch := first | exact dI | fail) only [F88o0, F88o1, F88o2, F88o3, F88o4, F88o5, F88o6, F88p6, F88o7, F88o8, F88o9, F88b10, F88o11, F88o12, F88o13, F88o14, F88o15, F88o16, F88o17, F88b18, F88c, F88, blkM, push_cast, ↓reduceIte, reduceEqDiff, reduceAdd, reduceMul, reduceLeDiff, reduceLT, Nat.reduceBEq, reduceSub, Int.reduceToNat, Int.reduceNeg]
  refine vc_over ([]) (fun i : Nat => [(19, .pv (.int .i64 (i : Int)))]) (fun i => [(0, .cells 120 true [.clo 55 [] [.ptr 1 0], .pv (.bool (addM d l ((fs.take i).flatMap F1)).1)]), (1, .cells 65 true [.olist 2 2 ((addM d l ((fs.take i).flatMap F1)).2.map Mis.pv)])]) (fun i => i ≤ fs.length) (fun i => fs.length - i) (0) ?_; intro e0 σ0 n0 h0; simp (maxSteps := 1000000) (disch := first | exact dI | fail) only [push_cast, ↓reduceIte, reduceEqDiff, reduceAdd, reduceMul, reduceLeDiff, reduceLT, Nat.reduceBEq, reduceSub, Int.reduceToNat, Int.reduceNeg] at h0; obtain ⟨rfl, rfl, rfl⟩ := h0; refine ⟨?_, ?_, ?_⟩
  · simp (maxSteps := 1000000) (disch := first | exact dI | fail) only [addM, List.flatMap_nil, push_cast, ↓reduceIte, reduceEqDiff, reduceAdd, reduceMul, reduceLeDiff, reduceLT, Nat.reduceBEq, reduceSub, Int.reduceToNat, Int.reduceNeg]
  · omega
  · intro i hi2
    by_cases hlt : i < fs.length
    · have hltI : (i : Int) < fs.length := by omega
      obtain ⟨x, hx⟩ : ∃ x, fs[i]? = some x := ⟨_, List.getElem?_eq_getElem hlt⟩
      have hsn := flat_snoc F1 hx
      have hinv := invM_add ((fs.take i).flatMap F1) hi
      have happ := addM_app ((fs.take i).flatMap F1) (F1 x) d l
      rw [← hsn] at happ
      generalize addM d l ((fs.take i).flatMap F1) = S at *
      obtain ⟨Sd, Sl⟩ := S
      simp only at hinv happ
      obtain ⟨hxn, hxt⟩ := t4 x (List.mem_of_getElem? hx)
      have hF1x : F1 x = fieldM (missN n) vf p x := by rw [hF1]
      obtain ⟨x1, x2, x3, ⟨y1, y2, y3, y4, y5, y6, y7⟩, x5⟩ := x
      simp only [TFd.name, TFd.typ] at hxn hxt
      have hc := h113 x2 (by omega)
      have hul := underT_len p x2
      have hu := under114 p x2 (by omega) (by omega)
      cases hfd : vf.find? (namedF x2) with
      | some y =>
        rw [hfd] at hc
        rw [fieldM_some (by exact hfd)] at hF1x
        have hym := List.mem_of_find?_eq_some hfd
        have hyd := (d5 y hym).2
        have hyo := hv.2.2.2.2.2.2.2 y hym
        obtain ⟨yn, yv⟩ := y
        rw [Fld.ok_mk] at hyo
        simp only [Fld.value, TFd.typ, TFd.name] at hyd hF1x
        have hih := ih (.mk y1 y2 y3 y4 y5 y6 y7) yv (underT p x2) Sd Sl _ hyd hxt hyo.2 (by omega) hinv rfl
        rw [← hF1x, ← happ] at hih
        obtain ⟨z1, z2, z3, z4, z5, z6⟩ := yv
        simp only [vlR, Option.map_some, Option.getD_some, Option.isSome_some, Fld.value, Val.pv_mk] at hc
        simp only [blkM, Typ.pv_mk, Val.pv_mk] at hih
        simp (maxSteps := 1000000) (disch := first | exact dI | fail) only [hx, TFd.pv_mk, Typ.pv_mk, push_cast, ↓reduceIte, reduceEqDiff, reduceAdd, reduceMul, reduceLeDiff, reduceLT, Nat.reduceBEq, reduceSub, Int.reduceToNat, Int.reduceNeg]
        refine ACall.pure hc rfl ?_
        simp (maxSteps := 1000000) (disch := first | exact dI | fail) only [TFd.pv_mk, Typ.pv_mk, push_cast, ↓reduceIte, reduceEqDiff, reduceAdd, reduceMul, reduceLeDiff, reduceLT, Nat.reduceBEq, reduceSub, Int.reduceToNat, Int.reduceNeg]
        refine callDL_pure hu rfl ?_
        simp (maxSteps := 1000000) (disch := first | exact dI | fail) only [push_cast, ↓reduceIte, reduceEqDiff, reduceAdd, reduceMul, reduceLeDiff, reduceLT, Nat.reduceBEq, reduceSub, Int.reduceToNat, Int.reduceNeg]
        refine ACall.lentK hih [0, 1, 2] rfl (by simp (maxSteps := 1000000) (disch := first | exact dI | fail) only [push_cast, ↓reduceIte, reduceEqDiff, reduceAdd, reduceMul, reduceLeDiff, reduceLT, Nat.reduceBEq, reduceSub, Int.reduceToNat, Int.reduceNeg]) (by simp (maxSteps := 1000000) (disch := first | exact dI | fail) only [push_cast, ↓reduceIte, reduceEqDiff, reduceAdd, reduceMul, reduceLeDiff, reduceLT, Nat.reduceBEq, reduceSub, Int.reduceToNat, Int.reduceNeg]) ?_
        simp (maxSteps := 1000000) (disch := first | exact dI | fail) only [push_cast, ↓reduceIte, reduceEqDiff, reduceAdd, reduceMul, reduceLeDiff, reduceLT, Nat.reduceBEq, reduceSub, Int.reduceToNat, Int.reduceNeg]
        exact ⟨i + 1, hd_z (by simp (maxSteps := 1000000) (disch := first | exact dI | fail) only [push_cast, ↓reduceIte, reduceEqDiff, reduceAdd, reduceMul, reduceLeDiff, reduceLT, Nat.reduceBEq, reduceSub, Int.reduceToNat, Int.reduceNeg]), by omega, by omega⟩
      | none =>
        rw [hfd] at hc
        simp only [vlR, Option.map_none, Option.getD_none, Option.isSome_none, zeroV, Val.pv_mk, List.map_nil] at hc
        by_cases hn : x3 = 2
        · rw [fieldM_opt (by exact hfd) (by exact hn)] at hF1x
          rw [hF1x, addM_nil] at happ
          simp (maxSteps := 1000000) (disch := first | exact dI | fail) only [hx, TFd.pv_mk, Typ.pv_mk, hn, push_cast, ↓reduceIte, reduceEqDiff, reduceAdd, reduceMul, reduceLeDiff, reduceLT, Nat.reduceBEq, reduceSub, Int.reduceToNat, Int.reduceNeg]
          refine ACall.pure hc rfl ?_
          simp (maxSteps := 1000000) (disch := first | exact dI | fail) only [TFd.pv_mk, Typ.pv_mk, push_cast, ↓reduceIte, reduceEqDiff, reduceAdd, reduceMul, reduceLeDiff, reduceLT, Nat.reduceBEq, reduceSub, Int.reduceToNat, Int.reduceNeg]
          exact ⟨i + 1, hd_z (by simp (maxSteps := 1000000) (disch := first | exact dI | fail) only [happ, push_cast, ↓reduceIte, reduceEqDiff, reduceAdd, reduceMul, reduceLeDiff, reduceLT, Nat.reduceBEq, reduceSub, Int.reduceToNat, Int.reduceNeg]), by omega, by omega⟩
        · rw [fieldM_need (by exact hfd) (by exact hn)] at hF1x
          simp only [TFd.name] at hF1x
          rw [hF1x, addM_one] at happ
          have h83 := add83M Sd Sl (underT p x2) 5 (by have := hinv.1; omega)
          rw [← happ] at h83
          simp only [blkM] at h83
          simp (maxSteps := 1000000) (disch := first | exact dI | fail) only [hx, TFd.pv_mk, Typ.pv_mk, push_cast, ↓reduceIte, reduceEqDiff, reduceAdd, reduceMul, reduceLeDiff, reduceLT, Nat.reduceBEq, reduceSub, Int.reduceToNat, Int.reduceNeg]
          refine ACall.pure hc rfl ?_
          simp (maxSteps := 1000000) (disch := first | exact dI | fail) only [TFd.pv_mk, Typ.pv_mk, push_cast, ↓reduceIte, reduceEqDiff, reduceAdd, reduceMul, reduceLeDiff, reduceLT, Nat.reduceBEq, reduceSub, Int.reduceToNat, Int.reduceNeg]
          refine ACall.pure hu rfl ?_
          simp (maxSteps := 1000000) (disch := first | exact dI | fail) only [push_cast, ↓reduceIte, reduceEqDiff, reduceAdd, reduceMul, reduceLeDiff, reduceLT, Nat.reduceBEq, reduceSub, Int.reduceToNat, Int.reduceNeg]
          refine ACall.lentK h83 [0, 1, 2] rfl (by simp (maxSteps := 1000000) (disch := first | exact dI | fail) only [push_cast, ↓reduceIte, reduceEqDiff, reduceAdd, reduceMul, reduceLeDiff, reduceLT, Nat.reduceBEq, reduceSub, Int.reduceToNat, Int.reduceNeg]) (by simp (maxSteps := 1000000) (disch := first | exact dI | fail) only [push_cast, ↓reduceIte, reduceEqDiff, reduceAdd, reduceMul, reduceLeDiff, reduceLT, Nat.reduceBEq, reduceSub, Int.reduceToNat, Int.reduceNeg]) ?_
          simp (maxSteps := 1000000) (disch := first | exact dI | fail) only [push_cast, ↓reduceIte, reduceEqDiff, reduceAdd, reduceMul, reduceLeDiff, reduceLT, Nat.reduceBEq, reduceSub, Int.reduceToNat, Int.reduceNeg]
          exact ⟨i + 1, hd_z (by simp (maxSteps := 1000000) (disch := first | exact dI | fail) only [push_cast, ↓reduceIte, reduceEqDiff, reduceAdd, reduceMul, reduceLeDiff, reduceLT, Nat.reduceBEq, reduceSub, Int.reduceToNat, Int.reduceNeg]), by omega, by omega⟩
    · have hltI : ¬ (i : Int) < fs.length := by omega
      have hinv := invM_add (fs.flatMap F1) hi
      rw [addM_app] at hR
      rw [take_end hlt]
      generalize addM d l (fs.flatMap F1) = S at *
      obtain ⟨Sd, Sl⟩ := S
      simp only at hinv hR
      simp (maxSteps := 1000000) (disch := first | exact dI | fail) only [push_cast, ↓reduceIte, reduceEqDiff, reduceAdd, reduceMul, reduceLeDiff, reduceLT, Nat.reduceBEq, reduceSub, Int.reduceToNat, Int.reduceNeg]
      refine vc_over ([]) (fun i : Nat => [(53, .pv (.int .i64 (i : Int)))]) (fun i => [(0, .cells 120 true [.clo 55 [] [.ptr 1 0], .pv (.bool (addM Sd Sl ((vf.take i).flatMap F2)).1)]), (1, .cells 65 true [.olist 2 2 ((addM Sd Sl ((vf.take i).flatMap F2)).2.map Mis.pv)])]) (fun i => i ≤ vf.length) (fun i => vf.length - i) (0) ?_; intro e0 σ0 n0 h0; simp (maxSteps := 1000000) (disch := first | exact dI | fail) only [push_cast, ↓reduceIte, reduceEqDiff, reduceAdd, reduceMul, reduceLeDiff, reduceLT, Nat.reduceBEq, reduceSub, Int.reduceToNat, Int.reduceNeg] at h0; obtain ⟨rfl, rfl, rfl⟩ := h0; refine ⟨?_, ?_, ?_⟩
      · simp (maxSteps := 1000000) (disch := first | exact dI | fail) only [addM, List.flatMap_nil, push_cast, ↓reduceIte, reduceEqDiff, reduceAdd, reduceMul, reduceLeDiff, reduceLT, Nat.reduceBEq, reduceSub, Int.reduceToNat, Int.reduceNeg]
      · omega
      · intro i hi2
        by_cases hlt : i < vf.length
        · have hltI : (i : Int) < vf.length := by omega
          obtain ⟨x, hx⟩ : ∃ x, vf[i]? = some x := ⟨_, List.getElem?_eq_getElem hlt⟩
          have hsn := flat_snoc F2 hx
          have hinv2 := invM_add ((vf.take i).flatMap F2) hinv
          have happ := addM_app ((vf.take i).flatMap F2) (F2 x) Sd Sl
          rw [← hsn] at happ
          generalize addM Sd Sl ((vf.take i).flatMap F2) = T at *
          obtain ⟨Td, Tl⟩ := T
          simp only at hinv2 happ
          have hxn := (d5 x (List.mem_of_getElem? hx)).1
          have hF2x : F2 x = otherM fs p x := by rw [hF2]
          obtain ⟨x1, ⟨y1, y2, y3, y4, y5, y6⟩⟩ := x
          simp only [Fld.name] at hxn
          have hc := h89 x1 (by omega)
          have hul := underT_len p x1
          have hu := under114 p x1 (by omega) (by omega)
          cases hfd : fs.find? (named x1) with
          | some z =>
            rw [hfd] at hc
            rw [otherM_some (by exact hfd)] at hF2x
            rw [hF2x, addM_nil] at happ
            obtain ⟨z1, z2, z3, ⟨w1, w2, w3, w4, w5, w6, w7⟩, z5⟩ := z
            simp only [tfR, Option.getD_some, Option.isSome_some, TFd.pv_mk, Typ.pv_mk] at hc
            simp (maxSteps := 1000000) (disch := first | exact dI | fail) only [hx, Fld.pv_mk, Val.pv_mk, push_cast, ↓reduceIte, reduceEqDiff, reduceAdd, reduceMul, reduceLeDiff, reduceLT, Nat.reduceBEq, reduceSub, Int.reduceToNat, Int.reduceNeg]
            refine ACall.pure hc rfl ?_
            simp (maxSteps := 1000000) (disch := first | exact dI | fail) only [push_cast, ↓reduceIte, reduceEqDiff, reduceAdd, reduceMul, reduceLeDiff, reduceLT, Nat.reduceBEq, reduceSub, Int.reduceToNat, Int.reduceNeg]
            exact ⟨i + 1, hd_z (by simp (maxSteps := 1000000) (disch := first | exact dI | fail) only [happ, push_cast, ↓reduceIte, reduceEqDiff, reduceAdd, reduceMul, reduceLeDiff, reduceLT, Nat.reduceBEq, reduceSub, Int.reduceToNat, Int.reduceNeg]), by omega, by omega⟩
          | none =>
            rw [hfd] at hc
            rw [otherM_none (by exact hfd)] at hF2x
            simp only [Fld.name] at hF2x
            rw [hF2x, addM_one] at happ
            have h83 := add83M Td Tl (underT p x1) 6 (by have := hinv2.1; omega)
            rw [← happ] at h83
            simp only [blkM] at h83
            simp only [tfR, Option.getD_none, Option.isSome_none, zeroTF, TFd.pv_mk, Typ.pv_mk, List.map_nil] at hc
            simp (maxSteps := 1000000) (disch := first | exact dI | fail) only [hx, Fld.pv_mk, Val.pv_mk, push_cast, ↓reduceIte, reduceEqDiff, reduceAdd, reduceMul, reduceLeDiff, reduceLT, Nat.reduceBEq, reduceSub, Int.reduceToNat, Int.reduceNeg]
            refine ACall.pure hc rfl ?_
            simp (maxSteps := 1000000) (disch := first | exact dI | fail) only [push_cast, ↓reduceIte, reduceEqDiff, reduceAdd, reduceMul, reduceLeDiff, reduceLT, Nat.reduceBEq, reduceSub, Int.reduceToNat, Int.reduceNeg]
            refine ACall.pure hu rfl ?_
            simp (maxSteps := 1000000) (disch := first | exact dI | fail) only [push_cast, ↓reduceIte, reduceEqDiff, reduceAdd, reduceMul, reduceLeDiff, reduceLT, Nat.reduceBEq, reduceSub, Int.reduceToNat, Int.reduceNeg]
            refine ACall.lentK h83 [0, 1, 2] rfl (by simp (maxSteps := 1000000) (disch := first | exact dI | fail) only [push_cast, ↓reduceIte, reduceEqDiff, reduceAdd, reduceMul, reduceLeDiff, reduceLT, Nat.reduceBEq, reduceSub, Int.reduceToNat, Int.reduceNeg]) (by simp (maxSteps := 1000000) (disch := first | exact dI | fail) only [push_cast, ↓reduceIte, reduceEqDiff, reduceAdd, reduceMul, reduceLeDiff, reduceLT, Nat.reduceBEq, reduceSub, Int.reduceToNat, Int.reduceNeg]) ?_
            simp (maxSteps := 1000000) (disch := first | exact dI | fail) only [push_cast, ↓reduceIte, reduceEqDiff, reduceAdd, reduceMul, reduceLeDiff, reduceLT, Nat.reduceBEq, reduceSub, Int.reduceToNat, Int.reduceNeg]
            exact ⟨i + 1, hd_z (by simp (maxSteps := 1000000) (disch := first | exact dI | fail) only [push_cast, ↓reduceIte, reduceEqDiff, reduceAdd, reduceMul, reduceLeDiff, reduceLT, Nat.reduceBEq, reduceSub, Int.reduceToNat, Int.reduceNeg]), by omega, by omega⟩
        · have hltI : ¬ (i : Int) < vf.length := by omega
          rw [take_end hlt]
          rw [← hR]
          simp (maxSteps := 1000000) (disch := first | exact dI | fail) only [push_cast, ↓reduceIte, reduceEqDiff, reduceAdd, reduceMul, reduceLeDiff, reduceLT, Nat.reduceBEq, reduceSub, Int.reduceToNat, Int.reduceNeg]
          exact lent_z [] (by simp (maxSteps := 1000000) (disch := first | exact dI | fail) only [push_cast, ↓reduceIte, reduceEqDiff, reduceAdd, reduceMul, reduceLeDiff, reduceLT, Nat.reduceBEq, reduceSub, Int.reduceToNat, Int.reduceNeg])
end Go.Proofs.YtikmckfppnmlnaaDoor
