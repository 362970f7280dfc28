/- A part of the proof for FitBackCardSaid. -/
import Derived.Test.YtikmckfppnmlnaaDoorBakYM
set_option maxRecDepth 100000
set_option linter.unusedVariables false
set_option linter.unusedSimpArgs false
namespace Go.Proofs.YtikmckfppnmlnaaDoor
open Go Go.Ab
open Nat renaming reduceEqDiff → qa, reduceAdd → qb, reduceMul → qc, reduceLeDiff → qd, reduceLT → qe, reduceBEq → qf, reduceSub → qg
open Int renaming reduceToNat → qh, reduceNeg → qi
attribute [local irreducible] vc
def stepF : Bool → List Mis → Mis → Bool × List Mis
  | true, l, _ => (true, l)
  | false, l, m => (true, l ++ [m])
def addF : Bool → List Mis → List Mis → Bool × List Mis
  | d, l, [] => (d, l)
  | d, l, m :: r => addF (stepF d l m).1 (stepF d l m).2 r
def blkF (d : Bool) (l : List Mis) : List Blk := [.cells 120 true [.clo 63 [] [.ptr 1 0], .pv (.bool d)], .cells 4 true [.pv (.bool (!d))]]
theorem cloF (d : Bool) (m : Mis) : Lent Tryd.prog tabG 1 63 [.pv m.pv, .ptr 0 0] [.cells 4 true [.pv (.bool d)]] (.pv (.bool false)) [.cells 4 true [.pv (.bool false)]] := by
  obtain ⟨p, c⟩ := m
  refine Lent.intro F63_ok (by simp [F63]) ?_
  simp (disch := first | exact dI | fail) only [F63o0, F63o1, F63o2, F63c, F63, Mis.pv_mk, push_cast, ↓reduceIte, qa, qb, qc, qd, qe, qf, qg, qh, qi]
  exact lent_z [] (by simp (disch := first | exact dI | fail) only [push_cast, ↓reduceIte, qa, qb, qc, qd, qe, qf, qg, qh, qi])
theorem add83F (d : Bool) (l : List Mis) (p : List UInt8) (c : Int) (hl : l.length ≤ 100000) : Lent Tryd.prog tabG 2 83 [.ptr 0 0, .pv (.str p), .pv (.int .i64 c)] (blkF d l) (.pv (.tup [])) (blkF (stepF d l (.mk p c)).1 (stepF d l (.mk p c)).2) := by
  have h63 := cloF true (.mk p c)
  rw [Mis.pv_mk] at h63
  refine Lent.intro F83_ok (by simp [F83]) ?_
  cases d with
  | true =>
    rw [stepF]
    simp (disch := first | exact dI | fail) only [F83o0, F83o1, F83c, F83, blkF, push_cast, ↓reduceIte, qa, qb, qc, qd, qe, qf, qg, qh, qi]
    exact lent_z [] (by simp (disch := first | exact dI | fail) only [push_cast, ↓reduceIte, qa, qb, qc, qd, qe, qf, qg, qh, qi])
  | false =>
    rw [stepF]
    simp (disch := first | exact dI | fail) only [F83o0, F83o1, F83c, F83, blkF, push_cast, ↓reduceIte, qa, qb, qc, qd, qe, qf, qg, qh, qi]
    refine ACall.lentK h63 [1] rfl (by simp (disch := first | exact dI | fail) only [push_cast, ↓reduceIte, qa, qb, qc, qd, qe, qf, qg, qh, qi]) (by simp (disch := first | exact dI | fail) only [push_cast, ↓reduceIte, qa, qb, qc, qd, qe, qf, qg, qh, qi]) ?_
    simp (disch := first | exact dI | fail) only [push_cast, ↓reduceIte, qa, qb, qc, qd, qe, qf, qg, qh, qi]
    exact lent_z [] (by simp (disch := first | exact dI | fail) only [push_cast, ↓reduceIte, qa, qb, qc, qd, qe, qf, qg, qh, qi])
theorem addF_one (d : Bool) (l : List Mis) (m : Mis) : addF d l [m] = stepF d l m := rfl
theorem addF_nil (d : Bool) (l : List Mis) : addF d l [] = (d, l) := rfl
theorem addF_app : ∀ (a b : List Mis) (d : Bool) (l : List Mis), addF d l (a ++ b) = addF (addF d l a).1 (addF d l a).2 b
  | [], b, d, l => rfl
  | m :: r, b, d, l => by rw [List.cons_append, addF, addF_app r b, addF]
theorem addF_true : ∀ (a : List Mis) (l : List Mis), addF true l a = (true, l)
  | [], l => rfl
  | m :: r, l => by rw [addF, stepF]; exact addF_true r l
theorem out85F (d : Bool) (l : List Mis) (t : Typ) (p : List UInt8) (n : Int) (hl : l.length ≤ 100000) (R : Bool × List Mis) (hR : R = addF d l (outM t.min t.max p n)) :
    Lent Tryd.prog tabG 2 85 [.ptr 0 0, .pv t.pv, .pv (.str p), .pv (.int .i64 n)] (blkF d l) (.pv (.tup [])) (blkF R.1 R.2) := by
  have h83 := add83F d l p 2 hl
  obtain ⟨k, m, M, s, w, e, f⟩ := t
  simp only [Typ.min, Typ.max] at hR
  refine Lent.intro F85_ok (by simp [F85]) ?_
  unfold blkF at h83 ⊢
  by_cases h1 : n < m
  · rw [outM_t (.inl h1), addF_one] at hR
    rw [← hR] at h83
    simp (disch := first | exact dI | fail) only [F85o0, F85o1, F85o2, F85c, F85, Typ.pv_mk, push_cast, ↓reduceIte, qa, qb, qc, qd, qe, qf, qg, qh, qi]
    refine ACall.lentK h83 [0, 1] rfl (by simp (disch := first | exact dI | fail) only [push_cast, ↓reduceIte, qa, qb, qc, qd, qe, qf, qg, qh, qi]) (by simp (disch := first | exact dI | fail) only [push_cast, ↓reduceIte, qa, qb, qc, qd, qe, qf, qg, qh, qi]) ?_
    simp (disch := first | exact dI | fail) only [push_cast, ↓reduceIte, qa, qb, qc, qd, qe, qf, qg, qh, qi]
    exact lent_z [] (by simp (disch := first | exact dI | fail) only [push_cast, ↓reduceIte, qa, qb, qc, qd, qe, qf, qg, qh, qi])
  · by_cases h2 : M < n
    · rw [outM_t (.inr h2), addF_one] at hR
      rw [← hR] at h83
      simp (disch := first | exact dI | fail) only [F85o0, F85o1, F85o2, F85c, F85, Typ.pv_mk, push_cast, ↓reduceIte, qa, qb, qc, qd, qe, qf, qg, qh, qi]
      refine ACall.lentK h83 [0, 1] rfl (by simp (disch := first | exact dI | fail) only [push_cast, ↓reduceIte, qa, qb, qc, qd, qe, qf, qg, qh, qi]) (by simp (disch := first | exact dI | fail) only [push_cast, ↓reduceIte, qa, qb, qc, qd, qe, qf, qg, qh, qi]) ?_
      simp (disch := first | exact dI | fail) only [push_cast, ↓reduceIte, qa, qb, qc, qd, qe, qf, qg, qh, qi]
      exact lent_z [] (by simp (disch := first | exact dI | fail) only [push_cast, ↓reduceIte, qa, qb, qc, qd, qe, qf, qg, qh, qi])
    · rw [outM_f (fun h => h.elim h1 h2), addF_nil] at hR
      subst hR
      simp (disch := first | exact dI | fail) only [F85o0, F85o1, F85o2, F85c, F85, Typ.pv_mk, push_cast, ↓reduceIte, qa, qb, qc, qd, qe, qf, qg, qh, qi]
      exact lent_z [] (by simp (disch := first | exact dI | fail) only [push_cast, ↓reduceIte, qa, qb, qc, qd, qe, qf, qg, qh, qi])
theorem invF_stepD {d : Bool} {l : List Mis} (h : invM d l) (m : Mis) : invM (stepF d l m).1 (stepF d l m).2 := by
  cases d with
  | true => exact h
  | false =>
    have := h.2 rfl
    exact ⟨by simp [stepF]; omega, fun hh => by simp [stepF] at hh⟩
def invF := invM
theorem invF_add : ∀ (a : List Mis) {d : Bool} {l : List Mis}, invF d l → invF (addF d l a).1 (addF d l a).2
  | [], d, l, h => h
  | m :: r, d, l, h => invF_add r (invF_stepD h m)
def FindF (n : Nat) : Prop := ∀ (t : Typ) (v : Val) (p : List UInt8) (d : Bool) (l : List Mis) (R : Bool × List Mis), dep n v → tyOk n t → v.ok → p.length + 200 * n ≤ 100000 → invF d l → R = addF d l (missN n t v p) →
  Lent Tryd.prog tabG 2 56 [.ptr 0 0, .pv t.pv, .pv v.pv, .pv (.str p)] (blkF d l) (.pv (.tup [])) (blkF R.1 R.2)
theorem record88F (n : Nat) (ih : FindF n) (t : Typ) (v : Val) (p : List UInt8) (d : Bool) (l : List Mis) (R : Bool × List Mis) (hd : dep (n + 1) v) (ht : tyOk (n + 1) t) (hv : v.ok) (hk : v.kind = 9) (hp : p.length + 200 * (n + 1) ≤ 100000) (hi : invF d l) (hR : R = addF d l (recM (missN n) t v p)) :
    Lent Tryd.prog tabG 2 88 [.ptr 0 0, .pv t.pv, .pv v.pv, .pv (.str p)] (blkF d l) (.pv (.tup [])) (blkF R.1 R.2) := by
  have h113 := fun name => field113 v name hv hk
  have h89 := fun name => typeField89 t name
  obtain ⟨k, m, M, s, w, e, fs⟩ := t
  obtain ⟨vk, vi, vs, vt, vl, vf⟩ := v
  simp only [dep, tyOk, Val.lst, Val.fields, Val.text, Typ.fields, Typ.words, Typ.elem, recM] at hd ht hR h113 h89
  obtain ⟨d1, d2, d3, d4, d5⟩ := hd
  obtain ⟨t1, t2, t3, t4⟩ := ht
  rw [Val.ok_mk] at hv
  refine Lent.intro F88_ok (by simp [F88]) ?_
  rw [Typ.pv_mk, Val.pv_mk] at *
  generalize hF1 : fieldM (missN n) vf p = F1 at hR
  generalize hF2 : otherM fs p = F2 at hR
  simp (disch := first | exact dI | fail) only [F88o0, F88o1, F88o2, F88o3, F88o4, F88o5, F88o6, F88p6, F88o7, F88o8, F88o9, F88b10, F88o11, F88o12, F88o13, F88o14, F88o15, F88o16, F88o17, F88b18, F88c, F88, blkF, push_cast, ↓reduceIte, qa, qb, qc, qd, qe, qf, qg, qh, qi]
  refine vc_over ([]) (fun i : Nat => [(19, .pv (.int .i64 (i : Int)))]) (fun i => [(0, .cells 120 true [.clo 63 [] [.ptr 1 0], .pv (.bool (addF d l ((fs.take i).flatMap F1)).1)]), (1, .cells 4 true [.pv (.bool (!(addF d l ((fs.take i).flatMap F1)).1))])]) (fun i => i ≤ fs.length) (fun i => fs.length - i) (0) ?_; intro e0 σ0 n0 h0; simp (disch := first | exact dI | fail) only [push_cast, ↓reduceIte, qa, qb, qc, qd, qe, qf, qg, qh, qi] at h0; obtain ⟨rfl, rfl, rfl⟩ := h0; refine ⟨?_, ?_, ?_⟩
  · simp (disch := first | exact dI | fail) only [addF, List.flatMap_nil, push_cast, ↓reduceIte, qa, qb, qc, qd, qe, qf, qg, qh, qi]
  · omega
  · intro i hi2
    by_cases hlt : i < fs.length
    · have hltI : (i : Int) < fs.length := by omega
      obtain ⟨x, hx⟩ : ∃ x, fs[i]? = some x := ⟨_, List.getElem?_eq_getElem hlt⟩
      have hsn := flat_snoc F1 hx
      have hinv := invF_add ((fs.take i).flatMap F1) hi
      have happ := addF_app ((fs.take i).flatMap F1) (F1 x) d l
      rw [← hsn] at happ
      generalize addF d l ((fs.take i).flatMap F1) = S at *
      obtain ⟨Sd, Sl⟩ := S
      simp only at hinv happ
      obtain ⟨hxn, hxt⟩ := t4 x (List.mem_of_getElem? hx)
      have hF1x : F1 x = fieldM (missN n) vf p x := by rw [hF1]
      obtain ⟨x1, x2, x3, ⟨y1, y2, y3, y4, y5, y6, y7⟩, x5⟩ := x
      simp only [TFd.name, TFd.typ] at hxn hxt
      have hc := h113 x2 (by omega)
      have hul := underT_len p x2
      have hu := under114 p x2 (by omega) (by omega)
      cases hfd : vf.find? (namedF x2) with
      | some y =>
        rw [hfd] at hc
        rw [fieldM_some (by exact hfd)] at hF1x
        have hym := List.mem_of_find?_eq_some hfd
        have hyd := (d5 y hym).2
        have hyo := hv.2.2.2.2.2.2.2 y hym
        obtain ⟨yn, yv⟩ := y
        rw [Fld.ok_mk] at hyo
        simp only [Fld.value, TFd.typ, TFd.name] at hyd hF1x
        have hih := ih (.mk y1 y2 y3 y4 y5 y6 y7) yv (underT p x2) Sd Sl _ hyd hxt hyo.2 (by omega) hinv rfl
        rw [← hF1x, ← happ] at hih
        obtain ⟨z1, z2, z3, z4, z5, z6⟩ := yv
        simp only [vlR, Option.map_some, Option.getD_some, Option.isSome_some, Fld.value, Val.pv_mk] at hc
        simp only [blkF, Typ.pv_mk, Val.pv_mk] at hih
        simp (disch := first | exact dI | fail) only [hx, TFd.pv_mk, Typ.pv_mk, push_cast, ↓reduceIte, qa, qb, qc, qd, qe, qf, qg, qh, qi]
        refine ACall.pure hc rfl ?_
        simp (disch := first | exact dI | fail) only [TFd.pv_mk, Typ.pv_mk, push_cast, ↓reduceIte, qa, qb, qc, qd, qe, qf, qg, qh, qi]
        refine callDL_pure hu rfl ?_
        simp (disch := first | exact dI | fail) only [push_cast, ↓reduceIte, qa, qb, qc, qd, qe, qf, qg, qh, qi]
        refine ACall.lentK hih [0, 1] rfl (by simp (disch := first | exact dI | fail) only [push_cast, ↓reduceIte, qa, qb, qc, qd, qe, qf, qg, qh, qi]) (by simp (disch := first | exact dI | fail) only [push_cast, ↓reduceIte, qa, qb, qc, qd, qe, qf, qg, qh, qi]) ?_
        simp (disch := first | exact dI | fail) only [push_cast, ↓reduceIte, qa, qb, qc, qd, qe, qf, qg, qh, qi]
        exact ⟨i + 1, hd_z (by simp (disch := first | exact dI | fail) only [push_cast, ↓reduceIte, qa, qb, qc, qd, qe, qf, qg, qh, qi]), by omega, by omega⟩
      | none =>
        rw [hfd] at hc
        simp only [vlR, Option.map_none, Option.getD_none, Option.isSome_none, zeroV, Val.pv_mk, List.map_nil] at hc
        by_cases hn : x3 = 2
        · rw [fieldM_opt (by exact hfd) (by exact hn)] at hF1x
          rw [hF1x, addF_nil] at happ
          simp (disch := first | exact dI | fail) only [hx, TFd.pv_mk, Typ.pv_mk, hn, push_cast, ↓reduceIte, qa, qb, qc, qd, qe, qf, qg, qh, qi]
          refine ACall.pure hc rfl ?_
          simp (disch := first | exact dI | fail) only [TFd.pv_mk, Typ.pv_mk, push_cast, ↓reduceIte, qa, qb, qc, qd, qe, qf, qg, qh, qi]
          exact ⟨i + 1, hd_z (by simp (disch := first | exact dI | fail) only [happ, push_cast, ↓reduceIte, qa, qb, qc, qd, qe, qf, qg, qh, qi]), by omega, by omega⟩
        · rw [fieldM_need (by exact hfd) (by exact hn)] at hF1x
          simp only [TFd.name] at hF1x
          rw [hF1x, addF_one] at happ
          have h83 := add83F Sd Sl (underT p x2) 5 (by have := hinv.1; omega)
          rw [← happ] at h83
          simp only [blkF] at h83
          simp (disch := first | exact dI | fail) only [hx, TFd.pv_mk, Typ.pv_mk, push_cast, ↓reduceIte, qa, qb, qc, qd, qe, qf, qg, qh, qi]
          refine ACall.pure hc rfl ?_
          simp (disch := first | exact dI | fail) only [TFd.pv_mk, Typ.pv_mk, push_cast, ↓reduceIte, qa, qb, qc, qd, qe, qf, qg, qh, qi]
          refine ACall.pure hu rfl ?_
          simp (disch := first | exact dI | fail) only [push_cast, ↓reduceIte, qa, qb, qc, qd, qe, qf, qg, qh, qi]
          refine ACall.lentK h83 [0, 1] rfl (by simp (disch := first | exact dI | fail) only [push_cast, ↓reduceIte, qa, qb, qc, qd, qe, qf, qg, qh, qi]) (by simp (disch := first | exact dI | fail) only [push_cast, ↓reduceIte, qa, qb, qc, qd, qe, qf, qg, qh, qi]) ?_
          simp (disch := first | exact dI | fail) only [push_cast, ↓reduceIte, qa, qb, qc, qd, qe, qf, qg, qh, qi]
          exact ⟨i + 1, hd_z (by simp (disch := first | exact dI | fail) only [push_cast, ↓reduceIte, qa, qb, qc, qd, qe, qf, qg, qh, qi]), by omega, by omega⟩
    · have hltI : ¬ (i : Int) < fs.length := by omega
      have hinv := invF_add (fs.flatMap F1) hi
      rw [addF_app] at hR
      rw [take_end hlt]
      generalize addF d l (fs.flatMap F1) = S at *
      obtain ⟨Sd, Sl⟩ := S
      simp only at hinv hR
      simp (disch := first | exact dI | fail) only [push_cast, ↓reduceIte, qa, qb, qc, qd, qe, qf, qg, qh, qi]
      refine vc_over ([]) (fun i : Nat => [(53, .pv (.int .i64 (i : Int)))]) (fun i => [(0, .cells 120 true [.clo 63 [] [.ptr 1 0], .pv (.bool (addF Sd Sl ((vf.take i).flatMap F2)).1)]), (1, .cells 4 true [.pv (.bool (!(addF Sd Sl ((vf.take i).flatMap F2)).1))])]) (fun i => i ≤ vf.length) (fun i => vf.length - i) (0) ?_; intro e0 σ0 n0 h0; simp (disch := first | exact dI | fail) only [push_cast, ↓reduceIte, qa, qb, qc, qd, qe, qf, qg, qh, qi] at h0; obtain ⟨rfl, rfl, rfl⟩ := h0; refine ⟨?_, ?_, ?_⟩
      · simp (disch := first | exact dI | fail) only [addF, List.flatMap_nil, push_cast, ↓reduceIte, qa, qb, qc, qd, qe, qf, qg, qh, qi]
      · omega
      · intro i hi2
        by_cases hlt : i < vf.length
        · have hltI : (i : Int) < vf.length := by omega
          obtain ⟨x, hx⟩ : ∃ x, vf[i]? = some x := ⟨_, List.getElem?_eq_getElem hlt⟩
          have hsn := flat_snoc F2 hx
          have hinv2 := invF_add ((vf.take i).flatMap F2) hinv
          have happ := addF_app ((vf.take i).flatMap F2) (F2 x) Sd Sl
          rw [← hsn] at happ
          generalize addF Sd Sl ((vf.take i).flatMap F2) = T at *
          obtain ⟨Td, Tl⟩ := T
          simp only at hinv2 happ
          have hxn := (d5 x (List.mem_of_getElem? hx)).1
          have hF2x : F2 x = otherM fs p x := by rw [hF2]
          obtain ⟨x1, ⟨y1, y2, y3, y4, y5, y6⟩⟩ := x
          simp only [Fld.name] at hxn
          have hc := h89 x1 (by omega)
          have hul := underT_len p x1
          have hu := under114 p x1 (by omega) (by omega)
          cases hfd : fs.find? (named x1) with
          | some z =>
            rw [hfd] at hc
            rw [otherM_some (by exact hfd)] at hF2x
            rw [hF2x, addF_nil] at happ
            obtain ⟨z1, z2, z3, ⟨w1, w2, w3, w4, w5, w6, w7⟩, z5⟩ := z
            simp only [tfR, Option.getD_some, Option.isSome_some, TFd.pv_mk, Typ.pv_mk] at hc
            simp (disch := first | exact dI | fail) only [hx, Fld.pv_mk, Val.pv_mk, push_cast, ↓reduceIte, qa, qb, qc, qd, qe, qf, qg, qh, qi]
            refine ACall.pure hc rfl ?_
            simp (disch := first | exact dI | fail) only [push_cast, ↓reduceIte, qa, qb, qc, qd, qe, qf, qg, qh, qi]
            exact ⟨i + 1, hd_z (by simp (disch := first | exact dI | fail) only [happ, push_cast, ↓reduceIte, qa, qb, qc, qd, qe, qf, qg, qh, qi]), by omega, by omega⟩
          | none =>
            rw [hfd] at hc
            rw [otherM_none (by exact hfd)] at hF2x
            simp only [Fld.name] at hF2x
            rw [hF2x, addF_one] at happ
            have h83 := add83F Td Tl (underT p x1) 6 (by have := hinv2.1; omega)
            rw [← happ] at h83
            simp only [blkF] at h83
            simp only [tfR, Option.getD_none, Option.isSome_none, zeroTF, TFd.pv_mk, Typ.pv_mk, List.map_nil] at hc
            simp (disch := first | exact dI | fail) only [hx, Fld.pv_mk, Val.pv_mk, push_cast, ↓reduceIte, qa, qb, qc, qd, qe, qf, qg, qh, qi]
            refine ACall.pure hc rfl ?_
            simp (disch := first | exact dI | fail) only [push_cast, ↓reduceIte, qa, qb, qc, qd, qe, qf, qg, qh, qi]
            refine ACall.pure hu rfl ?_
            simp (disch := first | exact dI | fail) only [push_cast, ↓reduceIte, qa, qb, qc, qd, qe, qf, qg, qh, qi]
            refine ACall.lentK h83 [0, 1] rfl (by simp (disch := first | exact dI | fail) only [push_cast, ↓reduceIte, qa, qb, qc, qd, qe, qf, qg, qh, qi]) (by simp (disch := first | exact dI | fail) only [push_cast, ↓reduceIte, qa, qb, qc, qd, qe, qf, qg, qh, qi]) ?_
            simp (disch := first | exact dI | fail) only [push_cast, ↓reduceIte, qa, qb, qc, qd, qe, qf, qg, qh, qi]
            exact ⟨i + 1, hd_z (by simp (disch := first | exact dI | fail) only [push_cast, ↓reduceIte, qa, qb, qc, qd, qe, qf, qg, qh, qi]), by omega, by omega⟩
        · have hltI : ¬ (i : Int) < vf.length := by omega
          rw [take_end hlt]
          rw [← hR]
          simp (disch := first | exact dI | fail) only [push_cast, ↓reduceIte, qa, qb, qc, qd, qe, qf, qg, qh, qi]
          exact lent_z [] (by simp (disch := first | exact dI | fail) only [push_cast, ↓reduceIte, qa, qb, qc, qd, qe, qf, qg, qh, qi])
theorem find56F_list (n : Nat) (ih : FindF n) (t : Typ) (v : Val) (p : List UInt8) (l : List Mis) (R : Bool × List Mis) (hd : dep (n + 1) v) (ht : tyOk (n + 1) t) (hv : v.ok) (hp : p.length + 200 * (n + 1) ≤ 100000) (hi : invF false l) (hR : R = addF false l (missN (n + 1) t v p)) (hk : t.kind = 8) (hvk : v.kind = 8) (hf : formedV v = true) :
    Lent Tryd.prog tabG 2 56 [.ptr 0 0, .pv t.pv, .pv v.pv, .pv (.str p)] (blkF false l) (.pv (.tup [])) (blkF R.1 R.2) := by
  have hd0 := hd
  simp only [dep] at hd0
  have h84 := formed84 v (by omega) (by omega) (by omega)
  have h85 := fun k => out85F false l t p k (by have := hi.1; omega) _ rfl
  rw [missN_succ, miss1_list (by omega) hf hk, addF_app] at hR
  have hinv := invF_add (outM t.min t.max p v.lst.length) hi
  have h85 := h85 v.lst.length
  rw [hf] at h84
  obtain ⟨k, m, M, s, w, e, fs⟩ := t
  obtain ⟨vk, vi, vs, vt, vl, vf⟩ := v
  simp only [dep, tyOk, Val.lst, Val.fields, Val.text, Typ.fields, Typ.words, Typ.elem, Typ.kind, Val.kind, Typ.min, Typ.max, Typ.scale, Val.num, Val.scale] at hd ht hR hk hvk h85 h84 hinv
  subst hk hvk
  obtain ⟨d1, d2, d3, d4, d5⟩ := hd
  obtain ⟨t1, t2, t3, t4⟩ := ht
  rw [Val.ok_mk] at hv
  generalize addF false l (outM m M p vl.length) = T at *
  obtain ⟨Td, Tl⟩ := T
  simp only at hR hinv
  generalize hF : elemM (missN n) e p = F at hR
  refine Lent.intro F56_ok (by simp [F56]) ?_
  rw [Typ.pv_mk, Val.pv_mk] at *
  simp only [blkF] at h85
  simp (disch := first | exact dI | fail) only [F56o0, F56o1, F56o2, F56o3, F56o4, F56o5, F56o6, F56o7, F56o8, F56o9, F56o10, F56o11, F56o12, F56o13, F56o14, F56o15, F56o16, F56o17, F56o18, F56o19, F56o20, F56o21, F56o22, F56o23, F56o24, F56o25, F56o26, F56o27, F56o28, F56p28, F56o29, F56o30, F56b31, F56o32, F56o33, F56o34, F56o35, F56o36, F56o37, F56p37, F56o38, F56c, F56, blkF, push_cast, ↓reduceIte, qa, qb, qc, qd, qe, qf, qg, qh, qi]
  refine ACall.pure h84 rfl ?_
  simp (disch := first | exact dI | fail) only [push_cast, ↓reduceIte, qa, qb, qc, qd, qe, qf, qg, qh, qi]
  refine ACall.lentK h85 [0, 1] rfl (by simp (disch := first | exact dI | fail) only [push_cast, ↓reduceIte, qa, qb, qc, qd, qe, qf, qg, qh, qi]) (by simp (disch := first | exact dI | fail) only [push_cast, ↓reduceIte, qa, qb, qc, qd, qe, qf, qg, qh, qi]) ?_
  simp (disch := first | exact dI | fail) only [push_cast, ↓reduceIte, qa, qb, qc, qd, qe, qf, qg, qh, qi]
  refine vc_over ([]) (fun i : Nat => [(112, .pv (.int .i64 (i : Int)))]) (fun i => [(0, .cells 120 true [.clo 63 [] [.ptr 1 0], .pv (.bool (addF Td Tl (ixM F (vl.take i))).1)]), (1, .cells 4 true [.pv (.bool (!(addF Td Tl (ixM F (vl.take i))).1))])]) (fun i => i ≤ vl.length) (fun i => vl.length - i) (0) ?_; intro e0 σ0 n0 h0; simp (disch := first | exact dI | fail) only [push_cast, ↓reduceIte, qa, qb, qc, qd, qe, qf, qg, qh, qi] at h0; obtain ⟨rfl, rfl, rfl⟩ := h0; refine ⟨?_, ?_, ?_⟩
  · simp (disch := first | exact dI | fail) only [addF, ixM_nil, push_cast, ↓reduceIte, qa, qb, qc, qd, qe, qf, qg, qh, qi]
  · omega
  · intro i hi2
    by_cases hlt : i < vl.length
    · have hltI : (i : Int) < vl.length := by omega
      obtain ⟨x, hx⟩ : ∃ x, vl[i]? = some x := ⟨_, List.getElem?_eq_getElem hlt⟩
      have hsn := ixM_snoc F hx
      have hinv2 := invF_add (ixM F (vl.take i)) hinv
      have happ := addF_app (ixM F (vl.take i)) (F x i) Td Tl
      rw [← hsn] at happ
      generalize addF Td Tl (ixM F (vl.take i)) = S at *
      obtain ⟨Sd, Sl⟩ := S
      simp only at hinv2 happ
      have hFx : F x i = elemM (missN n) e p x i := by rw [hF]
      have hal := atT_len p i
      have h87 := itoa_ok i (by omega) (by omega)
      have hil := itoaT_len i
      have hat : atT p i = p ++ (91 :: (itoaT i ++ [93])) := rfl
      have hxd := d4 x (List.mem_of_getElem? hx)
      have hxo := hv.2.2.2.2.2.1 x (List.mem_of_getElem? hx)
      by_cases he : e.length = 1
      · obtain ⟨y, rfl⟩ := List.length_eq_one_iff.1 he
        have hyt := t3 y (List.mem_singleton.2 rfl)
        rw [elemM_one rfl] at hFx
        have hih := ih y x (atT p i) Sd Sl _ hxd hyt hxo (by omega) hinv2 rfl
        rw [← hFx, ← happ] at hih
        obtain ⟨y1, y2, y3, y4, y5, y6, y7⟩ := y
        obtain ⟨x1, x2, x3, x4, x5, x6⟩ := x
        simp only [blkF, Typ.pv_mk, Val.pv_mk, hat] at hih
        simp (disch := first | exact dI | fail) only [hx, Val.pv_mk, Typ.pv_mk, push_cast, ↓reduceIte, qa, qb, qc, qd, qe, qf, qg, qh, qi]
        refine ACall.pure h87 rfl ?_
        simp (disch := first | exact dI | fail) only [Typ.pv_mk, Val.pv_mk, rElem_zero, List.getElem?_cons_zero, push_cast, ↓reduceIte, qa, qb, qc, qd, qe, qf, qg, qh, qi]
        refine ACall.lentK hih [0, 1] rfl (by simp (disch := first | exact dI | fail) only [push_cast, ↓reduceIte, qa, qb, qc, qd, qe, qf, qg, qh, qi]) (by simp (disch := first | exact dI | fail) only [push_cast, ↓reduceIte, qa, qb, qc, qd, qe, qf, qg, qh, qi]) ?_
        simp (disch := first | exact dI | fail) only [push_cast, ↓reduceIte, qa, qb, qc, qd, qe, qf, qg, qh, qi]
        exact ⟨i + 1, hd_z (by simp (disch := first | exact dI | fail) only [push_cast, ↓reduceIte, qa, qb, qc, qd, qe, qf, qg, qh, qi]), by omega, by omega⟩
      · have heI : ¬ (e.length : Int) = 1 := by omega
        rw [elemM_bad he] at hFx
        rw [hFx, addF_one] at happ
        have h83 := add83F Sd Sl (atT p i) 1 (by have := hinv2.1; omega)
        rw [← happ] at h83
        obtain ⟨x1, x2, x3, x4, x5, x6⟩ := x
        simp only [blkF, hat] at h83
        simp (disch := first | exact dI | fail) only [hx, Val.pv_mk, Typ.pv_mk, push_cast, ↓reduceIte, qa, qb, qc, qd, qe, qf, qg, qh, qi]
        refine ACall.pure h87 rfl ?_
        simp (disch := first | exact dI | fail) only [push_cast, ↓reduceIte, qa, qb, qc, qd, qe, qf, qg, qh, qi]
        refine ACall.lentK h83 [0, 1] rfl (by simp (disch := first | exact dI | fail) only [push_cast, ↓reduceIte, qa, qb, qc, qd, qe, qf, qg, qh, qi]) (by simp (disch := first | exact dI | fail) only [push_cast, ↓reduceIte, qa, qb, qc, qd, qe, qf, qg, qh, qi]) ?_
        simp (disch := first | exact dI | fail) only [push_cast, ↓reduceIte, qa, qb, qc, qd, qe, qf, qg, qh, qi]
        exact ⟨i + 1, hd_z (by simp (disch := first | exact dI | fail) only [push_cast, ↓reduceIte, qa, qb, qc, qd, qe, qf, qg, qh, qi]), by omega, by omega⟩
    · have hltI : ¬ (i : Int) < vl.length := by omega
      rw [take_end hlt]
      rw [← hR]
      simp (disch := first | exact dI | fail) only [push_cast, ↓reduceIte, qa, qb, qc, qd, qe, qf, qg, qh, qi]
      exact lent_z [] (by simp (disch := first | exact dI | fail) only [push_cast, ↓reduceIte, qa, qb, qc, qd, qe, qf, qg, qh, qi])
theorem find56F_kind (n : Nat) (ih : FindF n) (t : Typ) (v : Val) (p : List UInt8) (l : List Mis) (R : Bool × List Mis) (hd : dep (n + 1) v) (ht : tyOk (n + 1) t) (hv : v.ok) (hp : p.length + 200 * (n + 1) ≤ 100000) (hi : invF false l) (hR : R = addF false l (missN (n + 1) t v p)) (h : t.kind < 1 ∨ 10 < t.kind ∨ ¬ v.kind = t.kind) :
    Lent Tryd.prog tabG 2 56 [.ptr 0 0, .pv t.pv, .pv v.pv, .pv (.str p)] (blkF false l) (.pv (.tup [])) (blkF R.1 R.2) := by
  have hd0 := hd
  simp only [dep] at hd0
  have h84 := formed84 v (by omega) (by omega) (by omega)
  have h85 := fun k => out85F false l t p k (by have := hi.1; omega) _ rfl
  have h83 := fun c => add83F false l p c (by have := hi.1; omega)
  have h88 := fun h9 hR => record88F n ih t v p false l R hd ht hv h9 hp hi hR
  have h86 := contains86 t.words v.text (by have := ht; simp only [tyOk] at this; omega)
  have h89 := typeField89 t v.text (by have := ht; simp only [tyOk] at this; omega)
  have hvo := hv
  have h83 := h83 1
  rw [missN_succ, miss1_kind h, addF_one] at hR
  obtain ⟨k, m, M, s, w, e, fs⟩ := t
  obtain ⟨vk, vi, vs, vt, vl, vf⟩ := v
  simp only [dep, tyOk, Val.lst, Val.fields, Val.text, Typ.fields, Typ.words, Typ.elem, Typ.kind, Val.kind, Typ.min, Typ.max, Typ.scale, Val.num, Val.scale] at *
  obtain ⟨d1, d2, d3, d4, d5⟩ := hd
  obtain ⟨t1, t2, t3, t4⟩ := ht
  refine Lent.intro F56_ok (by simp [F56]) ?_
  rw [Typ.pv_mk, Val.pv_mk] at *
  simp only [blkF] at *
  rw [← hR] at h83
  by_cases a : k < 1
  · simp (disch := first | exact dI | fail) only [F56o0, F56o1, F56o2, F56o3, F56o4, F56o5, F56o6, F56o7, F56o8, F56o9, F56o10, F56o11, F56o12, F56o13, F56o14, F56o15, F56o16, F56o17, F56o18, F56o19, F56o20, F56o21, F56o22, F56o23, F56o24, F56o25, F56o26, F56o27, F56o28, F56p28, F56o29, F56o30, F56b31, F56o32, F56o33, F56o34, F56o35, F56o36, F56o37, F56p37, F56o38, F56c, F56, a, push_cast, ↓reduceIte, qa, qb, qc, qd, qe, qf, qg, qh, qi]
    refine ACall.lentK h83 [0, 1] rfl (by simp (disch := first | exact dI | fail) only [push_cast, ↓reduceIte, qa, qb, qc, qd, qe, qf, qg, qh, qi]) (by simp (disch := first | exact dI | fail) only [push_cast, ↓reduceIte, qa, qb, qc, qd, qe, qf, qg, qh, qi]) ?_
    simp (disch := first | exact dI | fail) only [push_cast, ↓reduceIte, qa, qb, qc, qd, qe, qf, qg, qh, qi]
    exact lent_z [] (by simp (disch := first | exact dI | fail) only [push_cast, ↓reduceIte, qa, qb, qc, qd, qe, qf, qg, qh, qi])
  · by_cases b : 10 < k
    · simp (disch := first | exact dI | fail) only [F56o0, F56o1, F56o2, F56o3, F56o4, F56o5, F56o6, F56o7, F56o8, F56o9, F56o10, F56o11, F56o12, F56o13, F56o14, F56o15, F56o16, F56o17, F56o18, F56o19, F56o20, F56o21, F56o22, F56o23, F56o24, F56o25, F56o26, F56o27, F56o28, F56p28, F56o29, F56o30, F56b31, F56o32, F56o33, F56o34, F56o35, F56o36, F56o37, F56p37, F56o38, F56c, F56, a, b, push_cast, ↓reduceIte, qa, qb, qc, qd, qe, qf, qg, qh, qi]
      refine ACall.lentK h83 [0, 1] rfl (by simp (disch := first | exact dI | fail) only [push_cast, ↓reduceIte, qa, qb, qc, qd, qe, qf, qg, qh, qi]) (by simp (disch := first | exact dI | fail) only [push_cast, ↓reduceIte, qa, qb, qc, qd, qe, qf, qg, qh, qi]) ?_
      simp (disch := first | exact dI | fail) only [push_cast, ↓reduceIte, qa, qb, qc, qd, qe, qf, qg, qh, qi]
      exact lent_z [] (by simp (disch := first | exact dI | fail) only [push_cast, ↓reduceIte, qa, qb, qc, qd, qe, qf, qg, qh, qi])
    · have c : ¬ vk = k := by omega
      simp (disch := first | exact dI | fail) only [F56o0, F56o1, F56o2, F56o3, F56o4, F56o5, F56o6, F56o7, F56o8, F56o9, F56o10, F56o11, F56o12, F56o13, F56o14, F56o15, F56o16, F56o17, F56o18, F56o19, F56o20, F56o21, F56o22, F56o23, F56o24, F56o25, F56o26, F56o27, F56o28, F56p28, F56o29, F56o30, F56b31, F56o32, F56o33, F56o34, F56o35, F56o36, F56o37, F56p37, F56o38, F56c, F56, a, b, c, push_cast, ↓reduceIte, qa, qb, qc, qd, qe, qf, qg, qh, qi]
      refine ACall.lentK h83 [0, 1] rfl (by simp (disch := first | exact dI | fail) only [push_cast, ↓reduceIte, qa, qb, qc, qd, qe, qf, qg, qh, qi]) (by simp (disch := first | exact dI | fail) only [push_cast, ↓reduceIte, qa, qb, qc, qd, qe, qf, qg, qh, qi]) ?_
      simp (disch := first | exact dI | fail) only [push_cast, ↓reduceIte, qa, qb, qc, qd, qe, qf, qg, qh, qi]
      exact lent_z [] (by simp (disch := first | exact dI | fail) only [push_cast, ↓reduceIte, qa, qb, qc, qd, qe, qf, qg, qh, qi])
theorem find56F_bad (n : Nat) (ih : FindF n) (t : Typ) (v : Val) (p : List UInt8) (l : List Mis) (R : Bool × List Mis) (hd : dep (n + 1) v) (ht : tyOk (n + 1) t) (hv : v.ok) (hp : p.length + 200 * (n + 1) ≤ 100000) (hi : invF false l) (hR : R = addF false l (missN (n + 1) t v p)) (h : ¬ (t.kind < 1 ∨ 10 < t.kind ∨ ¬ v.kind = t.kind)) (hf : formedV v = false) :
    Lent Tryd.prog tabG 2 56 [.ptr 0 0, .pv t.pv, .pv v.pv, .pv (.str p)] (blkF false l) (.pv (.tup [])) (blkF R.1 R.2) := by
  have hd0 := hd
  simp only [dep] at hd0
  have h84 := formed84 v (by omega) (by omega) (by omega)
  have h85 := fun k => out85F false l t p k (by have := hi.1; omega) _ rfl
  have h83 := fun c => add83F false l p c (by have := hi.1; omega)
  have h88 := fun h9 hR => record88F n ih t v p false l R hd ht hv h9 hp hi hR
  have h86 := contains86 t.words v.text (by have := ht; simp only [tyOk] at this; omega)
  have h89 := typeField89 t v.text (by have := ht; simp only [tyOk] at this; omega)
  have hvo := hv
  have h83 := h83 8
  rw [missN_succ, miss1_bad h hf, addF_one] at hR
  obtain ⟨k, m, M, s, w, e, fs⟩ := t
  obtain ⟨vk, vi, vs, vt, vl, vf⟩ := v
  simp only [dep, tyOk, Val.lst, Val.fields, Val.text, Typ.fields, Typ.words, Typ.elem, Typ.kind, Val.kind, Typ.min, Typ.max, Typ.scale, Val.num, Val.scale] at *
  obtain ⟨d1, d2, d3, d4, d5⟩ := hd
  obtain ⟨t1, t2, t3, t4⟩ := ht
  refine Lent.intro F56_ok (by simp [F56]) ?_
  rw [Typ.pv_mk, Val.pv_mk] at *
  simp only [blkF] at *
  have a : ¬ k < 1 := by omega
  have b : ¬ 10 < k := by omega
  have c : vk = k := by omega
  subst c
  rw [← hR] at h83
  rw [hf] at h84
  simp (disch := first | exact dI | fail) only [F56o0, F56o1, F56o2, F56o3, F56o4, F56o5, F56o6, F56o7, F56o8, F56o9, F56o10, F56o11, F56o12, F56o13, F56o14, F56o15, F56o16, F56o17, F56o18, F56o19, F56o20, F56o21, F56o22, F56o23, F56o24, F56o25, F56o26, F56o27, F56o28, F56p28, F56o29, F56o30, F56b31, F56o32, F56o33, F56o34, F56o35, F56o36, F56o37, F56p37, F56o38, F56c, F56, a, b, push_cast, ↓reduceIte, qa, qb, qc, qd, qe, qf, qg, qh, qi]
  refine ACall.pure h84 rfl ?_
  simp (disch := first | exact dI | fail) only [push_cast, ↓reduceIte, qa, qb, qc, qd, qe, qf, qg, qh, qi]
  refine ACall.lentK h83 [0, 1] rfl (by simp (disch := first | exact dI | fail) only [push_cast, ↓reduceIte, qa, qb, qc, qd, qe, qf, qg, qh, qi]) (by simp (disch := first | exact dI | fail) only [push_cast, ↓reduceIte, qa, qb, qc, qd, qe, qf, qg, qh, qi]) ?_
  simp (disch := first | exact dI | fail) only [push_cast, ↓reduceIte, qa, qb, qc, qd, qe, qf, qg, qh, qi]
  exact lent_z [] (by simp (disch := first | exact dI | fail) only [push_cast, ↓reduceIte, qa, qb, qc, qd, qe, qf, qg, qh, qi])
theorem find56F_2 (n : Nat) (ih : FindF n) (t : Typ) (v : Val) (p : List UInt8) (l : List Mis) (R : Bool × List Mis) (hd : dep (n + 1) v) (ht : tyOk (n + 1) t) (hv : v.ok) (hp : p.length + 200 * (n + 1) ≤ 100000) (hi : invF false l) (hR : R = addF false l (missN (n + 1) t v p)) (h : ¬ (t.kind < 1 ∨ 10 < t.kind ∨ ¬ v.kind = t.kind)) (hf : formedV v = true) (hk : t.kind = 2) :
    Lent Tryd.prog tabG 2 56 [.ptr 0 0, .pv t.pv, .pv v.pv, .pv (.str p)] (blkF false l) (.pv (.tup [])) (blkF R.1 R.2) := by
  have hd0 := hd
  simp only [dep] at hd0
  have h84 := formed84 v (by omega) (by omega) (by omega)
  have h85 := fun k => out85F false l t p k (by have := hi.1; omega) _ rfl
  have h83 := fun c => add83F false l p c (by have := hi.1; omega)
  have h88 := fun h9 hR => record88F n ih t v p false l R hd ht hv h9 hp hi hR
  have h86 := contains86 t.words v.text (by have := ht; simp only [tyOk] at this; omega)
  have h89 := typeField89 t v.text (by have := ht; simp only [tyOk] at this; omega)
  have hvo := hv
  have h85 := h85 v.num
  rw [missN_succ, miss1_num h hf (by omega)] at hR
  obtain ⟨k, m, M, s, w, e, fs⟩ := t
  obtain ⟨vk, vi, vs, vt, vl, vf⟩ := v
  simp only [dep, tyOk, Val.lst, Val.fields, Val.text, Typ.fields, Typ.words, Typ.elem, Typ.kind, Val.kind, Typ.min, Typ.max, Typ.scale, Val.num, Val.scale] at *
  obtain ⟨d1, d2, d3, d4, d5⟩ := hd
  obtain ⟨t1, t2, t3, t4⟩ := ht
  refine Lent.intro F56_ok (by simp [F56]) ?_
  rw [Typ.pv_mk, Val.pv_mk] at *
  simp only [blkF] at *
  have c : vk = 2 := by omega
  subst hk c
  rw [← hR] at h85
  rw [hf] at h84
  simp (disch := first | exact dI | fail) only [F56o0, F56o1, F56o2, F56o3, F56o4, F56o5, F56o6, F56o7, F56o8, F56o9, F56o10, F56o11, F56o12, F56o13, F56o14, F56o15, F56o16, F56o17, F56o18, F56o19, F56o20, F56o21, F56o22, F56o23, F56o24, F56o25, F56o26, F56o27, F56o28, F56p28, F56o29, F56o30, F56b31, F56o32, F56o33, F56o34, F56o35, F56o36, F56o37, F56p37, F56o38, F56c, F56, push_cast, ↓reduceIte, qa, qb, qc, qd, qe, qf, qg, qh, qi]
  refine ACall.pure h84 rfl ?_
  simp (disch := first | exact dI | fail) only [push_cast, ↓reduceIte, qa, qb, qc, qd, qe, qf, qg, qh, qi]
  refine ACall.lentK h85 [0, 1] rfl (by simp (disch := first | exact dI | fail) only [push_cast, ↓reduceIte, qa, qb, qc, qd, qe, qf, qg, qh, qi]) (by simp (disch := first | exact dI | fail) only [push_cast, ↓reduceIte, qa, qb, qc, qd, qe, qf, qg, qh, qi]) ?_
  simp (disch := first | exact dI | fail) only [push_cast, ↓reduceIte, qa, qb, qc, qd, qe, qf, qg, qh, qi]
  exact lent_z [] (by simp (disch := first | exact dI | fail) only [push_cast, ↓reduceIte, qa, qb, qc, qd, qe, qf, qg, qh, qi])
theorem find56F_6 (n : Nat) (ih : FindF n) (t : Typ) (v : Val) (p : List UInt8) (l : List Mis) (R : Bool × List Mis) (hd : dep (n + 1) v) (ht : tyOk (n + 1) t) (hv : v.ok) (hp : p.length + 200 * (n + 1) ≤ 100000) (hi : invF false l) (hR : R = addF false l (missN (n + 1) t v p)) (h : ¬ (t.kind < 1 ∨ 10 < t.kind ∨ ¬ v.kind = t.kind)) (hf : formedV v = true) (hk : t.kind = 6) :
    Lent Tryd.prog tabG 2 56 [.ptr 0 0, .pv t.pv, .pv v.pv, .pv (.str p)] (blkF false l) (.pv (.tup [])) (blkF R.1 R.2) := by
  have hd0 := hd
  simp only [dep] at hd0
  have h84 := formed84 v (by omega) (by omega) (by omega)
  have h85 := fun k => out85F false l t p k (by have := hi.1; omega) _ rfl
  have h83 := fun c => add83F false l p c (by have := hi.1; omega)
  have h88 := fun h9 hR => record88F n ih t v p false l R hd ht hv h9 hp hi hR
  have h86 := contains86 t.words v.text (by have := ht; simp only [tyOk] at this; omega)
  have h89 := typeField89 t v.text (by have := ht; simp only [tyOk] at this; omega)
  have hvo := hv
  have h85 := h85 v.num
  rw [missN_succ, miss1_num h hf (by omega)] at hR
  obtain ⟨k, m, M, s, w, e, fs⟩ := t
  obtain ⟨vk, vi, vs, vt, vl, vf⟩ := v
  simp only [dep, tyOk, Val.lst, Val.fields, Val.text, Typ.fields, Typ.words, Typ.elem, Typ.kind, Val.kind, Typ.min, Typ.max, Typ.scale, Val.num, Val.scale] at *
  obtain ⟨d1, d2, d3, d4, d5⟩ := hd
  obtain ⟨t1, t2, t3, t4⟩ := ht
  refine Lent.intro F56_ok (by simp [F56]) ?_
  rw [Typ.pv_mk, Val.pv_mk] at *
  simp only [blkF] at *
  have c : vk = 6 := by omega
  subst hk c
  rw [← hR] at h85
  rw [hf] at h84
  simp (disch := first | exact dI | fail) only [F56o0, F56o1, F56o2, F56o3, F56o4, F56o5, F56o6, F56o7, F56o8, F56o9, F56o10, F56o11, F56o12, F56o13, F56o14, F56o15, F56o16, F56o17, F56o18, F56o19, F56o20, F56o21, F56o22, F56o23, F56o24, F56o25, F56o26, F56o27, F56o28, F56p28, F56o29, F56o30, F56b31, F56o32, F56o33, F56o34, F56o35, F56o36, F56o37, F56p37, F56o38, F56c, F56, push_cast, ↓reduceIte, qa, qb, qc, qd, qe, qf, qg, qh, qi]
  refine ACall.pure h84 rfl ?_
  simp (disch := first | exact dI | fail) only [push_cast, ↓reduceIte, qa, qb, qc, qd, qe, qf, qg, qh, qi]
  refine ACall.lentK h85 [0, 1] rfl (by simp (disch := first | exact dI | fail) only [push_cast, ↓reduceIte, qa, qb, qc, qd, qe, qf, qg, qh, qi]) (by simp (disch := first | exact dI | fail) only [push_cast, ↓reduceIte, qa, qb, qc, qd, qe, qf, qg, qh, qi]) ?_
  simp (disch := first | exact dI | fail) only [push_cast, ↓reduceIte, qa, qb, qc, qd, qe, qf, qg, qh, qi]
  exact lent_z [] (by simp (disch := first | exact dI | fail) only [push_cast, ↓reduceIte, qa, qb, qc, qd, qe, qf, qg, qh, qi])
theorem find56F_7 (n : Nat) (ih : FindF n) (t : Typ) (v : Val) (p : List UInt8) (l : List Mis) (R : Bool × List Mis) (hd : dep (n + 1) v) (ht : tyOk (n + 1) t) (hv : v.ok) (hp : p.length + 200 * (n + 1) ≤ 100000) (hi : invF false l) (hR : R = addF false l (missN (n + 1) t v p)) (h : ¬ (t.kind < 1 ∨ 10 < t.kind ∨ ¬ v.kind = t.kind)) (hf : formedV v = true) (hk : t.kind = 7) :
    Lent Tryd.prog tabG 2 56 [.ptr 0 0, .pv t.pv, .pv v.pv, .pv (.str p)] (blkF false l) (.pv (.tup [])) (blkF R.1 R.2) := by
  have hd0 := hd
  simp only [dep] at hd0
  have h84 := formed84 v (by omega) (by omega) (by omega)
  have h85 := fun k => out85F false l t p k (by have := hi.1; omega) _ rfl
  have h83 := fun c => add83F false l p c (by have := hi.1; omega)
  have h88 := fun h9 hR => record88F n ih t v p false l R hd ht hv h9 hp hi hR
  have h86 := contains86 t.words v.text (by have := ht; simp only [tyOk] at this; omega)
  have h89 := typeField89 t v.text (by have := ht; simp only [tyOk] at this; omega)
  have hvo := hv
  have h85 := h85 v.num
  rw [missN_succ, miss1_num h hf (by omega)] at hR
  obtain ⟨k, m, M, s, w, e, fs⟩ := t
  obtain ⟨vk, vi, vs, vt, vl, vf⟩ := v
  simp only [dep, tyOk, Val.lst, Val.fields, Val.text, Typ.fields, Typ.words, Typ.elem, Typ.kind, Val.kind, Typ.min, Typ.max, Typ.scale, Val.num, Val.scale] at *
  obtain ⟨d1, d2, d3, d4, d5⟩ := hd
  obtain ⟨t1, t2, t3, t4⟩ := ht
  refine Lent.intro F56_ok (by simp [F56]) ?_
  rw [Typ.pv_mk, Val.pv_mk] at *
  simp only [blkF] at *
  have c : vk = 7 := by omega
  subst hk c
  rw [← hR] at h85
  rw [hf] at h84
  simp (disch := first | exact dI | fail) only [F56o0, F56o1, F56o2, F56o3, F56o4, F56o5, F56o6, F56o7, F56o8, F56o9, F56o10, F56o11, F56o12, F56o13, F56o14, F56o15, F56o16, F56o17, F56o18, F56o19, F56o20, F56o21, F56o22, F56o23, F56o24, F56o25, F56o26, F56o27, F56o28, F56p28, F56o29, F56o30, F56b31, F56o32, F56o33, F56o34, F56o35, F56o36, F56o37, F56p37, F56o38, F56c, F56, push_cast, ↓reduceIte, qa, qb, qc, qd, qe, qf, qg, qh, qi]
  refine ACall.pure h84 rfl ?_
  simp (disch := first | exact dI | fail) only [push_cast, ↓reduceIte, qa, qb, qc, qd, qe, qf, qg, qh, qi]
  refine ACall.lentK h85 [0, 1] rfl (by simp (disch := first | exact dI | fail) only [push_cast, ↓reduceIte, qa, qb, qc, qd, qe, qf, qg, qh, qi]) (by simp (disch := first | exact dI | fail) only [push_cast, ↓reduceIte, qa, qb, qc, qd, qe, qf, qg, qh, qi]) ?_
  simp (disch := first | exact dI | fail) only [push_cast, ↓reduceIte, qa, qb, qc, qd, qe, qf, qg, qh, qi]
  exact lent_z [] (by simp (disch := first | exact dI | fail) only [push_cast, ↓reduceIte, qa, qb, qc, qd, qe, qf, qg, qh, qi])
theorem find56F_1 (n : Nat) (ih : FindF n) (t : Typ) (v : Val) (p : List UInt8) (l : List Mis) (R : Bool × List Mis) (hd : dep (n + 1) v) (ht : tyOk (n + 1) t) (hv : v.ok) (hp : p.length + 200 * (n + 1) ≤ 100000) (hi : invF false l) (hR : R = addF false l (missN (n + 1) t v p)) (h : ¬ (t.kind < 1 ∨ 10 < t.kind ∨ ¬ v.kind = t.kind)) (hf : formedV v = true) (hk : t.kind = 1) :
    Lent Tryd.prog tabG 2 56 [.ptr 0 0, .pv t.pv, .pv v.pv, .pv (.str p)] (blkF false l) (.pv (.tup [])) (blkF R.1 R.2) := by
  have hd0 := hd
  simp only [dep] at hd0
  have h84 := formed84 v (by omega) (by omega) (by omega)
  have h85 := fun k => out85F false l t p k (by have := hi.1; omega) _ rfl
  have h83 := fun c => add83F false l p c (by have := hi.1; omega)
  have h88 := fun h9 hR => record88F n ih t v p false l R hd ht hv h9 hp hi hR
  have h86 := contains86 t.words v.text (by have := ht; simp only [tyOk] at this; omega)
  have h89 := typeField89 t v.text (by have := ht; simp only [tyOk] at this; omega)
  have hvo := hv
  rw [missN_succ, miss1_none h hf hk, addF_nil] at hR
  obtain ⟨k, m, M, s, w, e, fs⟩ := t
  obtain ⟨vk, vi, vs, vt, vl, vf⟩ := v
  simp only [dep, tyOk, Val.lst, Val.fields, Val.text, Typ.fields, Typ.words, Typ.elem, Typ.kind, Val.kind, Typ.min, Typ.max, Typ.scale, Val.num, Val.scale] at *
  obtain ⟨d1, d2, d3, d4, d5⟩ := hd
  obtain ⟨t1, t2, t3, t4⟩ := ht
  refine Lent.intro F56_ok (by simp [F56]) ?_
  rw [Typ.pv_mk, Val.pv_mk] at *
  simp only [blkF] at *
  have c : vk = 1 := by omega
  subst hk c hR
  rw [hf] at h84
  simp (disch := first | exact dI | fail) only [F56o0, F56o1, F56o2, F56o3, F56o4, F56o5, F56o6, F56o7, F56o8, F56o9, F56o10, F56o11, F56o12, F56o13, F56o14, F56o15, F56o16, F56o17, F56o18, F56o19, F56o20, F56o21, F56o22, F56o23, F56o24, F56o25, F56o26, F56o27, F56o28, F56p28, F56o29, F56o30, F56b31, F56o32, F56o33, F56o34, F56o35, F56o36, F56o37, F56p37, F56o38, F56c, F56, push_cast, ↓reduceIte, qa, qb, qc, qd, qe, qf, qg, qh, qi]
  refine ACall.pure h84 rfl ?_
  simp (disch := first | exact dI | fail) only [push_cast, ↓reduceIte, qa, qb, qc, qd, qe, qf, qg, qh, qi]
  exact lent_z [] (by simp (disch := first | exact dI | fail) only [push_cast, ↓reduceIte, qa, qb, qc, qd, qe, qf, qg, qh, qi])
theorem find56F_3s (n : Nat) (ih : FindF n) (t : Typ) (v : Val) (p : List UInt8) (l : List Mis) (R : Bool × List Mis) (hd : dep (n + 1) v) (ht : tyOk (n + 1) t) (hv : v.ok) (hp : p.length + 200 * (n + 1) ≤ 100000) (hi : invF false l) (hR : R = addF false l (missN (n + 1) t v p)) (h : ¬ (t.kind < 1 ∨ 10 < t.kind ∨ ¬ v.kind = t.kind)) (hf : formedV v = true) (hk : t.kind = 3) (hs : v.scale = t.scale) :
    Lent Tryd.prog tabG 2 56 [.ptr 0 0, .pv t.pv, .pv v.pv, .pv (.str p)] (blkF false l) (.pv (.tup [])) (blkF R.1 R.2) := by
  have hd0 := hd
  simp only [dep] at hd0
  have h84 := formed84 v (by omega) (by omega) (by omega)
  have h85 := fun k => out85F false l t p k (by have := hi.1; omega) _ rfl
  have h83 := fun c => add83F false l p c (by have := hi.1; omega)
  have h88 := fun h9 hR => record88F n ih t v p false l R hd ht hv h9 hp hi hR
  have h86 := contains86 t.words v.text (by have := ht; simp only [tyOk] at this; omega)
  have h89 := typeField89 t v.text (by have := ht; simp only [tyOk] at this; omega)
  have hvo := hv
  have h85 := h85 v.num
  rw [missN_succ, miss1_dec h hf hk hs] at hR
  obtain ⟨k, m, M, s, w, e, fs⟩ := t
  obtain ⟨vk, vi, vs, vt, vl, vf⟩ := v
  simp only [dep, tyOk, Val.lst, Val.fields, Val.text, Typ.fields, Typ.words, Typ.elem, Typ.kind, Val.kind, Typ.min, Typ.max, Typ.scale, Val.num, Val.scale] at *
  obtain ⟨d1, d2, d3, d4, d5⟩ := hd
  obtain ⟨t1, t2, t3, t4⟩ := ht
  refine Lent.intro F56_ok (by simp [F56]) ?_
  rw [Typ.pv_mk, Val.pv_mk] at *
  simp only [blkF] at *
  have c : vk = 3 := by omega
  subst hk c
  rw [← hR] at h85
  rw [hf] at h84
  simp (disch := first | exact dI | fail) only [F56o0, F56o1, F56o2, F56o3, F56o4, F56o5, F56o6, F56o7, F56o8, F56o9, F56o10, F56o11, F56o12, F56o13, F56o14, F56o15, F56o16, F56o17, F56o18, F56o19, F56o20, F56o21, F56o22, F56o23, F56o24, F56o25, F56o26, F56o27, F56o28, F56p28, F56o29, F56o30, F56b31, F56o32, F56o33, F56o34, F56o35, F56o36, F56o37, F56p37, F56o38, F56c, F56, push_cast, ↓reduceIte, qa, qb, qc, qd, qe, qf, qg, qh, qi]
  refine ACall.pure h84 rfl ?_
  simp (disch := first | exact dI | fail) only [hs, push_cast, ↓reduceIte, qa, qb, qc, qd, qe, qf, qg, qh, qi]
  refine ACall.lentK h85 [0, 1] rfl (by simp (disch := first | exact dI | fail) only [push_cast, ↓reduceIte, qa, qb, qc, qd, qe, qf, qg, qh, qi]) (by simp (disch := first | exact dI | fail) only [push_cast, ↓reduceIte, qa, qb, qc, qd, qe, qf, qg, qh, qi]) ?_
  simp (disch := first | exact dI | fail) only [push_cast, ↓reduceIte, qa, qb, qc, qd, qe, qf, qg, qh, qi]
  exact lent_z [] (by simp (disch := first | exact dI | fail) only [push_cast, ↓reduceIte, qa, qb, qc, qd, qe, qf, qg, qh, qi])
theorem find56F_3 (n : Nat) (ih : FindF n) (t : Typ) (v : Val) (p : List UInt8) (l : List Mis) (R : Bool × List Mis) (hd : dep (n + 1) v) (ht : tyOk (n + 1) t) (hv : v.ok) (hp : p.length + 200 * (n + 1) ≤ 100000) (hi : invF false l) (hR : R = addF false l (missN (n + 1) t v p)) (h : ¬ (t.kind < 1 ∨ 10 < t.kind ∨ ¬ v.kind = t.kind)) (hf : formedV v = true) (hk : t.kind = 3) (hs : ¬ v.scale = t.scale) :
    Lent Tryd.prog tabG 2 56 [.ptr 0 0, .pv t.pv, .pv v.pv, .pv (.str p)] (blkF false l) (.pv (.tup [])) (blkF R.1 R.2) := by
  have hd0 := hd
  simp only [dep] at hd0
  have h84 := formed84 v (by omega) (by omega) (by omega)
  have h85 := fun k => out85F false l t p k (by have := hi.1; omega) _ rfl
  have h83 := fun c => add83F false l p c (by have := hi.1; omega)
  have h88 := fun h9 hR => record88F n ih t v p false l R hd ht hv h9 hp hi hR
  have h86 := contains86 t.words v.text (by have := ht; simp only [tyOk] at this; omega)
  have h89 := typeField89 t v.text (by have := ht; simp only [tyOk] at this; omega)
  have hvo := hv
  have h83 := h83 3
  rw [missN_succ, miss1_scale h hf hk hs, addF_one] at hR
  obtain ⟨k, m, M, s, w, e, fs⟩ := t
  obtain ⟨vk, vi, vs, vt, vl, vf⟩ := v
  simp only [dep, tyOk, Val.lst, Val.fields, Val.text, Typ.fields, Typ.words, Typ.elem, Typ.kind, Val.kind, Typ.min, Typ.max, Typ.scale, Val.num, Val.scale] at *
  obtain ⟨d1, d2, d3, d4, d5⟩ := hd
  obtain ⟨t1, t2, t3, t4⟩ := ht
  refine Lent.intro F56_ok (by simp [F56]) ?_
  rw [Typ.pv_mk, Val.pv_mk] at *
  simp only [blkF] at *
  have c : vk = 3 := by omega
  subst hk c
  rw [← hR] at h83
  rw [hf] at h84
  simp (disch := first | exact dI | fail) only [F56o0, F56o1, F56o2, F56o3, F56o4, F56o5, F56o6, F56o7, F56o8, F56o9, F56o10, F56o11, F56o12, F56o13, F56o14, F56o15, F56o16, F56o17, F56o18, F56o19, F56o20, F56o21, F56o22, F56o23, F56o24, F56o25, F56o26, F56o27, F56o28, F56p28, F56o29, F56o30, F56b31, F56o32, F56o33, F56o34, F56o35, F56o36, F56o37, F56p37, F56o38, F56c, F56, push_cast, ↓reduceIte, qa, qb, qc, qd, qe, qf, qg, qh, qi]
  refine ACall.pure h84 rfl ?_
  simp (disch := first | exact dI | fail) only [hs, push_cast, ↓reduceIte, qa, qb, qc, qd, qe, qf, qg, qh, qi]
  refine ACall.lentK h83 [0, 1] rfl (by simp (disch := first | exact dI | fail) only [push_cast, ↓reduceIte, qa, qb, qc, qd, qe, qf, qg, qh, qi]) (by simp (disch := first | exact dI | fail) only [push_cast, ↓reduceIte, qa, qb, qc, qd, qe, qf, qg, qh, qi]) ?_
  simp (disch := first | exact dI | fail) only [push_cast, ↓reduceIte, qa, qb, qc, qd, qe, qf, qg, qh, qi]
  exact lent_z [] (by simp (disch := first | exact dI | fail) only [push_cast, ↓reduceIte, qa, qb, qc, qd, qe, qf, qg, qh, qi])
theorem find56F_5 (n : Nat) (ih : FindF n) (t : Typ) (v : Val) (p : List UInt8) (l : List Mis) (R : Bool × List Mis) (hd : dep (n + 1) v) (ht : tyOk (n + 1) t) (hv : v.ok) (hp : p.length + 200 * (n + 1) ≤ 100000) (hi : invF false l) (hR : R = addF false l (missN (n + 1) t v p)) (h : ¬ (t.kind < 1 ∨ 10 < t.kind ∨ ¬ v.kind = t.kind)) (hf : formedV v = true) (hk : t.kind = 5) :
    Lent Tryd.prog tabG 2 56 [.ptr 0 0, .pv t.pv, .pv v.pv, .pv (.str p)] (blkF false l) (.pv (.tup [])) (blkF R.1 R.2) := by
  have hd0 := hd
  simp only [dep] at hd0
  have h84 := formed84 v (by omega) (by omega) (by omega)
  have h85 := fun k => out85F false l t p k (by have := hi.1; omega) _ rfl
  have h83 := fun c => add83F false l p c (by have := hi.1; omega)
  have h88 := fun h9 hR => record88F n ih t v p false l R hd ht hv h9 hp hi hR
  have h86 := contains86 t.words v.text (by have := ht; simp only [tyOk] at this; omega)
  have h89 := typeField89 t v.text (by have := ht; simp only [tyOk] at this; omega)
  have hvo := hv
  have h85 := h85 v.text.length
  rw [missN_succ, miss1_text h hf (.inr hk) (by omega)] at hR
  obtain ⟨k, m, M, s, w, e, fs⟩ := t
  obtain ⟨vk, vi, vs, vt, vl, vf⟩ := v
  simp only [dep, tyOk, Val.lst, Val.fields, Val.text, Typ.fields, Typ.words, Typ.elem, Typ.kind, Val.kind, Typ.min, Typ.max, Typ.scale, Val.num, Val.scale] at *
  obtain ⟨d1, d2, d3, d4, d5⟩ := hd
  obtain ⟨t1, t2, t3, t4⟩ := ht
  refine Lent.intro F56_ok (by simp [F56]) ?_
  rw [Typ.pv_mk, Val.pv_mk] at *
  simp only [blkF] at *
  have c : vk = 5 := by omega
  subst hk c
  rw [← hR] at h85
  rw [hf] at h84
  simp (disch := first | exact dI | fail) only [F56o0, F56o1, F56o2, F56o3, F56o4, F56o5, F56o6, F56o7, F56o8, F56o9, F56o10, F56o11, F56o12, F56o13, F56o14, F56o15, F56o16, F56o17, F56o18, F56o19, F56o20, F56o21, F56o22, F56o23, F56o24, F56o25, F56o26, F56o27, F56o28, F56p28, F56o29, F56o30, F56b31, F56o32, F56o33, F56o34, F56o35, F56o36, F56o37, F56p37, F56o38, F56c, F56, push_cast, ↓reduceIte, qa, qb, qc, qd, qe, qf, qg, qh, qi]
  refine ACall.pure h84 rfl ?_
  simp (disch := first | exact dI | fail) only [push_cast, ↓reduceIte, qa, qb, qc, qd, qe, qf, qg, qh, qi]
  refine ACall.lentK h85 [0, 1] rfl (by simp (disch := first | exact dI | fail) only [push_cast, ↓reduceIte, qa, qb, qc, qd, qe, qf, qg, qh, qi]) (by simp (disch := first | exact dI | fail) only [push_cast, ↓reduceIte, qa, qb, qc, qd, qe, qf, qg, qh, qi]) ?_
  simp (disch := first | exact dI | fail) only [push_cast, ↓reduceIte, qa, qb, qc, qd, qe, qf, qg, qh, qi]
  exact lent_z [] (by simp (disch := first | exact dI | fail) only [push_cast, ↓reduceIte, qa, qb, qc, qd, qe, qf, qg, qh, qi])
theorem find56F_4 (n : Nat) (ih : FindF n) (t : Typ) (v : Val) (p : List UInt8) (l : List Mis) (R : Bool × List Mis) (hd : dep (n + 1) v) (ht : tyOk (n + 1) t) (hv : v.ok) (hp : p.length + 200 * (n + 1) ≤ 100000) (hi : invF false l) (hR : R = addF false l (missN (n + 1) t v p)) (h : ¬ (t.kind < 1 ∨ 10 < t.kind ∨ ¬ v.kind = t.kind)) (hf : formedV v = true) (hk : t.kind = 4) (hw : t.words.length = 0) :
    Lent Tryd.prog tabG 2 56 [.ptr 0 0, .pv t.pv, .pv v.pv, .pv (.str p)] (blkF false l) (.pv (.tup [])) (blkF R.1 R.2) := by
  have hd0 := hd
  simp only [dep] at hd0
  have h84 := formed84 v (by omega) (by omega) (by omega)
  have h85 := fun k => out85F false l t p k (by have := hi.1; omega) _ rfl
  have h83 := fun c => add83F false l p c (by have := hi.1; omega)
  have h88 := fun h9 hR => record88F n ih t v p false l R hd ht hv h9 hp hi hR
  have h86 := contains86 t.words v.text (by have := ht; simp only [tyOk] at this; omega)
  have h89 := typeField89 t v.text (by have := ht; simp only [tyOk] at this; omega)
  have hvo := hv
  have h85 := h85 v.text.length
  rw [missN_succ, miss1_text h hf (.inl hk) (fun _ => hw)] at hR
  obtain ⟨k, m, M, s, w, e, fs⟩ := t
  obtain ⟨vk, vi, vs, vt, vl, vf⟩ := v
  simp only [dep, tyOk, Val.lst, Val.fields, Val.text, Typ.fields, Typ.words, Typ.elem, Typ.kind, Val.kind, Typ.min, Typ.max, Typ.scale, Val.num, Val.scale] at *
  obtain ⟨d1, d2, d3, d4, d5⟩ := hd
  obtain ⟨t1, t2, t3, t4⟩ := ht
  refine Lent.intro F56_ok (by simp [F56]) ?_
  rw [Typ.pv_mk, Val.pv_mk] at *
  simp only [blkF] at *
  have c : vk = 4 := by omega
  subst hk c
  rw [← hR] at h85
  rw [hf] at h84
  have hz : ¬ (0 : Int) < w.length := by omega
  simp (disch := first | exact dI | fail) only [F56o0, F56o1, F56o2, F56o3, F56o4, F56o5, F56o6, F56o7, F56o8, F56o9, F56o10, F56o11, F56o12, F56o13, F56o14, F56o15, F56o16, F56o17, F56o18, F56o19, F56o20, F56o21, F56o22, F56o23, F56o24, F56o25, F56o26, F56o27, F56o28, F56p28, F56o29, F56o30, F56b31, F56o32, F56o33, F56o34, F56o35, F56o36, F56o37, F56p37, F56o38, F56c, F56, push_cast, ↓reduceIte, qa, qb, qc, qd, qe, qf, qg, qh, qi]
  refine ACall.pure h84 rfl ?_
  simp (disch := first | exact dI | fail) only [push_cast, ↓reduceIte, qa, qb, qc, qd, qe, qf, qg, qh, qi]
  refine ACall.lentK h85 [0, 1] rfl (by simp (disch := first | exact dI | fail) only [push_cast, ↓reduceIte, qa, qb, qc, qd, qe, qf, qg, qh, qi]) (by simp (disch := first | exact dI | fail) only [push_cast, ↓reduceIte, qa, qb, qc, qd, qe, qf, qg, qh, qi]) ?_
  simp (disch := first | exact dI | fail) only [push_cast, ↓reduceIte, qa, qb, qc, qd, qe, qf, qg, qh, qi]
  exact lent_z [] (by simp (disch := first | exact dI | fail) only [push_cast, ↓reduceIte, qa, qb, qc, qd, qe, qf, qg, qh, qi])
theorem find56F_4w (n : Nat) (ih : FindF n) (t : Typ) (v : Val) (p : List UInt8) (l : List Mis) (R : Bool × List Mis) (hd : dep (n + 1) v) (ht : tyOk (n + 1) t) (hv : v.ok) (hp : p.length + 200 * (n + 1) ≤ 100000) (hi : invF false l) (hR : R = addF false l (missN (n + 1) t v p)) (h : ¬ (t.kind < 1 ∨ 10 < t.kind ∨ ¬ v.kind = t.kind)) (hf : formedV v = true) (hk : t.kind = 4) (hw : 0 < t.words.length) (ha : (t.words.any fun x => decide (x = v.text)) = true) :
    Lent Tryd.prog tabG 2 56 [.ptr 0 0, .pv t.pv, .pv v.pv, .pv (.str p)] (blkF false l) (.pv (.tup [])) (blkF R.1 R.2) := by
  have hd0 := hd
  simp only [dep] at hd0
  have h84 := formed84 v (by omega) (by omega) (by omega)
  have h85 := fun k => out85F false l t p k (by have := hi.1; omega) _ rfl
  have h83 := fun c => add83F false l p c (by have := hi.1; omega)
  have h88 := fun h9 hR => record88F n ih t v p false l R hd ht hv h9 hp hi hR
  have h86 := contains86 t.words v.text (by have := ht; simp only [tyOk] at this; omega)
  have h89 := typeField89 t v.text (by have := ht; simp only [tyOk] at this; omega)
  have hvo := hv
  rw [missN_succ, miss1_word h hf hk hw ha, addF_nil] at hR
  obtain ⟨k, m, M, s, w, e, fs⟩ := t
  obtain ⟨vk, vi, vs, vt, vl, vf⟩ := v
  simp only [dep, tyOk, Val.lst, Val.fields, Val.text, Typ.fields, Typ.words, Typ.elem, Typ.kind, Val.kind, Typ.min, Typ.max, Typ.scale, Val.num, Val.scale] at *
  obtain ⟨d1, d2, d3, d4, d5⟩ := hd
  obtain ⟨t1, t2, t3, t4⟩ := ht
  refine Lent.intro F56_ok (by simp [F56]) ?_
  rw [Typ.pv_mk, Val.pv_mk] at *
  simp only [blkF] at *
  have c : vk = 4 := by omega
  subst hk c hR
  rw [hf] at h84
  rw [ha] at h86
  have hz : (0 : Int) < w.length := by omega
  simp (disch := first | exact dI | fail) only [F56o0, F56o1, F56o2, F56o3, F56o4, F56o5, F56o6, F56o7, F56o8, F56o9, F56o10, F56o11, F56o12, F56o13, F56o14, F56o15, F56o16, F56o17, F56o18, F56o19, F56o20, F56o21, F56o22, F56o23, F56o24, F56o25, F56o26, F56o27, F56o28, F56p28, F56o29, F56o30, F56b31, F56o32, F56o33, F56o34, F56o35, F56o36, F56o37, F56p37, F56o38, F56c, F56, push_cast, ↓reduceIte, qa, qb, qc, qd, qe, qf, qg, qh, qi]
  refine ACall.pure h84 rfl ?_
  simp (disch := first | exact dI | fail) only [push_cast, ↓reduceIte, qa, qb, qc, qd, qe, qf, qg, qh, qi]
  refine ACall.pure h86 rfl ?_
  simp (disch := first | exact dI | fail) only [push_cast, ↓reduceIte, qa, qb, qc, qd, qe, qf, qg, qh, qi]
  exact lent_z [] (by simp (disch := first | exact dI | fail) only [push_cast, ↓reduceIte, qa, qb, qc, qd, qe, qf, qg, qh, qi])
theorem find56F_4n (n : Nat) (ih : FindF n) (t : Typ) (v : Val) (p : List UInt8) (l : List Mis) (R : Bool × List Mis) (hd : dep (n + 1) v) (ht : tyOk (n + 1) t) (hv : v.ok) (hp : p.length + 200 * (n + 1) ≤ 100000) (hi : invF false l) (hR : R = addF false l (missN (n + 1) t v p)) (h : ¬ (t.kind < 1 ∨ 10 < t.kind ∨ ¬ v.kind = t.kind)) (hf : formedV v = true) (hk : t.kind = 4) (hw : 0 < t.words.length) (ha : (t.words.any fun x => decide (x = v.text)) = false) :
    Lent Tryd.prog tabG 2 56 [.ptr 0 0, .pv t.pv, .pv v.pv, .pv (.str p)] (blkF false l) (.pv (.tup [])) (blkF R.1 R.2) := by
  have hd0 := hd
  simp only [dep] at hd0
  have h84 := formed84 v (by omega) (by omega) (by omega)
  have h85 := fun k => out85F false l t p k (by have := hi.1; omega) _ rfl
  have h83 := fun c => add83F false l p c (by have := hi.1; omega)
  have h88 := fun h9 hR => record88F n ih t v p false l R hd ht hv h9 hp hi hR
  have h86 := contains86 t.words v.text (by have := ht; simp only [tyOk] at this; omega)
  have h89 := typeField89 t v.text (by have := ht; simp only [tyOk] at this; omega)
  have hvo := hv
  have h83 := h83 4
  rw [missN_succ, miss1_noword h hf hk hw ha, addF_one] at hR
  obtain ⟨k, m, M, s, w, e, fs⟩ := t
  obtain ⟨vk, vi, vs, vt, vl, vf⟩ := v
  simp only [dep, tyOk, Val.lst, Val.fields, Val.text, Typ.fields, Typ.words, Typ.elem, Typ.kind, Val.kind, Typ.min, Typ.max, Typ.scale, Val.num, Val.scale] at *
  obtain ⟨d1, d2, d3, d4, d5⟩ := hd
  obtain ⟨t1, t2, t3, t4⟩ := ht
  refine Lent.intro F56_ok (by simp [F56]) ?_
  rw [Typ.pv_mk, Val.pv_mk] at *
  simp only [blkF] at *
  have c : vk = 4 := by omega
  subst hk c
  rw [← hR] at h83
  rw [hf] at h84
  rw [ha] at h86
  have hz : (0 : Int) < w.length := by omega
  simp (disch := first | exact dI | fail) only [F56o0, F56o1, F56o2, F56o3, F56o4, F56o5, F56o6, F56o7, F56o8, F56o9, F56o10, F56o11, F56o12, F56o13, F56o14, F56o15, F56o16, F56o17, F56o18, F56o19, F56o20, F56o21, F56o22, F56o23, F56o24, F56o25, F56o26, F56o27, F56o28, F56p28, F56o29, F56o30, F56b31, F56o32, F56o33, F56o34, F56o35, F56o36, F56o37, F56p37, F56o38, F56c, F56, push_cast, ↓reduceIte, qa, qb, qc, qd, qe, qf, qg, qh, qi]
  refine ACall.pure h84 rfl ?_
  simp (disch := first | exact dI | fail) only [push_cast, ↓reduceIte, qa, qb, qc, qd, qe, qf, qg, qh, qi]
  refine ACall.pure h86 rfl ?_
  simp (disch := first | exact dI | fail) only [push_cast, ↓reduceIte, qa, qb, qc, qd, qe, qf, qg, qh, qi]
  refine ACall.lentK h83 [0, 1] rfl (by simp (disch := first | exact dI | fail) only [push_cast, ↓reduceIte, qa, qb, qc, qd, qe, qf, qg, qh, qi]) (by simp (disch := first | exact dI | fail) only [push_cast, ↓reduceIte, qa, qb, qc, qd, qe, qf, qg, qh, qi]) ?_
  simp (disch := first | exact dI | fail) only [push_cast, ↓reduceIte, qa, qb, qc, qd, qe, qf, qg, qh, qi]
  exact lent_z [] (by simp (disch := first | exact dI | fail) only [push_cast, ↓reduceIte, qa, qb, qc, qd, qe, qf, qg, qh, qi])
theorem find56F_9 (n : Nat) (ih : FindF n) (t : Typ) (v : Val) (p : List UInt8) (l : List Mis) (R : Bool × List Mis) (hd : dep (n + 1) v) (ht : tyOk (n + 1) t) (hv : v.ok) (hp : p.length + 200 * (n + 1) ≤ 100000) (hi : invF false l) (hR : R = addF false l (missN (n + 1) t v p)) (h : ¬ (t.kind < 1 ∨ 10 < t.kind ∨ ¬ v.kind = t.kind)) (hf : formedV v = true) (hk : t.kind = 9) :
    Lent Tryd.prog tabG 2 56 [.ptr 0 0, .pv t.pv, .pv v.pv, .pv (.str p)] (blkF false l) (.pv (.tup [])) (blkF R.1 R.2) := by
  have hd0 := hd
  simp only [dep] at hd0
  have h84 := formed84 v (by omega) (by omega) (by omega)
  have h85 := fun k => out85F false l t p k (by have := hi.1; omega) _ rfl
  have h83 := fun c => add83F false l p c (by have := hi.1; omega)
  have h88 := fun h9 hR => record88F n ih t v p false l R hd ht hv h9 hp hi hR
  have h86 := contains86 t.words v.text (by have := ht; simp only [tyOk] at this; omega)
  have h89 := typeField89 t v.text (by have := ht; simp only [tyOk] at this; omega)
  have hvo := hv
  rw [missN_succ, miss1_rec h hf hk] at hR
  have h88 := h88 (by omega) hR
  obtain ⟨k, m, M, s, w, e, fs⟩ := t
  obtain ⟨vk, vi, vs, vt, vl, vf⟩ := v
  simp only [dep, tyOk, Val.lst, Val.fields, Val.text, Typ.fields, Typ.words, Typ.elem, Typ.kind, Val.kind, Typ.min, Typ.max, Typ.scale, Val.num, Val.scale] at *
  obtain ⟨d1, d2, d3, d4, d5⟩ := hd
  obtain ⟨t1, t2, t3, t4⟩ := ht
  refine Lent.intro F56_ok (by simp [F56]) ?_
  rw [Typ.pv_mk, Val.pv_mk] at *
  simp only [blkF] at *
  have c : vk = 9 := by omega
  subst hk c
  rw [hf] at h84
  simp (disch := first | exact dI | fail) only [F56o0, F56o1, F56o2, F56o3, F56o4, F56o5, F56o6, F56o7, F56o8, F56o9, F56o10, F56o11, F56o12, F56o13, F56o14, F56o15, F56o16, F56o17, F56o18, F56o19, F56o20, F56o21, F56o22, F56o23, F56o24, F56o25, F56o26, F56o27, F56o28, F56p28, F56o29, F56o30, F56b31, F56o32, F56o33, F56o34, F56o35, F56o36, F56o37, F56p37, F56o38, F56c, F56, push_cast, ↓reduceIte, qa, qb, qc, qd, qe, qf, qg, qh, qi]
  refine ACall.pure h84 rfl ?_
  simp (disch := first | exact dI | fail) only [push_cast, ↓reduceIte, qa, qb, qc, qd, qe, qf, qg, qh, qi]
  refine ACall.lentK h88 [0, 1] rfl (by simp (disch := first | exact dI | fail) only [push_cast, ↓reduceIte, qa, qb, qc, qd, qe, qf, qg, qh, qi]) (by simp (disch := first | exact dI | fail) only [push_cast, ↓reduceIte, qa, qb, qc, qd, qe, qf, qg, qh, qi]) ?_
  simp (disch := first | exact dI | fail) only [push_cast, ↓reduceIte, qa, qb, qc, qd, qe, qf, qg, qh, qi]
  exact lent_z [] (by simp (disch := first | exact dI | fail) only [push_cast, ↓reduceIte, qa, qb, qc, qd, qe, qf, qg, qh, qi])
theorem find56F_10n (n : Nat) (ih : FindF n) (t : Typ) (v : Val) (p : List UInt8) (l : List Mis) (R : Bool × List Mis) (hd : dep (n + 1) v) (ht : tyOk (n + 1) t) (hv : v.ok) (hp : p.length + 200 * (n + 1) ≤ 100000) (hi : invF false l) (hR : R = addF false l (missN (n + 1) t v p)) (h : ¬ (t.kind < 1 ∨ 10 < t.kind ∨ ¬ v.kind = t.kind)) (hf : formedV v = true) (hk : t.kind = 10) (hfd : t.fields.find? (named v.text) = none) :
    Lent Tryd.prog tabG 2 56 [.ptr 0 0, .pv t.pv, .pv v.pv, .pv (.str p)] (blkF false l) (.pv (.tup [])) (blkF R.1 R.2) := by
  have hd0 := hd
  simp only [dep] at hd0
  have h84 := formed84 v (by omega) (by omega) (by omega)
  have h85 := fun k => out85F false l t p k (by have := hi.1; omega) _ rfl
  have h83 := fun c => add83F false l p c (by have := hi.1; omega)
  have h88 := fun h9 hR => record88F n ih t v p false l R hd ht hv h9 hp hi hR
  have h86 := contains86 t.words v.text (by have := ht; simp only [tyOk] at this; omega)
  have h89 := typeField89 t v.text (by have := ht; simp only [tyOk] at this; omega)
  have hvo := hv
  have h83 := h83 7
  rw [missN_succ, miss1_var h hf hk, varM_none hfd, addF_one] at hR
  obtain ⟨k, m, M, s, w, e, fs⟩ := t
  obtain ⟨vk, vi, vs, vt, vl, vf⟩ := v
  simp only [dep, tyOk, Val.lst, Val.fields, Val.text, Typ.fields, Typ.words, Typ.elem, Typ.kind, Val.kind, Typ.min, Typ.max, Typ.scale, Val.num, Val.scale] at *
  obtain ⟨d1, d2, d3, d4, d5⟩ := hd
  obtain ⟨t1, t2, t3, t4⟩ := ht
  refine Lent.intro F56_ok (by simp [F56]) ?_
  rw [Typ.pv_mk, Val.pv_mk] at *
  simp only [blkF] at *
  have c : vk = 10 := by omega
  subst hk c
  rw [← hR] at h83
  rw [hf] at h84
  rw [hfd] at h89
  simp only [tfR, Option.getD_none, Option.isSome_none, zeroTF, TFd.pv_mk, Typ.pv_mk, List.map_nil] at h89
  simp (disch := first | exact dI | fail) only [F56o0, F56o1, F56o2, F56o3, F56o4, F56o5, F56o6, F56o7, F56o8, F56o9, F56o10, F56o11, F56o12, F56o13, F56o14, F56o15, F56o16, F56o17, F56o18, F56o19, F56o20, F56o21, F56o22, F56o23, F56o24, F56o25, F56o26, F56o27, F56o28, F56p28, F56o29, F56o30, F56b31, F56o32, F56o33, F56o34, F56o35, F56o36, F56o37, F56p37, F56o38, F56c, F56, push_cast, ↓reduceIte, qa, qb, qc, qd, qe, qf, qg, qh, qi]
  refine ACall.pure h84 rfl ?_
  simp (disch := first | exact dI | fail) only [push_cast, ↓reduceIte, qa, qb, qc, qd, qe, qf, qg, qh, qi]
  refine ACall.pure h89 rfl ?_
  simp (disch := first | exact dI | fail) only [push_cast, ↓reduceIte, qa, qb, qc, qd, qe, qf, qg, qh, qi]
  refine ACall.lentK h83 [0, 1] rfl (by simp (disch := first | exact dI | fail) only [push_cast, ↓reduceIte, qa, qb, qc, qd, qe, qf, qg, qh, qi]) (by simp (disch := first | exact dI | fail) only [push_cast, ↓reduceIte, qa, qb, qc, qd, qe, qf, qg, qh, qi]) ?_
  simp (disch := first | exact dI | fail) only [push_cast, ↓reduceIte, qa, qb, qc, qd, qe, qf, qg, qh, qi]
  exact lent_z [] (by simp (disch := first | exact dI | fail) only [push_cast, ↓reduceIte, qa, qb, qc, qd, qe, qf, qg, qh, qi])
theorem find56F_10 (n : Nat) (ih : FindF n) (t : Typ) (v : Val) (p : List UInt8) (l : List Mis) (R : Bool × List Mis) (hd : dep (n + 1) v) (ht : tyOk (n + 1) t) (hv : v.ok) (hp : p.length + 200 * (n + 1) ≤ 100000) (hi : invF false l) (hR : R = addF false l (missN (n + 1) t v p)) (h : ¬ (t.kind < 1 ∨ 10 < t.kind ∨ ¬ v.kind = t.kind)) (hf : formedV v = true) (hk : t.kind = 10) (hl : v.lst.length = 1) (z : TFd) (hfd : t.fields.find? (named v.text) = some z) :
    Lent Tryd.prog tabG 2 56 [.ptr 0 0, .pv t.pv, .pv v.pv, .pv (.str p)] (blkF false l) (.pv (.tup [])) (blkF R.1 R.2) := by
  have hd0 := hd
  simp only [dep] at hd0
  have h84 := formed84 v (by omega) (by omega) (by omega)
  have h85 := fun k => out85F false l t p k (by have := hi.1; omega) _ rfl
  have h83 := fun c => add83F false l p c (by have := hi.1; omega)
  have h88 := fun h9 hR => record88F n ih t v p false l R hd ht hv h9 hp hi hR
  have h86 := contains86 t.words v.text (by have := ht; simp only [tyOk] at this; omega)
  have h89 := typeField89 t v.text (by have := ht; simp only [tyOk] at this; omega)
  have hvo := hv
  rw [missN_succ, miss1_var h hf hk, varM_some hfd] at hR
  obtain ⟨k, m, M, s, w, e, fs⟩ := t
  obtain ⟨vk, vi, vs, vt, vl, vf⟩ := v
  simp only [dep, tyOk, Val.lst, Val.fields, Val.text, Typ.fields, Typ.words, Typ.elem, Typ.kind, Val.kind, Typ.min, Typ.max, Typ.scale, Val.num, Val.scale] at *
  obtain ⟨d1, d2, d3, d4, d5⟩ := hd
  obtain ⟨t1, t2, t3, t4⟩ := ht
  refine Lent.intro F56_ok (by simp [F56]) ?_
  rw [Typ.pv_mk, Val.pv_mk] at *
  simp only [blkF] at *
  have c : vk = 10 := by omega
  subst hk c
  rw [hf] at h84
  rw [hfd] at h89
  obtain ⟨x, rfl⟩ := List.length_eq_one_iff.1 hl
  have hxd := d4 x (List.mem_singleton.2 rfl)
  rw [Val.ok_mk] at hvo
  have hxo := hvo.2.2.2.2.2.1 x (List.mem_singleton.2 rfl)
  have hzt := (t4 z (List.mem_of_find?_eq_some hfd)).2
  obtain ⟨z1, z2, z3, z4, z5⟩ := z
  simp only [TFd.typ, List.headD_cons] at hzt hR
  have hih := ih z4 x (p ++ (63 :: vt)) false l _ hxd hzt hxo (by simp only [List.length_append, List.length_cons]; omega) hi rfl
  rw [← hR] at hih
  obtain ⟨w1, w2, w3, w4, w5, w6, w7⟩ := z4
  obtain ⟨x1, x2, x3, x4, x5, x6⟩ := x
  simp only [tfR, Option.getD_some, Option.isSome_some, TFd.pv_mk, Typ.pv_mk] at h89
  simp only [blkF, Typ.pv_mk, Val.pv_mk] at hih
  simp (disch := first | exact dI | fail) only [F56o0, F56o1, F56o2, F56o3, F56o4, F56o5, F56o6, F56o7, F56o8, F56o9, F56o10, F56o11, F56o12, F56o13, F56o14, F56o15, F56o16, F56o17, F56o18, F56o19, F56o20, F56o21, F56o22, F56o23, F56o24, F56o25, F56o26, F56o27, F56o28, F56p28, F56o29, F56o30, F56b31, F56o32, F56o33, F56o34, F56o35, F56o36, F56o37, F56p37, F56o38, F56c, F56, push_cast, ↓reduceIte, qa, qb, qc, qd, qe, qf, qg, qh, qi]
  refine ACall.pure h84 rfl ?_
  simp (disch := first | exact dI | fail) only [push_cast, ↓reduceIte, qa, qb, qc, qd, qe, qf, qg, qh, qi]
  refine ACall.pure h89 rfl ?_
  simp (disch := first | exact dI | fail) only [List.map_cons, List.map_nil, rElem_zero, List.getElem?_cons_zero, Val.pv_mk, push_cast, ↓reduceIte, qa, qb, qc, qd, qe, qf, qg, qh, qi]
  refine ACall.lentK hih [0, 1] rfl (by simp (disch := first | exact dI | fail) only [push_cast, ↓reduceIte, qa, qb, qc, qd, qe, qf, qg, qh, qi]) (by simp (disch := first | exact dI | fail) only [push_cast, ↓reduceIte, qa, qb, qc, qd, qe, qf, qg, qh, qi]) ?_
  simp (disch := first | exact dI | fail) only [push_cast, ↓reduceIte, qa, qb, qc, qd, qe, qf, qg, qh, qi]
  exact lent_z [] (by simp (disch := first | exact dI | fail) only [push_cast, ↓reduceIte, qa, qb, qc, qd, qe, qf, qg, qh, qi])
theorem find56F_step (n : Nat) (ih : FindF n) : FindF (n + 1) := by
  intro t v p d l R hd ht hv hp hi hR
  cases d with
  | true =>
    rw [addF_true] at hR; subst hR
    obtain ⟨k, m, M, s, w, e, fs⟩ := t
    obtain ⟨vk, vi, vs, vt, vl, vf⟩ := v
    refine Lent.intro F56_ok (by simp [F56]) ?_
    simp (disch := first | exact dI | fail) only [F56o0, F56o1, F56o2, F56o3, F56o4, F56o5, F56o6, F56o7, F56o8, F56o9, F56o10, F56o11, F56o12, F56o13, F56o14, F56o15, F56o16, F56o17, F56o18, F56o19, F56o20, F56o21, F56o22, F56o23, F56o24, F56o25, F56o26, F56o27, F56o28, F56p28, F56o29, F56o30, F56b31, F56o32, F56o33, F56o34, F56o35, F56o36, F56o37, F56p37, F56o38, F56c, F56, blkF, Typ.pv_mk, Val.pv_mk, push_cast, ↓reduceIte, qa, qb, qc, qd, qe, qf, qg, qh, qi]
    exact lent_z [] (by simp (disch := first | exact dI | fail) only [push_cast, ↓reduceIte, qa, qb, qc, qd, qe, qf, qg, qh, qi])
  | false =>
    by_cases h : t.kind < 1 ∨ 10 < t.kind ∨ ¬ v.kind = t.kind
    · exact find56F_kind n ih t v p l R hd ht hv hp hi hR h
    · by_cases hf : formedV v = false
      · exact find56F_bad n ih t v p l R hd ht hv hp hi hR h hf
      · have hf : formedV v = true := by simpa using hf
        have hk : t.kind = 1 ∨ t.kind = 2 ∨ t.kind = 3 ∨ t.kind = 4 ∨ t.kind = 5 ∨ t.kind = 6 ∨ t.kind = 7 ∨ t.kind = 8 ∨ t.kind = 9 ∨ t.kind = 10 := by omega
        rcases hk with hk | hk | hk | hk | hk | hk | hk | hk | hk | hk
        · exact find56F_1 n ih t v p l R hd ht hv hp hi hR h hf hk
        · exact find56F_2 n ih t v p l R hd ht hv hp hi hR h hf hk
        · by_cases hs : v.scale = t.scale
          · exact find56F_3s n ih t v p l R hd ht hv hp hi hR h hf hk hs
          · exact find56F_3 n ih t v p l R hd ht hv hp hi hR h hf hk hs
        · by_cases hw : t.words.length = 0
          · exact find56F_4 n ih t v p l R hd ht hv hp hi hR h hf hk hw
          · cases ha : (t.words.any fun x => decide (x = v.text)) with
            | true => exact find56F_4w n ih t v p l R hd ht hv hp hi hR h hf hk (by omega) ha
            | false => exact find56F_4n n ih t v p l R hd ht hv hp hi hR h hf hk (by omega) ha
        · exact find56F_5 n ih t v p l R hd ht hv hp hi hR h hf hk
        · exact find56F_6 n ih t v p l R hd ht hv hp hi hR h hf hk
        · exact find56F_7 n ih t v p l R hd ht hv hp hi hR h hf hk
        · exact find56F_list n ih t v p l R hd ht hv hp hi hR hk (by omega) hf
        · exact find56F_9 n ih t v p l R hd ht hv hp hi hR h hf hk
        · cases hfd : t.fields.find? (named v.text) with
          | none => exact find56F_10n n ih t v p l R hd ht hv hp hi hR h hf hk hfd
          | some z => exact find56F_10 n ih t v p l R hd ht hv hp hi hR h hf hk (formed10 (by omega) hf) z hfd
theorem find56F : ∀ n, FindF n
  | 0 => fun t v p d l R hd => hd.elim
  | n + 1 => find56F_step n (find56F n)
theorem addF_eq (a l : List Mis) : (addF false l a).1 = !a.isEmpty := by
  cases a with
  | nil => rfl
  | cons m r => rw [addF, stepF, addF_true]; rfl
theorem fits26 (n : Nat) (t : Typ) (v : Val) (hd : dep n v) (ht : tyOk n t) (hv : v.ok) (hn : n ≤ 400) : Pure Tryd.prog tabG 26 [t.pv, v.pv] (.bool (missN n t v []).isEmpty) := by
  have h56 := find56F n t v [] false [] _ hd ht hv (by simp; omega) ⟨by simp, by simp⟩ rfl
  have e := addF_eq (missN n t v []) []
  generalize addF false [] (missN n t v []) = S at *
  obtain ⟨Sd, Sl⟩ := S
  simp only at e
  have e2 : (missN n t v []).isEmpty = !Sd := by rw [e, Bool.not_not]
  rw [e2]
  obtain ⟨k, m, M, s, w, e, fs⟩ := t
  obtain ⟨vk, vi, vs, vt, vl, vf⟩ := v
  simp only [blkF, Typ.pv_mk, Val.pv_mk, List.map_nil] at h56
  refine Pure.intro F26_ok (by simp [F26]) ?_
  simp (disch := first | exact dI | fail) only [F26o0, F26o1, F26o2, F26o3, F26o4, F26c, F26, Typ.pv_mk, Val.pv_mk, push_cast, ↓reduceIte, qa, qb, qc, qd, qe, qf, qg, qh, qi]
  refine ACall.lentK h56 [4, 2] rfl (by simp (disch := first | exact dI | fail) only [push_cast, ↓reduceIte, qa, qb, qc, qd, qe, qf, qg, qh, qi]) (by simp (disch := first | exact dI | fail) only [push_cast, ↓reduceIte, qa, qb, qc, qd, qe, qf, qg, qh, qi]) ?_
  simp (disch := first | exact dI | fail) only [push_cast, ↓reduceIte, qa, qb, qc, qd, qe, qf, qg, qh, qi]
end Go.Proofs.YtikmckfppnmlnaaDoor
