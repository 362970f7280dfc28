/- A part of the proof for CodecEqualsCardSaid. -/
import Derived.Test.YtedanlflegfomaaGreatDoorEquGR6
import Derived.Test.YtedanlflegfomaaGreatDoorEquGSh
import Derived.Test.YtedanlflegfomaaGreatDoorCore6
set_option maxRecDepth 100000
set_option linter.unusedVariables false
set_option linter.unusedSimpArgs false
-- many steps
namespace Go.Proofs.YtedanlflegfomaaGreatDoor
open Go Go.Ab
attribute [local irreducible] vc
def intsP (l : List Int) : List PV := l.map (PV.int .i64)
theorem intsP_len (l : List Int) : (intsP l).length = l.length := by simp [intsP]
theorem intsP_at {l : List Int} {i : Nat} {x : Int} (h : l[i]? = some x) : (intsP l)[i]? = some (.int .i64 x) := by simp [intsP, h]
def eqI : List Int → List Int → Bool
 | [], [] => true
 | x :: r, y :: q => decide (x = y) && eqI r q
 | _, _ => false
theorem eqI_step {a b : List Int} {i : Nat} {x y : Int} (hx : a[i]? = some x) (hy : b[i]? = some y) : eqI (a.drop i) (b.drop i) = (decide (x = y) && eqI (a.drop (i + 1)) (b.drop (i + 1))) := by
 have hi := (List.getElem?_eq_some_iff.1 hx).1
 have he : a[i] = x := (List.getElem?_eq_some_iff.1 hx).2
 have hj := (List.getElem?_eq_some_iff.1 hy).1
 have hf : b[i] = y := (List.getElem?_eq_some_iff.1 hy).2
 rw [List.drop_eq_getElem_cons hi, List.drop_eq_getElem_cons hj, he, hf, eqI]
theorem eqI_len : ∀ {a b : List Int}, ¬ a.length = b.length → eqI a b = false
 | [], [], h => absurd rfl h
 | [], _ :: _, _ => rfl
 | _ :: _, [], _ => rfl
 | x :: r, y :: q, h => by rw [eqI, eqI_len (a := r) (b := q) (by simpa using h), Bool.and_false]
theorem eqI_comm : ∀ (a b : List Int), eqI a b = eqI b a
 | [], [] => rfl
 | [], _ :: _ => rfl
 | _ :: _, [] => rfl
 | x :: r, y :: q => by rw [eqI, eqI, eqI_comm r q, show decide (x = y) = decide (y = x) by by_cases h : x = y <;> simp [h, eq_comm]]
theorem eqI_self : ∀ (a : List Int), eqI a a = true
 | [] => rfl
 | x :: r => by rw [eqI, eqI_self r, decide_eq_true rfl]; rfl
set_option maxHeartbeats 2000000 in
theorem equal47 (a b : List Int) (hb : b.length ≤ 1000000) : Pure Tryz.prog tabG 47 [.list (intsP a), .list (intsP b)] (.bool (eqI a b)) := by
 by_cases hl : a.length = b.length
 ·have hlI : (a.length : Int) = (b.length : Int) := by omega
  obtain ⟨R, hR⟩ : ∃ R, R = eqI a b := ⟨_, rfl⟩
  rw [← hR]
  refine Pure.intro F47_ok (by simp [F47]) ?_
  simp (maxSteps:=9^7) (disch:=first|exact dI|fail) only [F47, intsP_len, hlI, push_cast, seval]
  refine vc_over ([]) (fun i : Nat => [(13, .pv (.int .i64 (i : Int)))]) (fun _ => []) (fun i => i ≤ b.length ∧ R = eqI (a.drop i) (b.drop i)) (fun i => b.length - i) (0) ?_; intro e0 σ0 n0 h0; simp (maxSteps:=9^7) (disch:=first|exact dI|fail) only [push_cast, seval] at h0; obtain ⟨rfl, rfl, rfl⟩ := h0; refine ⟨?_, ?_, ?_⟩
  ·simp (maxSteps:=9^7) (disch:=first|exact dI|fail) only [push_cast, seval]
  ·exact ⟨by omega, by simpa using hR⟩
  rintro i ⟨hi, hr⟩
  by_cases hlt : i < b.length
  ·have hltI : (i : Int) < (b.length : Int) := by omega
   obtain ⟨x, hx⟩ : ∃ x, a[i]? = some x := ⟨_, List.getElem?_eq_getElem (by omega)⟩
   obtain ⟨y, hy⟩ : ∃ y, b[i]? = some y := ⟨_, List.getElem?_eq_getElem hlt⟩
   rw [eqI_step hx hy] at hr
   have hx' := intsP_at hx
   have hy' := intsP_at hy
   by_cases he : x = y
   ·rw [decide_eq_true he, Bool.true_and] at hr
    simp (maxSteps:=9^7) (disch:=first|exact dI|fail) only [hx', hy', he, push_cast, seval]
    exact ⟨i + 1, hd_z (by simp (maxSteps:=9^7) (disch:=first|exact dI|fail) only [push_cast, seval]), ⟨by omega, hr⟩, by omega⟩
   ·rw [decide_eq_false he, Bool.false_and] at hr
    subst hr
    simp (maxSteps:=9^7) (disch:=first|exact dI|fail) only [hx', hy', he, push_cast, seval]
  ·have h1 : i = b.length := by omega
   subst h1
   rw [List.drop_length, List.drop_of_length_le (by omega)] at hr
   rw [show R = true from hr]
   simp (maxSteps:=9^7) (disch:=first|exact dI|fail) only [Int.lt_irrefl, push_cast, seval]
 ·have hlI : ¬ (a.length : Int) = (b.length : Int) := by omega
  rw [eqI_len hl]
  refine Pure.intro F47_ok (by simp [F47]) ?_
  simp (maxSteps:=9^7) (disch:=first|exact dI|fail) only [F47, intsP_len, hlI, push_cast, seval]
def eqF (k s : Int) (w : List Int) (k' s' : Int) (w' : List Int) : Bool := decide (k = k') && (decide (s = s') && eqI w w')
def fmtP (k s : Int) (w : List Int) : PV := .agg [.int .i64 k, .int .i64 s, .list (intsP w)]
theorem equal19 (k s : Int) (w : List Int) (k' s' : Int) (w' : List Int) (hb : w'.length ≤ 1000000) : Pure Tryz.prog tabG 19 [fmtP k s w, fmtP k' s' w'] (.bool (eqF k s w k' s' w')) := by
 have h47 := equal47 w w' hb
 simp only [eqF, fmtP]
 generalize eqI w w' = q at h47 ⊢
 refine Pure.intro F19_ok (by simp [F19]) ?_
 by_cases h1 : k = k'
 ·rw [decide_eq_true h1, Bool.true_and]
  by_cases h2 : s = s'
  ·rw [decide_eq_true h2, Bool.true_and]
   simp (maxSteps:=9^7) (disch:=first|exact dI|fail) only [F19, h1, h2, push_cast, seval]
   refine ACall.pure h47 rfl ?_
   simp (maxSteps:=9^7) (disch:=first|exact dI|fail) only [push_cast, seval]
  ·rw [decide_eq_false h2, Bool.false_and]
   simp (maxSteps:=9^7) (disch:=first|exact dI|fail) only [F19, h1, h2, push_cast, seval]
 ·rw [decide_eq_false h1, Bool.false_and]
  simp (maxSteps:=9^7) (disch:=first|exact dI|fail) only [F19, h1, push_cast, seval]
theorem eqF_comm (k s : Int) (w : List Int) (k' s' : Int) (w' : List Int) : eqF k s w k' s' w' = eqF k' s' w' k s w := by
 unfold eqF
 rw [eqI_comm w w', show decide (k = k') = decide (k' = k) by by_cases h : k = k' <;> simp [h, eq_comm], show decide (s = s') = decide (s' = s) by by_cases h : s = s' <;> simp [h, eq_comm]]
theorem eqF_self (k s : Int) (w : List Int) : eqF k s w k s w = true := by
 unfold eqF; rw [eqI_self, decide_eq_true rfl, decide_eq_true rfl]; rfl
set_option maxHeartbeats 4000000 in
theorem equals_law (k s : Int) (w : List Int) (k' s' : Int) (w' : List Int) : Pure Tryz.prog tabG 6 [fmtP k s w, fmtP k' s' w'] (.bool true) := by
 have h18 := known14
 by_cases hw : 70 < w.length
 ·have hwI : (70 : Int) < (w.length : Int) := by omega
  simp only [fmtP]
  refine Pure.intro F6_ok (by simp [F6]) ?_
  simp (maxSteps:=9^7) (disch:=first|exact dI|fail) only [F6, push_cast, seval]
  refine ACall.pure h18 rfl ?_
  simp (maxSteps:=9^7) (disch:=first|exact dI|fail) only [intsP_len, hwI, push_cast, seval]
  refine ACall.pure h18 rfl ?_
  simp (maxSteps:=9^7) (disch:=first|exact dI|fail) only [push_cast, seval]
 have hwI : ¬ (70 : Int) < (w.length : Int) := by omega
 by_cases hw' : 70 < w'.length
 ·have hwI' : (70 : Int) < (w'.length : Int) := by omega
  simp only [fmtP]
  refine Pure.intro F6_ok (by simp [F6]) ?_
  simp (maxSteps:=9^7) (disch:=first|exact dI|fail) only [F6, push_cast, seval]
  refine ACall.pure h18 rfl ?_
  simp (maxSteps:=9^7) (disch:=first|exact dI|fail) only [intsP_len, hwI, hwI', push_cast, seval]
  refine ACall.pure h18 rfl ?_
  simp (maxSteps:=9^7) (disch:=first|exact dI|fail) only [push_cast, seval]
 have hwI' : ¬ (70 : Int) < (w'.length : Int) := by omega
 have e1 := equal19 k s w k' s' w' (by omega)
 have e2 := equal19 k' s' w' k s w (by omega)
 have e3 := equal19 k s w k s w (by omega)
 rw [eqF_self] at e3
 rw [← eqF_comm] at e2
 obtain ⟨R, hR⟩ : ∃ R, R = eqF k s w k' s' w' := ⟨_, rfl⟩
 rw [← hR] at e1 e2
 simp only [fmtP] at e1 e2 e3 ⊢
 have hbf : (false == false) = true := rfl
 have hbt : (true == true) = true := rfl
 have tail : ∀ R, R = eqF k s w k' s' w' → True := fun _ _ => trivial
 simp only [eqF] at hR
 by_cases h1 : k = k'
 ·subst h1
  rw [decide_eq_true rfl, Bool.true_and] at hR
  by_cases h2 : s = s'
  ·subst h2
   rw [decide_eq_true rfl, Bool.true_and] at hR
   by_cases h3 : w.length = w'.length
   ·have h3I : (w.length : Int) = (w'.length : Int) := by omega
    refine Pure.intro F6_ok (by simp [F6]) ?_
    simp (maxSteps:=9^7) (disch:=first|exact dI|fail) only [F6, push_cast, seval]
    refine ACall.pure h18 rfl ?_
    simp (maxSteps:=9^7) (disch:=first|exact dI|fail) only [intsP_len, hwI, hwI', h3I, push_cast, seval]
    refine vc_over ([]) (fun x : Nat × Bool => [(5, .pv (.bool x.2)), (6, .pv (.int .i64 (x.1 : Int)))]) (fun _ => []) (fun x => x.1 ≤ w'.length ∧ R = (x.2 && eqI (w.drop x.1) (w'.drop x.1))) (fun x => w'.length - x.1) ((0, true)) ?_; intro e0 σ0 n0 h0; simp (maxSteps:=9^7) (disch:=first|exact dI|fail) only [push_cast, seval] at h0; obtain ⟨rfl, rfl, rfl⟩ := h0; refine ⟨?_, ?_, ?_⟩
    ·simp (maxSteps:=9^7) (disch:=first|exact dI|fail) only [push_cast, seval]
    ·exact ⟨by simp, by simpa using hR⟩
    rintro ⟨i, b⟩ ⟨hi, hr⟩
    simp only at hi hr
    by_cases hlt : i < w'.length
    ·have hltI : (i : Int) < (w'.length : Int) := by omega
     cases b with
     | false =>
       rw [Bool.false_and] at hr
       subst hr
       simp (maxSteps:=9^7) (disch:=first|exact dI|fail) only [intsP_len, h3I, push_cast, seval]
       refine ACall.pure e1 rfl ?_
       simp (maxSteps:=9^7) (disch:=first|exact dI|fail) only [hbf, push_cast, seval]
       refine ACall.pure e2 rfl ?_
       simp (maxSteps:=9^7) (disch:=first|exact dI|fail) only [hbf, push_cast, seval]
       refine ACall.pure e3 rfl ?_
       simp (maxSteps:=9^7) (disch:=first|exact dI|fail) only [push_cast, seval]
     | true =>
       obtain ⟨x, hx⟩ : ∃ x, w[i]? = some x := ⟨_, List.getElem?_eq_getElem (by omega)⟩
       obtain ⟨y, hy⟩ : ∃ y, w'[i]? = some y := ⟨_, List.getElem?_eq_getElem hlt⟩
       rw [eqI_step hx hy, Bool.true_and] at hr
       have hx' := intsP_at hx
       have hy' := intsP_at hy
       by_cases he : x = y
       ·rw [decide_eq_true he, Bool.true_and] at hr
        simp (maxSteps:=9^7) (disch:=first|exact dI|fail) only [intsP_len, h3I, hx', hy', he, push_cast, seval]
        exact ⟨(i + 1, true), hd_z (by simp (maxSteps:=9^7) (disch:=first|exact dI|fail) only [push_cast, seval]), ⟨by simp only; omega, by simpa using hr⟩, by simp only; omega⟩
       ·rw [decide_eq_false he, Bool.false_and] at hr
        simp (maxSteps:=9^7) (disch:=first|exact dI|fail) only [intsP_len, h3I, hx', hy', he, push_cast, seval]
        exact ⟨(i + 1, false), hd_z (by simp (maxSteps:=9^7) (disch:=first|exact dI|fail) only [push_cast, seval]), ⟨by simp only; omega, by simpa using hr⟩, by simp only; omega⟩
    ·have h5 : i = w'.length := by omega
     subst h5
     rw [List.drop_length, List.drop_of_length_le (by omega), show eqI [] [] = true from rfl, Bool.and_true] at hr
     subst hr
     cases R with
     | false =>
       simp (maxSteps:=9^7) (disch:=first|exact dI|fail) only [intsP_len, h3I, Int.lt_irrefl, push_cast, seval]
       refine ACall.pure e1 rfl ?_
       simp (maxSteps:=9^7) (disch:=first|exact dI|fail) only [hbf, push_cast, seval]
       refine ACall.pure e2 rfl ?_
       simp (maxSteps:=9^7) (disch:=first|exact dI|fail) only [hbf, push_cast, seval]
       refine ACall.pure e3 rfl ?_
       simp (maxSteps:=9^7) (disch:=first|exact dI|fail) only [push_cast, seval]
     | true =>
       simp (maxSteps:=9^7) (disch:=first|exact dI|fail) only [intsP_len, h3I, Int.lt_irrefl, push_cast, seval]
       refine ACall.pure e1 rfl ?_
       simp (maxSteps:=9^7) (disch:=first|exact dI|fail) only [hbt, push_cast, seval]
       refine ACall.pure e2 rfl ?_
       simp (maxSteps:=9^7) (disch:=first|exact dI|fail) only [hbt, push_cast, seval]
       refine ACall.pure e3 rfl ?_
       simp (maxSteps:=9^7) (disch:=first|exact dI|fail) only [push_cast, seval]
   ·have h3I : ¬ (w.length : Int) = (w'.length : Int) := by omega
    rw [eqI_len h3] at hR
    subst hR
    refine Pure.intro F6_ok (by simp [F6]) ?_
    simp (maxSteps:=9^7) (disch:=first|exact dI|fail) only [F6, push_cast, seval]
    refine ACall.pure h18 rfl ?_
    simp (maxSteps:=9^7) (disch:=first|exact dI|fail) only [intsP_len, hwI, hwI', h3I, push_cast, seval]
    refine vc_over ([]) (fun i : Nat => [(6, .pv (.int .i64 (i : Int)))]) (fun _ => []) (fun i => i = 0) (fun i => 1 - i) (0) ?_; intro e0 σ0 n0 h0; simp (maxSteps:=9^7) (disch:=first|exact dI|fail) only [push_cast, seval] at h0; obtain ⟨rfl, rfl, rfl⟩ := h0; refine ⟨?_, ?_, ?_⟩
    ·simp (maxSteps:=9^7) (disch:=first|exact dI|fail) only [push_cast, seval]
    ·rfl
    rintro i rfl
    by_cases h0 : (0 : Int) < (w.length : Int)
    ·simp (maxSteps:=9^7) (disch:=first|exact dI|fail) only [intsP_len, h0, push_cast, seval]
     refine ACall.pure e1 rfl ?_
     simp (maxSteps:=9^7) (disch:=first|exact dI|fail) only [hbf, push_cast, seval]
     refine ACall.pure e2 rfl ?_
     simp (maxSteps:=9^7) (disch:=first|exact dI|fail) only [hbf, push_cast, seval]
     refine ACall.pure e3 rfl ?_
     simp (maxSteps:=9^7) (disch:=first|exact dI|fail) only [push_cast, seval]
    ·simp (maxSteps:=9^7) (disch:=first|exact dI|fail) only [intsP_len, h0, push_cast, seval]
     refine ACall.pure e1 rfl ?_
     simp (maxSteps:=9^7) (disch:=first|exact dI|fail) only [hbf, push_cast, seval]
     refine ACall.pure e2 rfl ?_
     simp (maxSteps:=9^7) (disch:=first|exact dI|fail) only [hbf, push_cast, seval]
     refine ACall.pure e3 rfl ?_
     simp (maxSteps:=9^7) (disch:=first|exact dI|fail) only [push_cast, seval]
  ·rw [decide_eq_false h2, Bool.false_and] at hR
   subst hR
   refine Pure.intro F6_ok (by simp [F6]) ?_
   simp (maxSteps:=9^7) (disch:=first|exact dI|fail) only [F6, push_cast, seval]
   refine ACall.pure h18 rfl ?_
   simp (maxSteps:=9^7) (disch:=first|exact dI|fail) only [intsP_len, hwI, hwI', h2, push_cast, seval]
   refine vc_over ([]) (fun i : Nat => [(6, .pv (.int .i64 (i : Int)))]) (fun _ => []) (fun i => i = 0) (fun i => 1 - i) (0) ?_; intro e0 σ0 n0 h0; simp (maxSteps:=9^7) (disch:=first|exact dI|fail) only [push_cast, seval] at h0; obtain ⟨rfl, rfl, rfl⟩ := h0; refine ⟨?_, ?_, ?_⟩
   ·simp (maxSteps:=9^7) (disch:=first|exact dI|fail) only [push_cast, seval]
   ·rfl
   rintro i rfl
   by_cases h0 : (0 : Int) < (w.length : Int)
   ·simp (maxSteps:=9^7) (disch:=first|exact dI|fail) only [intsP_len, h0, push_cast, seval]
    refine ACall.pure e1 rfl ?_
    simp (maxSteps:=9^7) (disch:=first|exact dI|fail) only [hbf, push_cast, seval]
    refine ACall.pure e2 rfl ?_
    simp (maxSteps:=9^7) (disch:=first|exact dI|fail) only [hbf, push_cast, seval]
    refine ACall.pure e3 rfl ?_
    simp (maxSteps:=9^7) (disch:=first|exact dI|fail) only [push_cast, seval]
   ·simp (maxSteps:=9^7) (disch:=first|exact dI|fail) only [intsP_len, h0, push_cast, seval]
    refine ACall.pure e1 rfl ?_
    simp (maxSteps:=9^7) (disch:=first|exact dI|fail) only [hbf, push_cast, seval]
    refine ACall.pure e2 rfl ?_
    simp (maxSteps:=9^7) (disch:=first|exact dI|fail) only [hbf, push_cast, seval]
    refine ACall.pure e3 rfl ?_
    simp (maxSteps:=9^7) (disch:=first|exact dI|fail) only [push_cast, seval]
 ·rw [decide_eq_false h1, Bool.false_and] at hR
  subst hR
  refine Pure.intro F6_ok (by simp [F6]) ?_
  simp (maxSteps:=9^7) (disch:=first|exact dI|fail) only [F6, push_cast, seval]
  refine ACall.pure h18 rfl ?_
  simp (maxSteps:=9^7) (disch:=first|exact dI|fail) only [intsP_len, hwI, hwI', h1, push_cast, seval]
  refine vc_over ([]) (fun i : Nat => [(6, .pv (.int .i64 (i : Int)))]) (fun _ => []) (fun i => i = 0) (fun i => 1 - i) (0) ?_; intro e0 σ0 n0 h0; simp (maxSteps:=9^7) (disch:=first|exact dI|fail) only [push_cast, seval] at h0; obtain ⟨rfl, rfl, rfl⟩ := h0; refine ⟨?_, ?_, ?_⟩
  ·simp (maxSteps:=9^7) (disch:=first|exact dI|fail) only [push_cast, seval]
  ·rfl
  rintro i rfl
  by_cases h0 : (0 : Int) < (w.length : Int)
  ·simp (maxSteps:=9^7) (disch:=first|exact dI|fail) only [intsP_len, h0, push_cast, seval]
   refine ACall.pure e1 rfl ?_
   simp (maxSteps:=9^7) (disch:=first|exact dI|fail) only [hbf, push_cast, seval]
   refine ACall.pure e2 rfl ?_
   simp (maxSteps:=9^7) (disch:=first|exact dI|fail) only [hbf, push_cast, seval]
   refine ACall.pure e3 rfl ?_
   simp (maxSteps:=9^7) (disch:=first|exact dI|fail) only [push_cast, seval]
  ·simp (maxSteps:=9^7) (disch:=first|exact dI|fail) only [intsP_len, h0, push_cast, seval]
   refine ACall.pure e1 rfl ?_
   simp (maxSteps:=9^7) (disch:=first|exact dI|fail) only [hbf, push_cast, seval]
   refine ACall.pure e2 rfl ?_
   simp (maxSteps:=9^7) (disch:=first|exact dI|fail) only [hbf, push_cast, seval]
   refine ACall.pure e3 rfl ?_
   simp (maxSteps:=9^7) (disch:=first|exact dI|fail) only [push_cast, seval]
theorem equals_of (p0 p1 : PV) (h0 : HasT Tryz.prog 56 p0) (h1 : HasT Tryz.prog 56 p1) : Pure Tryz.prog tabG 6 [p0, p1] (.bool true) := by
 obtain ⟨⟨k, s, w⟩, rfl, _⟩ := hasT_Fmt h0
 obtain ⟨⟨k', s', w'⟩, rfl, _⟩ := hasT_Fmt h1
 have := equals_law k s w k' s' w'
 simp only [fmtP, intsP] at this
 simpa only [Fmt.pv_mk] using this
end Go.Proofs.YtedanlflegfomaaGreatDoor
set_option maxRecDepth 100000
namespace Go.Proofs.YtedanlflegfomaaGreatDoor
open Go Go.Ab Go.Lib Go.Proofs
theorem u8X : U8Extra Tryz.prog Tryz.lays196_ren := ⟨by kernel_rfl, by kernel_rfl, by kernel_rfl, by kernel_rfl, by kernel_rfl, by kernel_rfl, by kernel_rfl⟩
theorem globs_of {W : World} (h1 : VarReads Tryz.prog W "unicode/utf8.first" firstData) (h2 : VarReads Tryz.prog W "unicode/utf8.acceptRanges" acceptData)
  (h3 : VarReads Tryz.prog W "internal/strconv.uint64pow10" (tabData .u64 pow10Tab)) : GlobOk tabG W (immOf W) := by
 have hu := utf8Tabs_of_readsT (U8Types.of196 Tryz.lays196) u8X h1 h2
 refine globOk_of fun g hg => ?_
 unfold tabG at hg ⊢
 by_cases e3 : g = 3
 ·subst e3
  exact tabAt_ints (t := 268) (e := 162) (m := 20) h3 (by kernel_rfl) (by kernel_rfl) (by kernel_rfl) (by kernel_rfl) (by kernel_rfl) (by kernel_rfl) (by kernel_rfl)
 rw [if_neg e3] at hg ⊢
 by_cases e1 : g = 1
 ·subst e1
  rw [if_pos rfl] at hg ⊢
  refine tabAt_of (t := 231) (e := 5) (m := 256) h1 (by kernel_rfl) (by kernel_rfl) (by kernel_rfl) (by kernel_rfl) fun o p hp => ?_
  rw [u8G1, List.getElem?_map, Option.map_eq_some_iff] at hp
  obtain ⟨c, hc, rfl⟩ := hp
  obtain ⟨hlt, hcc⟩ := List.getElem?_eq_some_iff.1 hc
  simp at hlt hcc
  subst hcc
  exact ⟨_, _, rfl, hu.1 o hlt⟩
 rw [if_neg e1] at hg ⊢
 by_cases e2 : g = 2
 ·subst e2
  rw [if_pos rfl] at hg ⊢
  refine tabAt_of (t := 234) (e := 233) (m := 16) h2 (by kernel_rfl) (by kernel_rfl) (by kernel_rfl) (by kernel_rfl) fun o p hp => ?_
  rw [u8G2, List.getElem?_map, Option.map_eq_some_iff] at hp
  obtain ⟨c, hc, rfl⟩ := hp
  obtain ⟨hlt, hcc⟩ := List.getElem?_eq_some_iff.1 hc
  simp at hlt hcc
  subst hcc
  have := hu.2 (o / 2) (by omega)
  by_cases ho : o % 2 = 0
  ·rw [if_pos ho]
   refine ⟨_, _, rfl, ?_⟩
   have := this.1
   rwa [show 2 * (o / 2) = o by omega] at this
  ·rw [if_neg ho]
   refine ⟨_, _, rfl, ?_⟩
   have := this.2
   rwa [show 2 * (o / 2) + 1 = o by omega] at this
 rw [if_neg e2] at hg
 exact absurd rfl hg
end Go.Proofs.YtedanlflegfomaaGreatDoor
