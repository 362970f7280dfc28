/- A part of the proof for DelimitedValuesCardSaid. -/
import Derived.Test.YtbaaokocnegdoaaGreatDoorValWS
set_option maxRecDepth 100000
set_option linter.unusedVariables false
set_option linter.unusedSimpArgs false
-- many steps
namespace Go.Proofs.YtbaaokocnegdoaaGreatDoor
open Go Go.Ab
attribute [local irreducible] vc
def finV (t : Typ) (q : Int × Int × List UInt8) (F : Bool) : Val × Int := if F = true then (valQ t.kind q, 0) else (zeroV, 18)
theorem valN_fin {t : Typ} {s : List UInt8} (hk : isSc t.kind = true) (ho : (rdQ t.kind s).2 = true) : valN t s = finV t (rdQ t.kind s).1 (missN 1 t (valQ t.kind (rdQ t.kind s).1) []).isEmpty := by
 unfold valN finV
 rw [if_neg (by rw [hk]; simp), if_neg (by rw [ho]; simp)]
theorem valN_no {t : Typ} {s : List UInt8} (hk : isSc t.kind = true) (ho : (rdQ t.kind s).2 = false) : valN t s = (zeroV, 13) := by
 unfold valN
 rw [if_neg (by rw [hk]; simp), if_pos ho]
theorem hfit {T : Nat} {p : PV} {t : Typ} {q : Int × Int × List UInt8} (hk : isSc t.kind = true) (ht : tyOk 1 t) (hq : I64 q.1 ∧ I64 q.2.1 ∧ q.2.2.length ≤ 100) :
  Pure Tryz.prog (tabE T p) 37 [t.pv, vN t.kind q.1 q.2.1 q.2.2] (.bool (missN 1 t (valQ t.kind q) []).isEmpty) :=
 toE ((fits26S t (valQ t.kind q) ((isSc_iff _).1 hk) (valQ_dep hq.2.2) ht (valQ_ok hk hq)).nz (.cons _ _ _ _ (.refl _) (.cons _ _ _ _ (valQ_nz _ _) .nil)))
theorem valueOf12_1 {T : Nat} {p : PV} {a b c : Int} {w : List (List UInt8)} {e : List Typ} {f : List TFd} (s : List UInt8) (hl : s.length ≤ 100) (ht : tyOk 1 (.mk 1 a b c w e f)) :
  Pure Tryz.prog (tabE T p) 12 [(Typ.mk 1 a b c w e f).pv, .str s] (.tup [(valN (.mk 1 a b c w e f) s).1.pv, .int .i64 (valN (.mk 1 a b c w e f) s).2]) := by
 have hk : isSc (Typ.mk 1 a b c w e f).kind = true := rfl
 have hs := toE (T := T) (p := p) (scalar32 (.mk 1 a b c w e f))
 rw [hk] at hs
 simp only [Typ.pv_mk] at hs
 have hn := valN_no (t := .mk 1 a b c w e f) (s := s) hk
 have hf := valN_fin (t := .mk 1 a b c w e f) (s := s) hk
 have hqq := rdQ_ok (k := 1) (s := s) hk hl
 have hF := fun hq => hfit (T := T) (p := p) (t := .mk 1 a b c w e f) (q := (rdQ 1 s).1) hk ht hq
 simp only [Typ.kind] at hn hf hF
 rw [rdQ_1] at hn hf hqq hF
 simp only at hn hf hqq hF
 unfold vN at hF
 simp only [Typ.pv_mk] at hF
 by_cases h1 : s = trueB
 ·subst h1
  have ho : (decide (trueB = trueB) || decide (trueB = falseB)) = true := rfl
  have hF1 := hF (hqq ho)
  rw [hf ho]
  rw [if_pos rfl] at hF1 ⊢
  generalize missN 1 _ _ [] = M at hF1 ⊢
  generalize M.isEmpty = F at *
  clear hn hf hqq hF
  unfold trueB
  cases F with
  | true =>
    refine Pure.intro F12_ok (by simp [F12]) ?_
    simp (maxSteps:=9^7) (disch:=first|exact dI|fail) only [F12, Typ.pv_mk, finV, valQ, zeroV, Typ.kind, Val.pv_mk, push_cast, seval]
    refine ACall.pure hs rfl ?_
    simp (maxSteps:=9^7) (disch:=first|exact dI|fail) only [finV, valQ, zeroV, Typ.kind, Val.pv_mk, List.map_nil, if_true, Bool.false_eq_true, if_false, push_cast, seval]
    refine ACall.pure hF1 rfl ?_
    simp (maxSteps:=9^7) (disch:=first|exact dI|fail) only [finV, valQ, zeroV, Typ.kind, Val.pv_mk, List.map_nil, if_true, Bool.false_eq_true, if_false, push_cast, seval]
  | false =>
    refine Pure.intro F12_ok (by simp [F12]) ?_
    simp (maxSteps:=9^7) (disch:=first|exact dI|fail) only [F12, Typ.pv_mk, finV, valQ, zeroV, Typ.kind, Val.pv_mk, push_cast, seval]
    refine ACall.pure hs rfl ?_
    simp (maxSteps:=9^7) (disch:=first|exact dI|fail) only [finV, valQ, zeroV, Typ.kind, Val.pv_mk, List.map_nil, if_true, Bool.false_eq_true, if_false, push_cast, seval]
    refine ACall.pure hF1 rfl ?_
    simp (maxSteps:=9^7) (disch:=first|exact dI|fail) only [finV, valQ, zeroV, Typ.kind, Val.pv_mk, List.map_nil, if_true, Bool.false_eq_true, if_false, push_cast, seval]
 ·by_cases h2 : s = falseB
  ·subst h2
   have ho : (decide (falseB = trueB) || decide (falseB = falseB)) = true := rfl
   have hF1 := hF (hqq ho)
   rw [hf ho]
   rw [if_neg h1] at hF1 ⊢
   generalize missN 1 _ _ [] = M at hF1 ⊢
   generalize M.isEmpty = F at *
   clear hn hf hqq hF
   unfold falseB
   have h1b : decide (([102, 97, 108, 115, 101] : List UInt8) = [116, 114, 117, 101]) = false := rfl
   cases F with
   | true =>
     refine Pure.intro F12_ok (by simp [F12]) ?_
     simp (maxSteps:=9^7) (disch:=first|exact dI|fail) only [F12, Typ.pv_mk, finV, valQ, zeroV, Typ.kind, Val.pv_mk, h1b, push_cast, seval]
     refine ACall.pure hs rfl ?_
     simp (maxSteps:=9^7) (disch:=first|exact dI|fail) only [finV, valQ, zeroV, Typ.kind, Val.pv_mk, List.map_nil, if_true, Bool.false_eq_true, if_false, h1b, push_cast, seval]
     refine ACall.pure hF1 rfl ?_
     simp (maxSteps:=9^7) (disch:=first|exact dI|fail) only [finV, valQ, zeroV, Typ.kind, Val.pv_mk, List.map_nil, if_true, Bool.false_eq_true, if_false, h1b, push_cast, seval]
   | false =>
     refine Pure.intro F12_ok (by simp [F12]) ?_
     simp (maxSteps:=9^7) (disch:=first|exact dI|fail) only [F12, Typ.pv_mk, finV, valQ, zeroV, Typ.kind, Val.pv_mk, h1b, push_cast, seval]
     refine ACall.pure hs rfl ?_
     simp (maxSteps:=9^7) (disch:=first|exact dI|fail) only [finV, valQ, zeroV, Typ.kind, Val.pv_mk, List.map_nil, if_true, Bool.false_eq_true, if_false, h1b, push_cast, seval]
     refine ACall.pure hF1 rfl ?_
     simp (maxSteps:=9^7) (disch:=first|exact dI|fail) only [finV, valQ, zeroV, Typ.kind, Val.pv_mk, List.map_nil, if_true, Bool.false_eq_true, if_false, h1b, push_cast, seval]
  ·have ho : (decide (s = trueB) || decide (s = falseB)) = false := by rw [decide_eq_false h1, decide_eq_false h2]; rfl
   rw [hn ho]
   have h1b : decide (s = [116, 114, 117, 101]) = false := decide_eq_false h1
   have h2b : decide (s = [102, 97, 108, 115, 101]) = false := decide_eq_false h2
   clear hn hf hqq hF
   refine Pure.intro F12_ok (by simp [F12]) ?_
   simp (maxSteps:=9^7) (disch:=first|exact dI|fail) only [F12, Typ.pv_mk, finV, valQ, zeroV, Typ.kind, Val.pv_mk, h1b, h2b, push_cast, seval]
   refine ACall.pure hs rfl ?_
   simp (maxSteps:=9^7) (disch:=first|exact dI|fail) only [finV, valQ, zeroV, Typ.kind, Val.pv_mk, List.map_nil, if_true, Bool.false_eq_true, if_false, h1b, h2b, push_cast, seval]
theorem valueOf12_2 {T : Nat} {p : PV} {a b c : Int} {w : List (List UInt8)} {e : List Typ} {f : List TFd} (s : List UInt8) (hl : s.length ≤ 100) (ht : tyOk 1 (.mk 2 a b c w e f)) :
  Pure Tryz.prog (tabE T p) 12 [(Typ.mk 2 a b c w e f).pv, .str s] (.tup [(valN (.mk 2 a b c w e f) s).1.pv, .int .i64 (valN (.mk 2 a b c w e f) s).2]) := by
 have hk : isSc (Typ.mk 2 a b c w e f).kind = true := rfl
 have hs := toE (T := T) (p := p) (scalar32 (.mk 2 a b c w e f))
 rw [hk] at hs
 simp only [Typ.pv_mk] at hs
 have hn := valN_no (t := .mk 2 a b c w e f) (s := s) hk
 have hf := valN_fin (t := .mk 2 a b c w e f) (s := s) hk
 have hqq := rdQ_ok (k := 2) (s := s) hk hl
 have hF := fun hq => hfit (T := T) (p := p) (t := .mk 2 a b c w e f) (q := (rdQ 2 s).1) hk ht hq
 simp only [Typ.kind] at hn hf hF
 rw [rdQ_2] at hn hf hqq hF
 simp only at hn hf hqq hF
 unfold vN at hF
 simp only [Typ.pv_mk] at hF
 have hp := parse33 (T := T) (p := p) s
 generalize parseN s = N at *
 obtain ⟨⟨n, sc⟩, er⟩ := N
 simp only at hp hn hf hqq hF
 by_cases he : er = 0
 ·subst he
  by_cases hz : sc = 0
  ·subst hz
   have ho : (decide ((0 : Int) = 0) && decide ((0 : Nat) = 0)) = true := rfl
   have hF1 := hF (hqq ho)
   rw [hf ho]
   generalize missN 1 _ _ [] = M at hF1 ⊢
   generalize M.isEmpty = F at *
   clear hn hf hqq hF
   cases F with
   | true =>
     refine Pure.intro F12_ok (by simp [F12]) ?_
     simp (maxSteps:=9^7) (disch:=first|exact dI|fail) only [F12, Typ.pv_mk, finV, valQ, zeroV, Typ.kind, Val.pv_mk, push_cast, seval]
     refine ACall.pure hs rfl ?_
     simp (maxSteps:=9^7) (disch:=first|exact dI|fail) only [finV, valQ, zeroV, Typ.kind, Val.pv_mk, List.map_nil, if_true, Bool.false_eq_true, if_false, push_cast, seval]
     refine ACall.pure hp rfl ?_
     simp (maxSteps:=9^7) (disch:=first|exact dI|fail) only [finV, valQ, zeroV, Typ.kind, Val.pv_mk, List.map_nil, if_true, Bool.false_eq_true, if_false, push_cast, seval]
     refine ACall.pure hF1 rfl ?_
     simp (maxSteps:=9^7) (disch:=first|exact dI|fail) only [finV, valQ, zeroV, Typ.kind, Val.pv_mk, List.map_nil, if_true, Bool.false_eq_true, if_false, push_cast, seval]
   | false =>
     refine Pure.intro F12_ok (by simp [F12]) ?_
     simp (maxSteps:=9^7) (disch:=first|exact dI|fail) only [F12, Typ.pv_mk, finV, valQ, zeroV, Typ.kind, Val.pv_mk, push_cast, seval]
     refine ACall.pure hs rfl ?_
     simp (maxSteps:=9^7) (disch:=first|exact dI|fail) only [finV, valQ, zeroV, Typ.kind, Val.pv_mk, List.map_nil, if_true, Bool.false_eq_true, if_false, push_cast, seval]
     refine ACall.pure hp rfl ?_
     simp (maxSteps:=9^7) (disch:=first|exact dI|fail) only [finV, valQ, zeroV, Typ.kind, Val.pv_mk, List.map_nil, if_true, Bool.false_eq_true, if_false, push_cast, seval]
     refine ACall.pure hF1 rfl ?_
     simp (maxSteps:=9^7) (disch:=first|exact dI|fail) only [finV, valQ, zeroV, Typ.kind, Val.pv_mk, List.map_nil, if_true, Bool.false_eq_true, if_false, push_cast, seval]
  ·have ho : (decide ((0 : Int) = 0) && decide (sc = 0)) = false := by rw [decide_eq_false hz]; rfl
   rw [hn ho]
   have hzI : ¬ (sc : Int) = 0 := by omega
   clear hn hf hqq hF
   refine Pure.intro F12_ok (by simp [F12]) ?_
   simp (maxSteps:=9^7) (disch:=first|exact dI|fail) only [F12, Typ.pv_mk, finV, valQ, zeroV, Typ.kind, Val.pv_mk, push_cast, seval]
   refine ACall.pure hs rfl ?_
   simp (maxSteps:=9^7) (disch:=first|exact dI|fail) only [finV, valQ, zeroV, Typ.kind, Val.pv_mk, List.map_nil, if_true, Bool.false_eq_true, if_false, push_cast, seval]
   refine ACall.pure hp rfl ?_
   simp (maxSteps:=9^7) (disch:=first|exact dI|fail) only [finV, valQ, zeroV, Typ.kind, Val.pv_mk, List.map_nil, if_true, Bool.false_eq_true, if_false, push_cast, seval]
 ·have ho : (decide (er = 0) && decide (sc = 0)) = false := by rw [decide_eq_false he]; rfl
  rw [hn ho]
  clear hn hf hqq hF
  by_cases hz : (sc : Int) = 0
  ·rw [hz] at hp
   refine Pure.intro F12_ok (by simp [F12]) ?_
   simp (maxSteps:=9^7) (disch:=first|exact dI|fail) only [F12, Typ.pv_mk, finV, valQ, zeroV, Typ.kind, Val.pv_mk, push_cast, seval]
   refine ACall.pure hs rfl ?_
   simp (maxSteps:=9^7) (disch:=first|exact dI|fail) only [finV, valQ, zeroV, Typ.kind, Val.pv_mk, List.map_nil, if_true, Bool.false_eq_true, if_false, push_cast, seval]
   refine ACall.pure hp rfl ?_
   simp (maxSteps:=9^7) (disch:=first|exact dI|fail) only [finV, valQ, zeroV, Typ.kind, Val.pv_mk, List.map_nil, if_true, Bool.false_eq_true, if_false, push_cast, seval]
  ·skip
   refine Pure.intro F12_ok (by simp [F12]) ?_
   simp (maxSteps:=9^7) (disch:=first|exact dI|fail) only [F12, Typ.pv_mk, finV, valQ, zeroV, Typ.kind, Val.pv_mk, push_cast, seval]
   refine ACall.pure hs rfl ?_
   simp (maxSteps:=9^7) (disch:=first|exact dI|fail) only [finV, valQ, zeroV, Typ.kind, Val.pv_mk, List.map_nil, if_true, Bool.false_eq_true, if_false, push_cast, seval]
   refine ACall.pure hp rfl ?_
   simp (maxSteps:=9^7) (disch:=first|exact dI|fail) only [finV, valQ, zeroV, Typ.kind, Val.pv_mk, List.map_nil, if_true, Bool.false_eq_true, if_false, push_cast, seval]
theorem valueOf12_3 {T : Nat} {p : PV} {a b c : Int} {w : List (List UInt8)} {e : List Typ} {f : List TFd} (s : List UInt8) (hl : s.length ≤ 100) (ht : tyOk 1 (.mk 3 a b c w e f)) :
  Pure Tryz.prog (tabE T p) 12 [(Typ.mk 3 a b c w e f).pv, .str s] (.tup [(valN (.mk 3 a b c w e f) s).1.pv, .int .i64 (valN (.mk 3 a b c w e f) s).2]) := by
 have hk : isSc (Typ.mk 3 a b c w e f).kind = true := rfl
 have hs := toE (T := T) (p := p) (scalar32 (.mk 3 a b c w e f))
 rw [hk] at hs
 simp only [Typ.pv_mk] at hs
 have hn := valN_no (t := .mk 3 a b c w e f) (s := s) hk
 have hf := valN_fin (t := .mk 3 a b c w e f) (s := s) hk
 have hqq := rdQ_ok (k := 3) (s := s) hk hl
 have hF := fun hq => hfit (T := T) (p := p) (t := .mk 3 a b c w e f) (q := (rdQ 3 s).1) hk ht hq
 simp only [Typ.kind] at hn hf hF
 rw [rdQ_3] at hn hf hqq hF
 simp only at hn hf hqq hF
 unfold vN at hF
 simp only [Typ.pv_mk] at hF
 have hp := parse33 (T := T) (p := p) s
 generalize parseN s = N at *
 obtain ⟨⟨n, sc⟩, er⟩ := N
 simp only at hp hn hf hqq hF
 by_cases he : er = 0
 ·subst he
  have ho : decide ((0 : Int) = 0) = true := rfl
  have hF1 := hF (hqq ho)
  rw [hf ho]
  generalize missN 1 _ _ [] = M at hF1 ⊢
  generalize M.isEmpty = F at *
  clear hn hf hqq hF
  cases F with
  | true =>
    refine Pure.intro F12_ok (by simp [F12]) ?_
    simp (maxSteps:=9^7) (disch:=first|exact dI|fail) only [F12, Typ.pv_mk, finV, valQ, zeroV, Typ.kind, Val.pv_mk, push_cast, seval]
    refine ACall.pure hs rfl ?_
    simp (maxSteps:=9^7) (disch:=first|exact dI|fail) only [finV, valQ, zeroV, Typ.kind, Val.pv_mk, List.map_nil, if_true, Bool.false_eq_true, if_false, push_cast, seval]
    refine ACall.pure hp rfl ?_
    simp (maxSteps:=9^7) (disch:=first|exact dI|fail) only [finV, valQ, zeroV, Typ.kind, Val.pv_mk, List.map_nil, if_true, Bool.false_eq_true, if_false, push_cast, seval]
    refine ACall.pure hF1 rfl ?_
    simp (maxSteps:=9^7) (disch:=first|exact dI|fail) only [finV, valQ, zeroV, Typ.kind, Val.pv_mk, List.map_nil, if_true, Bool.false_eq_true, if_false, push_cast, seval]
  | false =>
    refine Pure.intro F12_ok (by simp [F12]) ?_
    simp (maxSteps:=9^7) (disch:=first|exact dI|fail) only [F12, Typ.pv_mk, finV, valQ, zeroV, Typ.kind, Val.pv_mk, push_cast, seval]
    refine ACall.pure hs rfl ?_
    simp (maxSteps:=9^7) (disch:=first|exact dI|fail) only [finV, valQ, zeroV, Typ.kind, Val.pv_mk, List.map_nil, if_true, Bool.false_eq_true, if_false, push_cast, seval]
    refine ACall.pure hp rfl ?_
    simp (maxSteps:=9^7) (disch:=first|exact dI|fail) only [finV, valQ, zeroV, Typ.kind, Val.pv_mk, List.map_nil, if_true, Bool.false_eq_true, if_false, push_cast, seval]
    refine ACall.pure hF1 rfl ?_
    simp (maxSteps:=9^7) (disch:=first|exact dI|fail) only [finV, valQ, zeroV, Typ.kind, Val.pv_mk, List.map_nil, if_true, Bool.false_eq_true, if_false, push_cast, seval]
 ·have ho : decide (er = 0) = false := decide_eq_false he
  rw [hn ho]
  clear hn hf hqq hF
  refine Pure.intro F12_ok (by simp [F12]) ?_
  simp (maxSteps:=9^7) (disch:=first|exact dI|fail) only [F12, Typ.pv_mk, finV, valQ, zeroV, Typ.kind, Val.pv_mk, push_cast, seval]
  refine ACall.pure hs rfl ?_
  simp (maxSteps:=9^7) (disch:=first|exact dI|fail) only [finV, valQ, zeroV, Typ.kind, Val.pv_mk, List.map_nil, if_true, Bool.false_eq_true, if_false, push_cast, seval]
  refine ACall.pure hp rfl ?_
  simp (maxSteps:=9^7) (disch:=first|exact dI|fail) only [finV, valQ, zeroV, Typ.kind, Val.pv_mk, List.map_nil, if_true, Bool.false_eq_true, if_false, push_cast, seval]
theorem valueOf12_4 {T : Nat} {p : PV} {a b c : Int} {w : List (List UInt8)} {e : List Typ} {f : List TFd} (s : List UInt8) (hl : s.length ≤ 100) (ht : tyOk 1 (.mk 4 a b c w e f)) :
  Pure Tryz.prog (tabE T p) 12 [(Typ.mk 4 a b c w e f).pv, .str s] (.tup [(valN (.mk 4 a b c w e f) s).1.pv, .int .i64 (valN (.mk 4 a b c w e f) s).2]) := by
 have hk : isSc (Typ.mk 4 a b c w e f).kind = true := rfl
 have hs := toE (T := T) (p := p) (scalar32 (.mk 4 a b c w e f))
 rw [hk] at hs
 simp only [Typ.pv_mk] at hs
 have hn := valN_no (t := .mk 4 a b c w e f) (s := s) hk
 have hf := valN_fin (t := .mk 4 a b c w e f) (s := s) hk
 have hqq := rdQ_ok (k := 4) (s := s) hk hl
 have hF := fun hq => hfit (T := T) (p := p) (t := .mk 4 a b c w e f) (q := (rdQ 4 s).1) hk ht hq
 simp only [Typ.kind] at hn hf hF
 rw [rdQ_4] at hn hf hqq hF
 simp only at hn hf hqq hF
 unfold vN at hF
 simp only [Typ.pv_mk] at hF
 have hF1 := hF (hqq trivial)
 rw [hf trivial]
 generalize missN 1 _ _ [] = M at hF1 ⊢
 generalize M.isEmpty = F at *
 clear hn hf hqq hF
 cases F with
 | true =>
   refine Pure.intro F12_ok (by simp [F12]) ?_
   simp (maxSteps:=9^7) (disch:=first|exact dI|fail) only [F12, Typ.pv_mk, finV, valQ, zeroV, Typ.kind, Val.pv_mk, push_cast, seval]
   refine ACall.pure hs rfl ?_
   simp (maxSteps:=9^7) (disch:=first|exact dI|fail) only [finV, valQ, zeroV, Typ.kind, Val.pv_mk, List.map_nil, if_true, Bool.false_eq_true, if_false, push_cast, seval]
   refine ACall.pure hF1 rfl ?_
   simp (maxSteps:=9^7) (disch:=first|exact dI|fail) only [finV, valQ, zeroV, Typ.kind, Val.pv_mk, List.map_nil, if_true, Bool.false_eq_true, if_false, push_cast, seval]
 | false =>
   refine Pure.intro F12_ok (by simp [F12]) ?_
   simp (maxSteps:=9^7) (disch:=first|exact dI|fail) only [F12, Typ.pv_mk, finV, valQ, zeroV, Typ.kind, Val.pv_mk, push_cast, seval]
   refine ACall.pure hs rfl ?_
   simp (maxSteps:=9^7) (disch:=first|exact dI|fail) only [finV, valQ, zeroV, Typ.kind, Val.pv_mk, List.map_nil, if_true, Bool.false_eq_true, if_false, push_cast, seval]
   refine ACall.pure hF1 rfl ?_
   simp (maxSteps:=9^7) (disch:=first|exact dI|fail) only [finV, valQ, zeroV, Typ.kind, Val.pv_mk, List.map_nil, if_true, Bool.false_eq_true, if_false, push_cast, seval]
theorem valueOf12_5 {T : Nat} {p : PV} {a b c : Int} {w : List (List UInt8)} {e : List Typ} {f : List TFd} (s : List UInt8) (hl : s.length ≤ 100) (ht : tyOk 1 (.mk 5 a b c w e f)) :
  Pure Tryz.prog (tabE T p) 12 [(Typ.mk 5 a b c w e f).pv, .str s] (.tup [(valN (.mk 5 a b c w e f) s).1.pv, .int .i64 (valN (.mk 5 a b c w e f) s).2]) := by
 have hk : isSc (Typ.mk 5 a b c w e f).kind = true := rfl
 have hs := toE (T := T) (p := p) (scalar32 (.mk 5 a b c w e f))
 rw [hk] at hs
 simp only [Typ.pv_mk] at hs
 have hn := valN_no (t := .mk 5 a b c w e f) (s := s) hk
 have hf := valN_fin (t := .mk 5 a b c w e f) (s := s) hk
 have hqq := rdQ_ok (k := 5) (s := s) hk hl
 have hF := fun hq => hfit (T := T) (p := p) (t := .mk 5 a b c w e f) (q := (rdQ 5 s).1) hk ht hq
 simp only [Typ.kind] at hn hf hF
 rw [rdQ_5] at hn hf hqq hF
 simp only at hn hf hqq hF
 unfold vN at hF
 simp only [Typ.pv_mk] at hF
 have hp := toE (T := T) (p := p) (unhex34 s (by omega))
 by_cases h2 : s.length % 2 = 0
 ·rw [hexE_even h2] at hp
  cases he : hexE s with
  | none =>
    have ho : ((hexE s).isSome && decide (s.length % 2 = 0)) = false := by rw [he]; rfl
    rw [hn ho]
    rw [he] at hp
    simp only [hexV] at hp
    clear hn hf hqq hF
    refine Pure.intro F12_ok (by simp [F12]) ?_
    simp (maxSteps:=9^7) (disch:=first|exact dI|fail) only [F12, Typ.pv_mk, finV, valQ, zeroV, Typ.kind, Val.pv_mk, push_cast, seval]
    refine ACall.pure hs rfl ?_
    simp (maxSteps:=9^7) (disch:=first|exact dI|fail) only [finV, valQ, zeroV, Typ.kind, Val.pv_mk, List.map_nil, if_true, Bool.false_eq_true, if_false, push_cast, seval]
    refine ACall.pure hp rfl ?_
    simp (maxSteps:=9^7) (disch:=first|exact dI|fail) only [finV, valQ, zeroV, Typ.kind, Val.pv_mk, List.map_nil, if_true, Bool.false_eq_true, if_false, push_cast, seval]
  | some b =>
    have ho : ((hexE s).isSome && decide (s.length % 2 = 0)) = true := by rw [he, decide_eq_true h2]; rfl
    have hF1 := hF (hqq ho)
    rw [hf ho]
    rw [he] at hp hF1 ⊢
    simp only [hexV] at hp
    simp only [Option.getD_some] at hF1 ⊢
    generalize missN 1 _ _ [] = M at hF1 ⊢
    generalize M.isEmpty = F at *
    clear hn hf hqq hF ho
    cases F with
    | true =>
      refine Pure.intro F12_ok (by simp [F12]) ?_
      simp (maxSteps:=9^7) (disch:=first|exact dI|fail) only [F12, Typ.pv_mk, finV, valQ, zeroV, Typ.kind, Val.pv_mk, push_cast, seval]
      refine ACall.pure hs rfl ?_
      simp (maxSteps:=9^7) (disch:=first|exact dI|fail) only [finV, valQ, zeroV, Typ.kind, Val.pv_mk, List.map_nil, if_true, Bool.false_eq_true, if_false, push_cast, seval]
      refine ACall.pure hp rfl ?_
      simp (maxSteps:=9^7) (disch:=first|exact dI|fail) only [finV, valQ, zeroV, Typ.kind, Val.pv_mk, List.map_nil, if_true, Bool.false_eq_true, if_false, push_cast, seval]
      refine ACall.pure hF1 rfl ?_
      simp (maxSteps:=9^7) (disch:=first|exact dI|fail) only [finV, valQ, zeroV, Typ.kind, Val.pv_mk, List.map_nil, if_true, Bool.false_eq_true, if_false, push_cast, seval]
    | false =>
      refine Pure.intro F12_ok (by simp [F12]) ?_
      simp (maxSteps:=9^7) (disch:=first|exact dI|fail) only [F12, Typ.pv_mk, finV, valQ, zeroV, Typ.kind, Val.pv_mk, push_cast, seval]
      refine ACall.pure hs rfl ?_
      simp (maxSteps:=9^7) (disch:=first|exact dI|fail) only [finV, valQ, zeroV, Typ.kind, Val.pv_mk, List.map_nil, if_true, Bool.false_eq_true, if_false, push_cast, seval]
      refine ACall.pure hp rfl ?_
      simp (maxSteps:=9^7) (disch:=first|exact dI|fail) only [finV, valQ, zeroV, Typ.kind, Val.pv_mk, List.map_nil, if_true, Bool.false_eq_true, if_false, push_cast, seval]
      refine ACall.pure hF1 rfl ?_
      simp (maxSteps:=9^7) (disch:=first|exact dI|fail) only [finV, valQ, zeroV, Typ.kind, Val.pv_mk, List.map_nil, if_true, Bool.false_eq_true, if_false, push_cast, seval]
 ·have ho : ((hexE s).isSome && decide (s.length % 2 = 0)) = false := by rw [decide_eq_false h2, Bool.and_false]
  rw [hn ho]
  rw [hexP_odd (by omega)] at hp
  simp only [hexV] at hp
  clear hn hf hqq hF
  refine Pure.intro F12_ok (by simp [F12]) ?_
  simp (maxSteps:=9^7) (disch:=first|exact dI|fail) only [F12, Typ.pv_mk, finV, valQ, zeroV, Typ.kind, Val.pv_mk, push_cast, seval]
  refine ACall.pure hs rfl ?_
  simp (maxSteps:=9^7) (disch:=first|exact dI|fail) only [finV, valQ, zeroV, Typ.kind, Val.pv_mk, List.map_nil, if_true, Bool.false_eq_true, if_false, push_cast, seval]
  refine ACall.pure hp rfl ?_
  simp (maxSteps:=9^7) (disch:=first|exact dI|fail) only [finV, valQ, zeroV, Typ.kind, Val.pv_mk, List.map_nil, if_true, Bool.false_eq_true, if_false, push_cast, seval]
theorem valueOf12_6 {T : Nat} {p : PV} {a b c : Int} {w : List (List UInt8)} {e : List Typ} {f : List TFd} (s : List UInt8) (hl : s.length ≤ 100) (ht : tyOk 1 (.mk 6 a b c w e f)) :
  Pure Tryz.prog (tabE T p) 12 [(Typ.mk 6 a b c w e f).pv, .str s] (.tup [(valN (.mk 6 a b c w e f) s).1.pv, .int .i64 (valN (.mk 6 a b c w e f) s).2]) := by
 have hk : isSc (Typ.mk 6 a b c w e f).kind = true := rfl
 have hs := toE (T := T) (p := p) (scalar32 (.mk 6 a b c w e f))
 rw [hk] at hs
 simp only [Typ.pv_mk] at hs
 have hn := valN_no (t := .mk 6 a b c w e f) (s := s) hk
 have hf := valN_fin (t := .mk 6 a b c w e f) (s := s) hk
 have hqq := rdQ_ok (k := 6) (s := s) hk hl
 have hF := fun hq => hfit (T := T) (p := p) (t := .mk 6 a b c w e f) (q := (rdQ 6 s).1) hk ht hq
 simp only [Typ.kind] at hn hf hF
 rw [rdQ_6] at hn hf hqq hF
 simp only at hn hf hqq hF
 unfold vN at hF
 simp only [Typ.pv_mk] at hF
 have hp := toE (T := T) (p := p) (parse35 s)
 generalize parseD s = N at *
 obtain ⟨n, er⟩ := N
 simp only at hp hn hf hqq hF
 by_cases he : er = 0
 ·subst he
  have ho : decide ((0 : Int) = 0) = true := rfl
  have hF1 := hF (hqq ho)
  rw [hf ho]
  generalize missN 1 _ _ [] = M at hF1 ⊢
  generalize M.isEmpty = F at *
  clear hn hf hqq hF
  cases F with
  | true =>
    refine Pure.intro F12_ok (by simp [F12]) ?_
    simp (maxSteps:=9^7) (disch:=first|exact dI|fail) only [F12, Typ.pv_mk, finV, valQ, zeroV, Typ.kind, Val.pv_mk, push_cast, seval]
    refine ACall.pure hs rfl ?_
    simp (maxSteps:=9^7) (disch:=first|exact dI|fail) only [finV, valQ, zeroV, Typ.kind, Val.pv_mk, List.map_nil, if_true, Bool.false_eq_true, if_false, push_cast, seval]
    refine ACall.pure hp rfl ?_
    simp (maxSteps:=9^7) (disch:=first|exact dI|fail) only [finV, valQ, zeroV, Typ.kind, Val.pv_mk, List.map_nil, if_true, Bool.false_eq_true, if_false, push_cast, seval]
    refine ACall.pure hF1 rfl ?_
    simp (maxSteps:=9^7) (disch:=first|exact dI|fail) only [finV, valQ, zeroV, Typ.kind, Val.pv_mk, List.map_nil, if_true, Bool.false_eq_true, if_false, push_cast, seval]
  | false =>
    refine Pure.intro F12_ok (by simp [F12]) ?_
    simp (maxSteps:=9^7) (disch:=first|exact dI|fail) only [F12, Typ.pv_mk, finV, valQ, zeroV, Typ.kind, Val.pv_mk, push_cast, seval]
    refine ACall.pure hs rfl ?_
    simp (maxSteps:=9^7) (disch:=first|exact dI|fail) only [finV, valQ, zeroV, Typ.kind, Val.pv_mk, List.map_nil, if_true, Bool.false_eq_true, if_false, push_cast, seval]
    refine ACall.pure hp rfl ?_
    simp (maxSteps:=9^7) (disch:=first|exact dI|fail) only [finV, valQ, zeroV, Typ.kind, Val.pv_mk, List.map_nil, if_true, Bool.false_eq_true, if_false, push_cast, seval]
    refine ACall.pure hF1 rfl ?_
    simp (maxSteps:=9^7) (disch:=first|exact dI|fail) only [finV, valQ, zeroV, Typ.kind, Val.pv_mk, List.map_nil, if_true, Bool.false_eq_true, if_false, push_cast, seval]
 ·rw [hn (decide_eq_false he)]
  clear hn hf hqq hF
  refine Pure.intro F12_ok (by simp [F12]) ?_
  simp (maxSteps:=9^7) (disch:=first|exact dI|fail) only [F12, Typ.pv_mk, finV, valQ, zeroV, Typ.kind, Val.pv_mk, push_cast, seval]
  refine ACall.pure hs rfl ?_
  simp (maxSteps:=9^7) (disch:=first|exact dI|fail) only [finV, valQ, zeroV, Typ.kind, Val.pv_mk, List.map_nil, if_true, Bool.false_eq_true, if_false, push_cast, seval]
  refine ACall.pure hp rfl ?_
  simp (maxSteps:=9^7) (disch:=first|exact dI|fail) only [finV, valQ, zeroV, Typ.kind, Val.pv_mk, List.map_nil, if_true, Bool.false_eq_true, if_false, push_cast, seval]
theorem valueOf12_7 {T : Nat} {p : PV} {a b c : Int} {w : List (List UInt8)} {e : List Typ} {f : List TFd} (s : List UInt8) (hl : s.length ≤ 100) (ht : tyOk 1 (.mk 7 a b c w e f)) :
  Pure Tryz.prog (tabE T p) 12 [(Typ.mk 7 a b c w e f).pv, .str s] (.tup [(valN (.mk 7 a b c w e f) s).1.pv, .int .i64 (valN (.mk 7 a b c w e f) s).2]) := by
 have hk : isSc (Typ.mk 7 a b c w e f).kind = true := rfl
 have hs := toE (T := T) (p := p) (scalar32 (.mk 7 a b c w e f))
 rw [hk] at hs
 simp only [Typ.pv_mk] at hs
 have hn := valN_no (t := .mk 7 a b c w e f) (s := s) hk
 have hf := valN_fin (t := .mk 7 a b c w e f) (s := s) hk
 have hqq := rdQ_ok (k := 7) (s := s) hk hl
 have hF := fun hq => hfit (T := T) (p := p) (t := .mk 7 a b c w e f) (q := (rdQ 7 s).1) hk ht hq
 simp only [Typ.kind] at hn hf hF
 rw [rdQ_7] at hn hf hqq hF
 simp only at hn hf hqq hF
 unfold vN at hF
 simp only [Typ.pv_mk] at hF
 have hp := toE (T := T) (p := p) (parseTime36 s)
 generalize parseT s = N at *
 obtain ⟨n, er⟩ := N
 simp only at hp hn hf hqq hF
 by_cases he : er = 0
 ·subst he
  have ho : decide ((0 : Int) = 0) = true := rfl
  have hF1 := hF (hqq ho)
  rw [hf ho]
  generalize missN 1 _ _ [] = M at hF1 ⊢
  generalize M.isEmpty = F at *
  clear hn hf hqq hF
  cases F with
  | true =>
    refine Pure.intro F12_ok (by simp [F12]) ?_
    simp (maxSteps:=9^7) (disch:=first|exact dI|fail) only [F12, Typ.pv_mk, finV, valQ, zeroV, Typ.kind, Val.pv_mk, push_cast, seval]
    refine ACall.pure hs rfl ?_
    simp (maxSteps:=9^7) (disch:=first|exact dI|fail) only [finV, valQ, zeroV, Typ.kind, Val.pv_mk, List.map_nil, if_true, Bool.false_eq_true, if_false, push_cast, seval]
    refine ACall.pure hp rfl ?_
    simp (maxSteps:=9^7) (disch:=first|exact dI|fail) only [finV, valQ, zeroV, Typ.kind, Val.pv_mk, List.map_nil, if_true, Bool.false_eq_true, if_false, push_cast, seval]
    refine ACall.pure hF1 rfl ?_
    simp (maxSteps:=9^7) (disch:=first|exact dI|fail) only [finV, valQ, zeroV, Typ.kind, Val.pv_mk, List.map_nil, if_true, Bool.false_eq_true, if_false, push_cast, seval]
  | false =>
    refine Pure.intro F12_ok (by simp [F12]) ?_
    simp (maxSteps:=9^7) (disch:=first|exact dI|fail) only [F12, Typ.pv_mk, finV, valQ, zeroV, Typ.kind, Val.pv_mk, push_cast, seval]
    refine ACall.pure hs rfl ?_
    simp (maxSteps:=9^7) (disch:=first|exact dI|fail) only [finV, valQ, zeroV, Typ.kind, Val.pv_mk, List.map_nil, if_true, Bool.false_eq_true, if_false, push_cast, seval]
    refine ACall.pure hp rfl ?_
    simp (maxSteps:=9^7) (disch:=first|exact dI|fail) only [finV, valQ, zeroV, Typ.kind, Val.pv_mk, List.map_nil, if_true, Bool.false_eq_true, if_false, push_cast, seval]
    refine ACall.pure hF1 rfl ?_
    simp (maxSteps:=9^7) (disch:=first|exact dI|fail) only [finV, valQ, zeroV, Typ.kind, Val.pv_mk, List.map_nil, if_true, Bool.false_eq_true, if_false, push_cast, seval]
 ·rw [hn (decide_eq_false he)]
  clear hn hf hqq hF
  refine Pure.intro F12_ok (by simp [F12]) ?_
  simp (maxSteps:=9^7) (disch:=first|exact dI|fail) only [F12, Typ.pv_mk, finV, valQ, zeroV, Typ.kind, Val.pv_mk, push_cast, seval]
  refine ACall.pure hs rfl ?_
  simp (maxSteps:=9^7) (disch:=first|exact dI|fail) only [finV, valQ, zeroV, Typ.kind, Val.pv_mk, List.map_nil, if_true, Bool.false_eq_true, if_false, push_cast, seval]
  refine ACall.pure hp rfl ?_
  simp (maxSteps:=9^7) (disch:=first|exact dI|fail) only [finV, valQ, zeroV, Typ.kind, Val.pv_mk, List.map_nil, if_true, Bool.false_eq_true, if_false, push_cast, seval]
theorem valueOf12 {T : Nat} {p : PV} (t : Typ) (s : List UInt8) (hl : s.length ≤ 100) (ht : tyOk 1 t) : Pure Tryz.prog (tabE T p) 12 [t.pv, .str s] (.tup [(valN t s).1.pv, .int .i64 (valN t s).2]) := by
 by_cases hk : isSc t.kind = false
 ·have hs := toE (T := T) (p := p) (scalar32 t)
  unfold valN
  rw [if_pos hk]
  rw [hk] at hs
  obtain ⟨k, a, b, c, w, e, f⟩ := t
  simp only [Typ.pv_mk] at hs
  refine Pure.intro F12_ok (by simp [F12]) ?_
  simp (maxSteps:=9^7) (disch:=first|exact dI|fail) only [F12, Typ.pv_mk, finV, valQ, zeroV, Typ.kind, Val.pv_mk, push_cast, seval]
  refine ACall.pure hs rfl ?_
  simp (maxSteps:=9^7) (disch:=first|exact dI|fail) only [finV, valQ, zeroV, Typ.kind, Val.pv_mk, List.map_nil, if_true, Bool.false_eq_true, if_false, push_cast, seval]
 ·have hk : isSc t.kind = true := by simpa using hk
  rw [isSc_iff] at hk
  obtain ⟨k, a, b, c, w, e, f⟩ := t
  simp only [Typ.kind] at hk
  have hc : k = 1 ∨ k = 2 ∨ k = 3 ∨ k = 4 ∨ k = 5 ∨ k = 6 ∨ k = 7 := by omega
  rcases hc with rfl | rfl | rfl | rfl | rfl | rfl | rfl
  ·exact valueOf12_1 s hl ht
  ·exact valueOf12_2 s hl ht
  ·exact valueOf12_3 s hl ht
  ·exact valueOf12_4 s hl ht
  ·exact valueOf12_5 s hl ht
  ·exact valueOf12_6 s hl ht
  ·exact valueOf12_7 s hl ht
end Go.Proofs.YtbaaokocnegdoaaGreatDoor
