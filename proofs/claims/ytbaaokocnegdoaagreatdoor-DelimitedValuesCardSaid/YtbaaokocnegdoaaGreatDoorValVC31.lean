/- A part of the proof for DelimitedValuesCardSaid. -/
import Derived.Test.YtbaaokocnegdoaaGreatDoorValVC30
set_option maxRecDepth 100000
set_option linter.unusedVariables false
set_option linter.unusedSimpArgs false
-- many steps
namespace Go.Proofs.YtbaaokocnegdoaaGreatDoor
open Go Go.Ab
attribute [local irreducible] vc
def hdC (k : Int) (t : List UInt8) : Nat × List UInt8 → St
 | (i, []) => ⟨[(3, .ptr 0 0), (7, .pv (.int .i64 0)), (8, .ptr 1 0), (45, .pv (.int .i64 (t.length : Int))), (46, .pv (.int .i64 (i : Int)))], [(0, .cells 31 true [.pv (.int .i64 k), .pv (.int .i64 0), .pv (.int .i64 0), .pv (.str t), .pv (.list []), .pv (.list [])]), (1, .cells 89 true [.pv .nilp, .pv .nils])], 2⟩
 | (i, b :: r) => ⟨[(3, .ptr 0 0), (7, .pv (.int .i64 0)), (8, .ptr 1 0), (45, .pv (.int .i64 (t.length : Int))), (46, .pv (.int .i64 (i : Int)))], [(0, .cells 31 true [.pv (.int .i64 k), .pv (.int .i64 0), .pv (.int .i64 0), .pv (.str t), .pv (.list []), .pv (.list [])]), (1, .cells 89 true [.ptr 1 0, .row 2 1 0 (r.length + 1)]), (2, .cells 5 false ((bytesP (b :: r)).map .pv))], 3⟩
def exC : List UInt8 → St
 | [] => ⟨[(7, .pv (.int .i64 0)), (8, .ptr 0 0)], [(0, .cells 89 true [.pv .nilp, .pv .nils])], 1⟩
 | b :: r => ⟨[(7, .pv (.int .i64 0)), (8, .ptr 0 0)], [(0, .cells 89 true [.ptr 0 0, .row 1 1 0 (r.length + 1)]), (1, .cells 5 false ((bytesP (b :: r)).map .pv))], 2⟩
theorem cellOf16_1 {a b c : Int} {w : List (List UInt8)} {e : List Typ} {f : List TFd} (s : List UInt8) (hl : s.length ≤ 100) (ht : tyOk 1 (.mk 1 a b c w e f))
  (ho : (rdQ 1 s).2 = true) (hm : (missN 1 (.mk 1 a b c w e f) (valQ 1 (rdQ 1 s).1) []).isEmpty = true) :
  Pure Tryz.prog tabG 16 [(Typ.mk 1 a b c w e f).pv, (valQ 1 (rdQ 1 s).1).pv] (.tup [.str s, .int .i64 0]) := by
 have hk : isSc (Typ.mk 1 a b c w e f).kind = true := rfl
 have hs := (scalar32 (.mk 1 a b c w e f))
 rw [hk] at hs
 simp only [Typ.pv_mk] at hs
 have hq := rdQ_ok (k := 1) (s := s) hk hl ho
 have hF := (fits26S (.mk 1 a b c w e f) (valQ 1 (rdQ 1 s).1) ((isSc_iff _).1 hk) (valQ_dep hq.2.2) ht (valQ_ok hk hq))
 rw [hm] at hF
 clear hm
 rw [rdQ_1] at ho hF ⊢
 simp only at ho hF ⊢
 unfold valQ at hF ⊢
 simp only [Typ.pv_mk, Val.pv_mk, List.map_nil] at hF
 by_cases h1 : s = trueB
 ·rw [if_pos h1] at hF ⊢
  have hb := (fmtB41 true)
  rw [if_pos rfl] at hb
  subst h1
  refine Pure.intro F16_ok (by simp [F16]) ?_
  simp (maxSteps:=9^7) (disch:=first|exact dI|fail) only [F16, Typ.pv_mk, Val.pv_mk, List.map_nil, push_cast, seval]
  refine ACall.pure hs rfl ?_
  simp (maxSteps:=9^7) (disch:=first|exact dI|fail) only [List.map_nil, push_cast, seval]
  refine ACall.pure hF rfl ?_
  simp (maxSteps:=9^7) (disch:=first|exact dI|fail) only [List.map_nil, push_cast, seval]
  refine ACall.pure hb rfl ?_
  simp (maxSteps:=9^7) (disch:=first|exact dI|fail) only [List.map_nil, push_cast, seval]
 ·have h2 : s = falseB := by
   rw [decide_eq_false h1, Bool.false_or] at ho
   exact of_decide_eq_true ho
  rw [if_neg h1] at hF ⊢
  have hb := (fmtB41 false)
  rw [if_neg (by simp)] at hb
  subst h2
  refine Pure.intro F16_ok (by simp [F16]) ?_
  simp (maxSteps:=9^7) (disch:=first|exact dI|fail) only [F16, Typ.pv_mk, Val.pv_mk, List.map_nil, push_cast, seval]
  refine ACall.pure hs rfl ?_
  simp (maxSteps:=9^7) (disch:=first|exact dI|fail) only [List.map_nil, push_cast, seval]
  refine ACall.pure hF rfl ?_
  simp (maxSteps:=9^7) (disch:=first|exact dI|fail) only [List.map_nil, push_cast, seval]
  refine ACall.pure hb rfl ?_
  simp (maxSteps:=9^7) (disch:=first|exact dI|fail) only [List.map_nil, push_cast, seval]
theorem cellOf16_2 {a b c : Int} {w : List (List UInt8)} {e : List Typ} {f : List TFd} (s : List UInt8) (hl : s.length ≤ 100) (ht : tyOk 1 (.mk 2 a b c w e f))
  (ho : (rdQ 2 s).2 = true) (hm : (missN 1 (.mk 2 a b c w e f) (valQ 2 (rdQ 2 s).1) []).isEmpty = true) :
  Pure Tryz.prog tabG 16 [(Typ.mk 2 a b c w e f).pv, (valQ 2 (rdQ 2 s).1).pv] (.tup [.str s, .int .i64 0]) := by
 have hk : isSc (Typ.mk 2 a b c w e f).kind = true := rfl
 have hs := (scalar32 (.mk 2 a b c w e f))
 rw [hk] at hs
 simp only [Typ.pv_mk] at hs
 have hq := rdQ_ok (k := 2) (s := s) hk hl ho
 have hF := (fits26S (.mk 2 a b c w e f) (valQ 2 (rdQ 2 s).1) ((isSc_iff _).1 hk) (valQ_dep hq.2.2) ht (valQ_ok hk hq))
 rw [hm] at hF
 clear hm
 rw [rdQ_2] at ho hF ⊢
 simp only at ho hF ⊢
 unfold valQ at hF ⊢
 simp only [Typ.pv_mk, Val.pv_mk, List.map_nil] at hF
 simp only [Bool.and_eq_true, decide_eq_true_eq] at ho
 obtain ⟨hn, hd⟩ := parseN_is ho.1
 have hx := (text42 hn)
 rw [hd] at hx
 generalize (parseN s).1.1 = n at *
 generalize (parseN s).1.2 = sc at *
 refine Pure.intro F16_ok (by simp [F16]) ?_
 simp (maxSteps:=9^7) (disch:=first|exact dI|fail) only [F16, Typ.pv_mk, Val.pv_mk, List.map_nil, push_cast, seval]
 refine ACall.pure hs rfl ?_
 simp (maxSteps:=9^7) (disch:=first|exact dI|fail) only [List.map_nil, push_cast, seval]
 refine ACall.pure hF rfl ?_
 simp (maxSteps:=9^7) (disch:=first|exact dI|fail) only [List.map_nil, push_cast, seval]
 refine ACall.pure hx rfl ?_
 simp (maxSteps:=9^7) (disch:=first|exact dI|fail) only [List.map_nil, push_cast, seval]
theorem cellOf16_3 {a b c : Int} {w : List (List UInt8)} {e : List Typ} {f : List TFd} (s : List UInt8) (hl : s.length ≤ 100) (ht : tyOk 1 (.mk 3 a b c w e f))
  (ho : (rdQ 3 s).2 = true) (hm : (missN 1 (.mk 3 a b c w e f) (valQ 3 (rdQ 3 s).1) []).isEmpty = true) :
  Pure Tryz.prog tabG 16 [(Typ.mk 3 a b c w e f).pv, (valQ 3 (rdQ 3 s).1).pv] (.tup [.str s, .int .i64 0]) := by
 have hk : isSc (Typ.mk 3 a b c w e f).kind = true := rfl
 have hs := (scalar32 (.mk 3 a b c w e f))
 rw [hk] at hs
 simp only [Typ.pv_mk] at hs
 have hq := rdQ_ok (k := 3) (s := s) hk hl ho
 have hF := (fits26S (.mk 3 a b c w e f) (valQ 3 (rdQ 3 s).1) ((isSc_iff _).1 hk) (valQ_dep hq.2.2) ht (valQ_ok hk hq))
 rw [hm] at hF
 clear hm
 rw [rdQ_3] at ho hF ⊢
 simp only at ho hF ⊢
 unfold valQ at hF ⊢
 simp only [Typ.pv_mk, Val.pv_mk, List.map_nil] at hF
 simp only [decide_eq_true_eq] at ho
 obtain ⟨hn, hd⟩ := parseN_is ho
 have hx := (text42 hn)
 rw [hd] at hx
 generalize (parseN s).1.1 = n at *
 generalize (parseN s).1.2 = sc at *
 refine Pure.intro F16_ok (by simp [F16]) ?_
 simp (maxSteps:=9^7) (disch:=first|exact dI|fail) only [F16, Typ.pv_mk, Val.pv_mk, List.map_nil, push_cast, seval]
 refine ACall.pure hs rfl ?_
 simp (maxSteps:=9^7) (disch:=first|exact dI|fail) only [List.map_nil, push_cast, seval]
 refine ACall.pure hF rfl ?_
 simp (maxSteps:=9^7) (disch:=first|exact dI|fail) only [List.map_nil, push_cast, seval]
 refine ACall.pure hx rfl ?_
 simp (maxSteps:=9^7) (disch:=first|exact dI|fail) only [List.map_nil, push_cast, seval]
theorem cellOf16_4 {a b c : Int} {w : List (List UInt8)} {e : List Typ} {f : List TFd} (s : List UInt8) (hl : s.length ≤ 100) (ht : tyOk 1 (.mk 4 a b c w e f))
  (ho : (rdQ 4 s).2 = true) (hm : (missN 1 (.mk 4 a b c w e f) (valQ 4 (rdQ 4 s).1) []).isEmpty = true) :
  Pure Tryz.prog tabG 16 [(Typ.mk 4 a b c w e f).pv, (valQ 4 (rdQ 4 s).1).pv] (.tup [.str s, .int .i64 0]) := by
 have hk : isSc (Typ.mk 4 a b c w e f).kind = true := rfl
 have hs := (scalar32 (.mk 4 a b c w e f))
 rw [hk] at hs
 simp only [Typ.pv_mk] at hs
 have hq := rdQ_ok (k := 4) (s := s) hk hl ho
 have hF := (fits26S (.mk 4 a b c w e f) (valQ 4 (rdQ 4 s).1) ((isSc_iff _).1 hk) (valQ_dep hq.2.2) ht (valQ_ok hk hq))
 rw [hm] at hF
 clear hm
 rw [rdQ_4] at ho hF ⊢
 simp only at ho hF ⊢
 unfold valQ at hF ⊢
 simp only [Typ.pv_mk, Val.pv_mk, List.map_nil] at hF
 refine Pure.intro F16_ok (by simp [F16]) ?_
 simp (maxSteps:=9^7) (disch:=first|exact dI|fail) only [F16, Typ.pv_mk, Val.pv_mk, List.map_nil, push_cast, seval]
 refine ACall.pure hs rfl ?_
 simp (maxSteps:=9^7) (disch:=first|exact dI|fail) only [List.map_nil, push_cast, seval]
 refine ACall.pure hF rfl ?_
 simp (maxSteps:=9^7) (disch:=first|exact dI|fail) only [List.map_nil, push_cast, seval]
theorem cellOf16_6 {a b c : Int} {w : List (List UInt8)} {e : List Typ} {f : List TFd} (s : List UInt8) (hl : s.length ≤ 100) (ht : tyOk 1 (.mk 6 a b c w e f))
  (ho : (rdQ 6 s).2 = true) (hm : (missN 1 (.mk 6 a b c w e f) (valQ 6 (rdQ 6 s).1) []).isEmpty = true) :
  Pure Tryz.prog tabG 16 [(Typ.mk 6 a b c w e f).pv, (valQ 6 (rdQ 6 s).1).pv] (.tup [.str s, .int .i64 0]) := by
 have hk : isSc (Typ.mk 6 a b c w e f).kind = true := rfl
 have hs := (scalar32 (.mk 6 a b c w e f))
 rw [hk] at hs
 simp only [Typ.pv_mk] at hs
 have hq := rdQ_ok (k := 6) (s := s) hk hl ho
 have hF := (fits26S (.mk 6 a b c w e f) (valQ 6 (rdQ 6 s).1) ((isSc_iff _).1 hk) (valQ_dep hq.2.2) ht (valQ_ok hk hq))
 rw [hm] at hF
 clear hm
 rw [rdQ_6] at ho hF ⊢
 simp only at ho hF ⊢
 unfold valQ at hF ⊢
 simp only [Typ.pv_mk, Val.pv_mk, List.map_nil] at hF
 simp only [decide_eq_true_eq] at ho
 obtain ⟨y, m, d, h1, h2, h3⟩ := parseD_back (s := s) (n := (parseD s).1) (by rw [← ho])
 have hx := (text45 h1)
 rw [← h2, ← h3] at hx
 generalize (parseD s).1 = n at *
 refine Pure.intro F16_ok (by simp [F16]) ?_
 simp (maxSteps:=9^7) (disch:=first|exact dI|fail) only [F16, Typ.pv_mk, Val.pv_mk, List.map_nil, push_cast, seval]
 refine ACall.pure hs rfl ?_
 simp (maxSteps:=9^7) (disch:=first|exact dI|fail) only [List.map_nil, push_cast, seval]
 refine ACall.pure hF rfl ?_
 simp (maxSteps:=9^7) (disch:=first|exact dI|fail) only [List.map_nil, push_cast, seval]
 refine ACall.pure hx rfl ?_
 simp (maxSteps:=9^7) (disch:=first|exact dI|fail) only [List.map_nil, push_cast, seval]
theorem cellOf16_7 {a b c : Int} {w : List (List UInt8)} {e : List Typ} {f : List TFd} (s : List UInt8) (hl : s.length ≤ 100) (ht : tyOk 1 (.mk 7 a b c w e f))
  (ho : (rdQ 7 s).2 = true) (hm : (missN 1 (.mk 7 a b c w e f) (valQ 7 (rdQ 7 s).1) []).isEmpty = true) :
  Pure Tryz.prog tabG 16 [(Typ.mk 7 a b c w e f).pv, (valQ 7 (rdQ 7 s).1).pv] (.tup [.str s, .int .i64 0]) := by
 have hk : isSc (Typ.mk 7 a b c w e f).kind = true := rfl
 have hs := (scalar32 (.mk 7 a b c w e f))
 rw [hk] at hs
 simp only [Typ.pv_mk] at hs
 have hq := rdQ_ok (k := 7) (s := s) hk hl ho
 have hF := (fits26S (.mk 7 a b c w e f) (valQ 7 (rdQ 7 s).1) ((isSc_iff _).1 hk) (valQ_dep hq.2.2) ht (valQ_ok hk hq))
 rw [hm] at hF
 clear hm
 rw [rdQ_7] at ho hF ⊢
 simp only at ho hF ⊢
 unfold valQ at hF ⊢
 simp only [Typ.pv_mk, Val.pv_mk, List.map_nil] at hF
 simp only [decide_eq_true_eq] at ho
 obtain ⟨y, m, d, hh, mi, sec, ms, h1, g1, g2, g3, g4, h2, h3⟩ := parseT_back (s := s) (n := (parseT s).1) (by rw [← ho])
 have hx := (timeText46 h1 g1 g2 g3 g4)
 rw [← h2, ← h3] at hx
 generalize (parseT s).1 = n at *
 refine Pure.intro F16_ok (by simp [F16]) ?_
 simp (maxSteps:=9^7) (disch:=first|exact dI|fail) only [F16, Typ.pv_mk, Val.pv_mk, List.map_nil, push_cast, seval]
 refine ACall.pure hs rfl ?_
 simp (maxSteps:=9^7) (disch:=first|exact dI|fail) only [List.map_nil, push_cast, seval]
 refine ACall.pure hF rfl ?_
 simp (maxSteps:=9^7) (disch:=first|exact dI|fail) only [List.map_nil, push_cast, seval]
 refine ACall.pure hx rfl ?_
 simp (maxSteps:=9^7) (disch:=first|exact dI|fail) only [List.map_nil, push_cast, seval]
theorem cellOf16_5 {a b c : Int} {w : List (List UInt8)} {e : List Typ} {f : List TFd} (s : List UInt8) (hl : s.length ≤ 100) (ht : tyOk 1 (.mk 5 a b c w e f))
  (ho : (rdQ 5 s).2 = true) (hm : (missN 1 (.mk 5 a b c w e f) (valQ 5 (rdQ 5 s).1) []).isEmpty = true) :
  Pure Tryz.prog tabG 16 [(Typ.mk 5 a b c w e f).pv, (valQ 5 (rdQ 5 s).1).pv] (.tup [.str s, .int .i64 0]) := by
 have hk : isSc (Typ.mk 5 a b c w e f).kind = true := rfl
 have hs := (scalar32 (.mk 5 a b c w e f))
 rw [hk] at hs
 simp only [Typ.pv_mk] at hs
 have hq := rdQ_ok (k := 5) (s := s) hk hl ho
 have hF := (fits26S (.mk 5 a b c w e f) (valQ 5 (rdQ 5 s).1) ((isSc_iff _).1 hk) (valQ_dep hq.2.2) ht (valQ_ok hk hq))
 rw [hm] at hF
 clear hm
 rw [rdQ_5] at ho hF ⊢
 simp only at ho hF ⊢
 unfold valQ at hF ⊢
 simp only [Typ.pv_mk, Val.pv_mk, List.map_nil] at hF
 simp only [Bool.and_eq_true, decide_eq_true_eq] at ho
 obtain ⟨ho1, ho2⟩ := ho
 cases he : hexE s with
 | none => rw [he] at ho1; simp at ho1
 | some t =>
 simp only [he, Option.getD_some] at hF ⊢
 have hb : hexW t = s := hexW_back (by rw [hexE_even ho2, he])
 have htl := hexE_len he
 refine Pure.intro F16_ok (by simp [F16]) ?_
 simp (maxSteps:=9^7) (disch:=first|exact dI|fail) only [F16, Typ.pv_mk, Val.pv_mk, List.map_nil, push_cast, seval]
 refine ACall.pure hs rfl ?_
 simp (maxSteps:=9^7) (disch:=first|exact dI|fail) only [List.map_nil, push_cast, seval]
 refine ACall.pure hF rfl ?_
 simp (maxSteps:=9^7) (disch:=first|exact dI|fail) only [List.map_nil, push_cast, seval]
 refine vc_meetS (hdC 5 t) (fun y => y.1 ≤ t.length ∧ y.2 = hexW (t.take y.1)) (fun y => t.length - y.1) (0, []) [7, 8] exC (fun l => l = s) ?_ ?_ ?_ ?_
 ·exact hd_z (by simp (maxSteps:=9^7) (disch:=first|exact dI|fail) only [hdC, push_cast, seval])
 ·exact ⟨by simp, by simp [hexW]⟩
 ·rintro ⟨i, l⟩ ⟨h1, h2⟩
  simp only at h1 h2
  by_cases hi : i < t.length
  ·obtain ⟨x, hx1⟩ : ∃ x, t[i]? = some x := ⟨_, List.getElem?_eq_getElem hi⟩
   have hll : l.length ≤ 200 := by rw [h2, hexW_len, List.length_take]; omega
   have hxl := x.toNat_lt
   obtain ⟨u, hu⟩ : ∃ u, x.toNat / 16 = u := ⟨_, rfl⟩
   obtain ⟨v, hv⟩ : ∃ v, x.toNat % 16 = v := ⟨_, rfl⟩
   have hs4 := shr4 x hu
   have ha15 := and15 x hv
   have gu := hx_get (u := u) (by omega)
   have gv := hx_get (u := v) (by omega)
   unfold hexD at gu gv
   have hn : hexW (t.take (i + 1)) = l ++ [hx u, hx v] := by rw [take_snoc hx1, hexW_app, ← h2, hu, hv]
   cases l with
   | nil =>
     have hW1 := (writeB false [] (hx u) (by simp))
     have hW2 := (writeB true [hx u] (hx v) (by simp))
     simp only [bB, aB, List.nil_append, List.cons_append] at hW1 hW2
     simp (maxSteps:=9^7) (disch:=first|exact dI|fail) only [hdC, hx1, byteO_some, hs4, gu, push_cast, seval]
     refine ACall.lentK hW1 [1] rfl (by simp (maxSteps:=9^7) (disch:=first|exact dI|fail) only [push_cast, seval]) (by simp (maxSteps:=9^7) (disch:=first|exact dI|fail) only [push_cast, seval]) ?_
     simp (maxSteps:=9^7) (disch:=first|exact dI|fail) only [hx1, byteO_some, ha15, gv, push_cast, seval]
     refine ACall.lentK hW2 [1, 3] rfl (by simp (maxSteps:=9^7) (disch:=first|exact dI|fail) only [push_cast, seval]) (by simp (maxSteps:=9^7) (disch:=first|exact dI|fail) only [push_cast, seval]) ?_
     simp (maxSteps:=9^7) (disch:=first|exact dI|fail) only [push_cast, seval]
     exact ⟨(i + 1, [hx u, hx v]), hd_z (by simp (maxSteps:=9^7) (disch:=first|exact dI|fail) only [hdC, push_cast, seval]), ⟨by simp only; omega, hn.symm⟩, by simp only; omega⟩
   | cons b r =>
     have hW1 := writeB true (b :: r) (hx u) (by simp only [List.length_cons] at hll ⊢; omega)
     have hW2 := writeB true (b :: (r ++ [hx u])) (hx v) (by simp at hll ⊢; omega)
     simp only [bB, aB, List.nil_append, List.cons_append] at hW1 hW2
     simp (maxSteps:=9^7) (disch:=first|exact dI|fail) only [hdC, hx1, byteO_some, hs4, gu, push_cast, seval]
     refine ACall.lentK hW1 [1, 2] rfl (by simp (maxSteps:=9^7) (disch:=first|exact dI|fail) only [push_cast, seval]) (by simp (maxSteps:=9^7) (disch:=first|exact dI|fail) only [push_cast, seval]) ?_
     simp (maxSteps:=9^7) (disch:=first|exact dI|fail) only [hx1, byteO_some, ha15, gv, push_cast, seval]
     refine ACall.lentK hW2 [1, 4] rfl (by simp (maxSteps:=9^7) (disch:=first|exact dI|fail) only [push_cast, seval]) (by simp (maxSteps:=9^7) (disch:=first|exact dI|fail) only [push_cast, seval]) ?_
     simp (maxSteps:=9^7) (disch:=first|exact dI|fail) only [push_cast, seval]
     exact ⟨(i + 1, b :: (r ++ [hx u] ++ [hx v])), hd_z (by simp (maxSteps:=9^7) (disch:=first|exact dI|fail) only [hdC, push_cast, seval]), ⟨by simp only; omega, by rw [hn]; simp⟩, by simp only; omega⟩
  ·have he2 : t.take i = t := List.take_of_length_le (by omega)
   rw [he2, hb] at h2
   cases l with
   | nil =>
     simp (maxSteps:=9^7) (disch:=first|exact dI|fail) only [hdC, push_cast, seval]
     exact ⟨[], hd_z (by simp (maxSteps:=9^7) (disch:=first|exact dI|fail) only [exC, push_cast, seval]), h2⟩
   | cons b r =>
     simp (maxSteps:=9^7) (disch:=first|exact dI|fail) only [hdC, push_cast, seval]
     exact ⟨b :: r, hd_z (by simp (maxSteps:=9^7) (disch:=first|exact dI|fail) only [exC, push_cast, seval]), h2⟩
 ·rintro l rfl
  cases l with
  | nil =>
    have hSt := stringB false [] (by simp)
    simp only [bB, aB, stB] at hSt
    simp (maxSteps:=9^7) (disch:=first|exact dI|fail) only [exC, push_cast, seval]
    refine ACall.lentK hSt [0] rfl (by simp (maxSteps:=9^7) (disch:=first|exact dI|fail) only [push_cast, seval]) (by simp (maxSteps:=9^7) (disch:=first|exact dI|fail) only [push_cast, seval]) ?_
    simp (maxSteps:=9^7) (disch:=first|exact dI|fail) only [push_cast, seval]
  | cons b r =>
    have hSt := stringB true (b :: r) (by omega)
    simp only [bB, aB, stB] at hSt
    simp (maxSteps:=9^7) (disch:=first|exact dI|fail) only [exC, push_cast, seval]
    refine ACall.lentK hSt [0, 1] rfl (by simp (maxSteps:=9^7) (disch:=first|exact dI|fail) only [push_cast, seval]) (by simp (maxSteps:=9^7) (disch:=first|exact dI|fail) only [push_cast, seval]) ?_
    simp (maxSteps:=9^7) (disch:=first|exact dI|fail) only [push_cast, seval]
end Go.Proofs.YtbaaokocnegdoaaGreatDoor
