/- A part of the proof for DelimitedValuesCardSaid. -/
import Derived.Test.YtbaaokocnegdoaaGreatDoorValWQ
import Derived.Test.YtbaaokocnegdoaaGreatDoorValVC26
import Derived.Test.YtbaaokocnegdoaaGreatDoorValWTy
set_option maxRecDepth 100000
set_option linter.unusedVariables false
set_option linter.unusedSimpArgs false
namespace Go.Proofs.YtbaaokocnegdoaaGreatDoor
open Go Go.Ab
attribute [local irreducible] vc
theorem findF0 : FindF 0 := fun t v p d l R hd => hd.elim
theorem find56S (t : Typ) (v : Val) (p : List UInt8) (d : Bool) (l : List Mis) (R : Bool × List Mis) (hsc : 1 ≤ t.kind ∧ t.kind ≤ 7) (hd : dep 1 v) (ht : tyOk 1 t) (hv : v.ok) (hp : p.length + 200 * 1 ≤ 100000) (hi : invF false l) (hR : R = addF false l (missN 1 t v p)) :
  Lent Tryz.prog tabG 2 80 [.ptr 0 0, .pv t.pv, .pv v.pv, .pv (.str p)] (blkF false l) (.pv (.tup [])) (blkF R.1 R.2) := by
 by_cases h : t.kind < 1 ∨ 10 < t.kind ∨ ¬ v.kind = t.kind
 ·exact find56F_kind 0 findF0 t v p l R hd ht hv hp hi hR h
 ·by_cases hf : formedV v = false
  ·exact find56F_bad 0 findF0 t v p l R hd ht hv hp hi hR h hf
  ·have hf : formedV v = true := by simpa using hf
   have hk : t.kind = 1 ∨ t.kind = 2 ∨ t.kind = 3 ∨ t.kind = 4 ∨ t.kind = 5 ∨ t.kind = 6 ∨ t.kind = 7 := by omega
   rcases hk with hk | hk | hk | hk | hk | hk | hk
   ·exact find56F_1 0 findF0 t v p l R hd ht hv hp hi hR h hf hk
   ·exact find56F_2 0 findF0 t v p l R hd ht hv hp hi hR h hf hk
   ·by_cases hs : v.scale = t.scale
    ·exact find56F_3s 0 findF0 t v p l R hd ht hv hp hi hR h hf hk hs
    ·exact find56F_3 0 findF0 t v p l R hd ht hv hp hi hR h hf hk hs
   ·by_cases hw : t.words.length = 0
    ·exact find56F_4 0 findF0 t v p l R hd ht hv hp hi hR h hf hk hw
    ·cases ha : (t.words.any fun x => decide (x = v.text)) with
     | true => exact find56F_4w 0 findF0 t v p l R hd ht hv hp hi hR h hf hk (by omega) ha
     | false => exact find56F_4n 0 findF0 t v p l R hd ht hv hp hi hR h hf hk (by omega) ha
   ·exact find56F_5 0 findF0 t v p l R hd ht hv hp hi hR h hf hk
   ·exact find56F_6 0 findF0 t v p l R hd ht hv hp hi hR h hf hk
   ·exact find56F_7 0 findF0 t v p l R hd ht hv hp hi hR h hf hk
theorem fits26S (t : Typ) (v : Val) (hsc : 1 ≤ t.kind ∧ t.kind ≤ 7) (hd : dep 1 v) (ht : tyOk 1 t) (hv : v.ok) : Pure Tryz.prog tabG 37 [t.pv, v.pv] (.bool (missN 1 t v []).isEmpty) := by
 have h56 := find56S t v [] false [] _ hsc hd ht hv (by simp) ⟨by simp, by simp⟩ rfl
 have e := addF_eq (missN 1 t v []) []
 generalize addF false [] (missN 1 t v []) = S at *
 obtain ⟨Sd, Sl⟩ := S
 simp only at e
 have e2 : (missN 1 t v []).isEmpty = !Sd := by rw [e, Bool.not_not]
 rw [e2]
 obtain ⟨k, m, M, s, w, e, fs⟩ := t
 obtain ⟨vk, vi, vs, vt, vl, vf⟩ := v
 simp only [blkF, Typ.pv_mk, Val.pv_mk, List.map_nil] at h56
 refine Pure.intro F37_ok (by simp [F37]) ?_
 simp (disch:=first|exact dI|fail) only [F37, Typ.pv_mk, Val.pv_mk, push_cast, seval]
 refine ACall.lentK h56 [4, 2] rfl (by simp (disch:=first|exact dI|fail) only [push_cast, seval]) (by simp (disch:=first|exact dI|fail) only [push_cast, seval]) ?_
 simp (disch:=first|exact dI|fail) only [push_cast, seval]
theorem allR0 : AllR 0 := fun t v p hd => hd.elim
theorem allRS (t : Typ) (v : Val) (p : List UInt8) (hsc : 1 ≤ t.kind ∧ t.kind ≤ 7) (hd : dep 1 v) (ht : tyOk 1 t) (hv : v.ok) (hp : p.length + 200 * 1 ≤ 100000) : Pure Tryz.prog tabG 24 [t.pv, v.pv, .str p] (.list ((missN 1 t v p).map Mis.pv)) := by
 have hB : bnd 0 ≤ 216000000 := by decide
 by_cases h : t.kind < 1 ∨ 10 < t.kind ∨ ¬ v.kind = t.kind
 ·exact all24_kind 0 allR0 hB t v p hd ht hv hp h
 ·by_cases hf : formedV v = false
  ·exact all24_bad 0 allR0 hB t v p hd ht hv hp h hf
  ·have hf : formedV v = true := by simpa using hf
   have hk : t.kind = 1 ∨ t.kind = 2 ∨ t.kind = 3 ∨ t.kind = 4 ∨ t.kind = 5 ∨ t.kind = 6 ∨ t.kind = 7 := by omega
   rcases hk with hk | hk | hk | hk | hk | hk | hk
   ·exact all24_1 0 allR0 hB t v p hd ht hv hp h hf hk
   ·exact all24_2 0 allR0 hB t v p hd ht hv hp h hf hk
   ·by_cases hs : v.scale = t.scale
    ·exact all24_3s 0 allR0 hB t v p hd ht hv hp h hf hk hs
    ·exact all24_3 0 allR0 hB t v p hd ht hv hp h hf hk hs
   ·by_cases hw : t.words.length = 0
    ·exact all24_4 0 allR0 hB t v p hd ht hv hp h hf hk hw
    ·cases ha : (t.words.any fun x => decide (x = v.text)) with
     | true => exact all24_4w 0 allR0 hB t v p hd ht hv hp h hf hk (by omega) ha
     | false => exact all24_4n 0 allR0 hB t v p hd ht hv hp h hf hk (by omega) ha
   ·exact all24_5 0 allR0 hB t v p hd ht hv hp h hf hk
   ·exact all24_6 0 allR0 hB t v p hd ht hv hp h hf hk
   ·exact all24_7 0 allR0 hB t v p hd ht hv hp h hf hk
theorem tyOk1 : ∀ {t : Typ}, tyOk 3 t → tyOk 1 t := fun h => ⟨h.1, h.2.1, fun _ _ => trivial, fun f hf => ⟨(h.2.2.2 f hf).1, trivial⟩⟩
end Go.Proofs.YtbaaokocnegdoaaGreatDoor
set_option maxRecDepth 100000
set_option linter.unusedVariables false
set_option linter.unusedSimpArgs false
-- many steps
namespace Go.Proofs.YtbaaokocnegdoaaGreatDoor
open Go Go.Ab
attribute [local irreducible] vc
theorem shortT_fields (n : Nat) (t : Typ) : (shortT (n + 1) t).fields = if 0 < n then (t.fields.take 6).map (shortTF (shortT n)) else [] := by
 obtain ⟨k, a, b, c, w, e, f⟩ := t
 simp only [shortT, shortT1, Typ.fields, decide_eq_true_eq]
theorem shortT_elem (n : Nat) (t : Typ) : (shortT (n + 1) t).elem = if 0 < n then (t.elem.take 2).map (shortT n) else [] := by
 obtain ⟨k, a, b, c, w, e, f⟩ := t
 simp only [shortT, shortT1, Typ.elem, decide_eq_true_eq]
theorem shortT_words (n : Nat) (t : Typ) : (shortT n t).words = (t.words.take 6).map (List.take 40) := by
 obtain ⟨k, a, b, c, w, e, f⟩ := t
 cases n <;> simp only [shortT, shortT1, Typ.words]
theorem shortTF_name (r : Typ → Typ) (f : TFd) : (shortTF r f).name = f.name.take 40 := by
 obtain ⟨a, b, c, d, e⟩ := f; rfl
theorem shortT_ty : ∀ (n : Nat) (t : Typ), tyOk (n + 1) (shortT (n + 1) t)
 | 0, v => by
   simp only [tyOk]
   rw [shortT_fields, shortT_elem, shortT_words]
   simp; omega
 | n + 1, v => by
   simp only [tyOk]
   rw [shortT_fields, shortT_elem, shortT_words, if_pos (by omega), if_pos (by omega)]
   refine ⟨by simp; omega, by simp; omega, ?_, ?_⟩
   ·intro x hx
    obtain ⟨y, _, rfl⟩ := List.mem_map.1 hx
    exact shortT_ty n y
   ·intro f hf
    obtain ⟨y, _, rfl⟩ := List.mem_map.1 hf
    rw [shortTF_name, shortTF_typ]
    exact ⟨by simp; omega, shortT_ty n _⟩
def rdQ (k : Int) (s : List UInt8) : (Int × Int × List UInt8) × Bool :=
 if k = 1 then ((if s = trueB then 1 else 0, 0, []), decide (s = trueB) || decide (s = falseB))
 else if k = 2 ∨ k = 3 then (((parseN s).1.1, ((parseN s).1.2 : Int), []), decide ((parseN s).2 = 0) && (decide (k = 3) || decide ((parseN s).1.2 = 0)))
 else if k = 4 then ((0, 0, s), true)
 else if k = 5 then ((0, 0, (hexE s).getD []), (hexE s).isSome && decide (s.length % 2 = 0))
 else if k = 6 then (((parseD s).1, 0, []), decide ((parseD s).2 = 0))
 else (((parseT s).1, 0, []), decide ((parseT s).2 = 0))
theorem rdQ_1 (s : List UInt8) : rdQ 1 s = ((if s = trueB then 1 else 0, 0, []), decide (s = trueB) || decide (s = falseB)) := rfl
theorem rdQ_2 (s : List UInt8) : rdQ 2 s = (((parseN s).1.1, ((parseN s).1.2 : Int), []), decide ((parseN s).2 = 0) && decide ((parseN s).1.2 = 0)) := by
 unfold rdQ
 rw [if_neg (by decide), if_pos (by decide), show decide ((2 : Int) = 3) = false from rfl, Bool.false_or]
theorem rdQ_3 (s : List UInt8) : rdQ 3 s = (((parseN s).1.1, ((parseN s).1.2 : Int), []), decide ((parseN s).2 = 0)) := by
 unfold rdQ
 rw [if_neg (by decide), if_pos (by decide), show decide ((3 : Int) = 3) = true from rfl, Bool.true_or, Bool.and_true]
theorem rdQ_4 (s : List UInt8) : rdQ 4 s = ((0, 0, s), true) := rfl
theorem rdQ_5 (s : List UInt8) : rdQ 5 s = ((0, 0, (hexE s).getD []), (hexE s).isSome && decide (s.length % 2 = 0)) := rfl
theorem rdQ_6 (s : List UInt8) : rdQ 6 s = (((parseD s).1, 0, []), decide ((parseD s).2 = 0)) := rfl
theorem rdQ_7 (s : List UInt8) : rdQ 7 s = (((parseT s).1, 0, []), decide ((parseT s).2 = 0)) := rfl
theorem read39 {k : Int} {s : List UInt8} (hk : isSc k = true) (hl : s.length ≤ 1000) : Pure Tryz.prog tabG 39 [.int .i64 k, .str s] (rdV k (rdQ k s).1.1 (rdQ k s).1.2.1 (rdQ k s).1.2.2 (rdQ k s).2) := by
 rw [isSc_iff] at hk
 have hc : k = 1 ∨ k = 2 ∨ k = 3 ∨ k = 4 ∨ k = 5 ∨ k = 6 ∨ k = 7 := by omega
 rcases hc with rfl | rfl | rfl | rfl | rfl | rfl | rfl
 ·exact read39_1 s
 ·exact read39_n s 2 (Or.inl rfl)
 ·exact read39_n s 3 (Or.inr rfl)
 ·exact read39_4 s
 ·exact read39_5 s hl
 ·exact read39_6 s
 ·exact read39_7 s
theorem hexE_len : ∀ {s b : List UInt8}, hexE s = some b → b.length ≤ s.length
 | [], b, h => by cases h; simp
 | [_], b, h => by cases h; simp
 | x :: y :: r, b, h => by
   rw [hexE] at h
   split at h
   ·cases h
   ·simp only [Option.map_eq_some_iff] at h
    obtain ⟨q, hq, rfl⟩ := h
    have := hexE_len hq
    simp; omega
theorem parseN_is {s : List UInt8} (h : (parseN s).2 = 0) : IsN (parseN s).1.1 (parseN s).1.2 ∧ decT (parseN s).1.1 (parseN s).1.2 = s := by
 unfold parseN at h ⊢
 split at h
 ·cases h
 ·split at h
  ·cases h
  ·split at h
   ·rename_i h1 h2 h3
    rw [if_neg h1, if_neg h2, if_pos h3]
    exact h3
   ·cases h
theorem parseD_le (s : List UInt8) : -1000000000000000000 ≤ (parseD s).1 ∧ (parseD s).1 ≤ 1000000000000000000 := by
 unfold parseD
 split
 ·rename_i y m d hn
  rcases dayR_e y m d with h | h
  ·have := dayR_range h; omega
  ·unfold dayR at h ⊢
   split
   ·rename_i hh; rw [if_pos hh] at h; cases h
   ·simp
 ·simp
theorem parseT_le {s : List UInt8} (h : (parseT s).2 = 0) : -1000000000000000000 ≤ (parseT s).1 ∧ (parseT s).1 ≤ 1000000000000000000 := by
 obtain ⟨y, m, d, hh, mi, sec, ms, h1, h2, h3, h4, h5, h6, h7⟩ := parseT_back (s := s) (n := (parseT s).1) (by rw [← h])
 have := day_range h1
 omega
theorem rdQ_ok {k : Int} {s : List UInt8} (hk : isSc k = true) (hl : s.length ≤ 100) (ho : (rdQ k s).2 = true) :
  I64 (rdQ k s).1.1 ∧ I64 (rdQ k s).1.2.1 ∧ (rdQ k s).1.2.2.length ≤ 100 := by
 rw [isSc_iff] at hk
 have hc : k = 1 ∨ k = 2 ∨ k = 3 ∨ k = 4 ∨ k = 5 ∨ k = 6 ∨ k = 7 := by omega
 unfold I64
 rcases hc with rfl | rfl | rfl | rfl | rfl | rfl | rfl
 ·rw [rdQ_1]
  simp only
  refine ⟨?_, ⟨by omega, by omega⟩, by simp⟩
  split <;> omega
 ·rw [rdQ_2] at ho ⊢
  simp only [Bool.and_eq_true, decide_eq_true_eq] at ho ⊢
  obtain ⟨⟨h1, h2, h3⟩, _⟩ := parseN_is ho.1
  exact ⟨⟨by omega, by omega⟩, ⟨by omega, by omega⟩, by simp⟩
 ·rw [rdQ_3] at ho ⊢
  simp only [decide_eq_true_eq] at ho ⊢
  obtain ⟨⟨h1, h2, h3⟩, _⟩ := parseN_is ho
  exact ⟨⟨by omega, by omega⟩, ⟨by omega, by omega⟩, by simp⟩
 ·rw [rdQ_4]
  exact ⟨⟨by simp, by simp⟩, ⟨by simp, by simp⟩, hl⟩
 ·rw [rdQ_5] at ho ⊢
  simp only [Bool.and_eq_true] at ho ⊢
  cases he : hexE s with
  | none => rw [he] at ho; simp at ho
  | some b =>
    have := hexE_len he
    exact ⟨⟨by simp, by simp⟩, ⟨by simp, by simp⟩, by simp; omega⟩
 ·rw [rdQ_6]
  have := parseD_le s
  exact ⟨⟨by simp only; omega, by simp only; omega⟩, ⟨by simp, by simp⟩, by simp⟩
 ·rw [rdQ_7] at ho ⊢
  simp only [decide_eq_true_eq] at ho
  have := parseT_le ho
  exact ⟨⟨by simp only; omega, by simp only; omega⟩, ⟨by simp, by simp⟩, by simp⟩
def valQ (k : Int) (q : Int × Int × List UInt8) : Val := .mk k q.1 q.2.1 q.2.2 [] []
def valN (t : Typ) (s : List UInt8) : Val × Int :=
 if isSc t.kind = false then (zeroV, 11) else if (rdQ t.kind s).2 = false then (zeroV, 13)
 else if (missN 1 t (valQ t.kind (rdQ t.kind s).1) []).isEmpty = true then (valQ t.kind (rdQ t.kind s).1, 0) else (zeroV, 18)
theorem valQ_dep {k : Int} {q : Int × Int × List UInt8} (h : q.2.2.length ≤ 100) : dep 1 (valQ k q) := by
 simp [dep, valQ, Val.lst, Val.fields, Val.text, h]
theorem valQ_ok {k : Int} {q : Int × Int × List UInt8} (hk : isSc k = true) (h : I64 q.1 ∧ I64 q.2.1 ∧ q.2.2.length ≤ 100) : (valQ k q).ok := by
 rw [isSc_iff] at hk
 unfold valQ
 rw [Val.ok_mk]
 exact ⟨⟨by omega, by omega⟩, h.1, h.2.1, by have := h.2.2; omega, by simp, by simp, by simp, by simp⟩
theorem valQ_nz (k : Int) (q : Int × Int × List UInt8) : Nz (vN k q.1 q.2.1 q.2.2) (valQ k q).pv := by
 unfold valQ vN
 rw [Val.pv_mk]
 repeat' constructor
theorem valueOf13 (t : Typ) (s : List UInt8) (hl : s.length ≤ 100) (ht : tyOk 1 t) : Pure Tryz.prog tabG 13 [t.pv, .str s] (.tup [(valN t s).1.pv, .int .i64 (valN t s).2]) := by
 have hs := scalar38 t.kind
 unfold valN
 by_cases hk : isSc t.kind = false
 ·rw [if_pos hk]
  rw [hk] at hs
  obtain ⟨k, a, b, c, w, e, f⟩ := t
  simp only [Typ.kind] at hs
  refine Pure.intro F13_ok (by simp [F13]) ?_
  simp (maxSteps:=9^7) (disch:=first|exact dI|fail) only [F13, Typ.pv_mk, zeroV, Val.pv_mk, push_cast, seval]
  refine ACall.pure hs rfl ?_
  simp (maxSteps:=9^7) (disch:=first|exact dI|fail) only [zeroV, Val.pv_mk, List.map_nil, push_cast, seval]
 ·rw [if_neg hk]
  have hk : isSc t.kind = true := by simpa using hk
  rw [hk] at hs
  have hr := read39 (s := s) hk (by omega)
  unfold rdV vN at hr
  by_cases ho : (rdQ t.kind s).2 = false
  ·rw [if_pos ho]
   rw [ho] at hr
   generalize rdQ t.kind s = Q at *
   obtain ⟨k, a, b, c, w, e, f⟩ := t
   simp only [Typ.kind] at hs hr
   refine Pure.intro F13_ok (by simp [F13]) ?_
   simp (maxSteps:=9^7) (disch:=first|exact dI|fail) only [F13, Typ.pv_mk, zeroV, Val.pv_mk, push_cast, seval]
   refine ACall.pure hs rfl ?_
   simp (maxSteps:=9^7) (disch:=first|exact dI|fail) only [push_cast, seval]
   refine ACall.pure hr rfl ?_
   simp (maxSteps:=9^7) (disch:=first|exact dI|fail) only [zeroV, Val.pv_mk, List.map_nil, push_cast, seval]
  ·rw [if_neg ho]
   have ho : (rdQ t.kind s).2 = true := by simpa using ho
   rw [ho] at hr
   have hq := rdQ_ok hk hl ho
   have hA := allRS t (valQ t.kind (rdQ t.kind s).1) [] ((isSc_iff _).1 hk) (valQ_dep hq.2.2) ht (valQ_ok hk hq) (by simp)
   have hA2 := hA.nz (qs := [t.pv, vN t.kind (rdQ t.kind s).1.1 (rdQ t.kind s).1.2.1 (rdQ t.kind s).1.2.2, .str []]) (.cons _ _ _ _ (.refl _) (.cons _ _ _ _ (valQ_nz _ _) (NzL.refl _)))
   generalize missN 1 t (valQ t.kind (rdQ t.kind s).1) [] = M at *
   generalize (rdQ t.kind s).1 = Q at *
   obtain ⟨q1, q2, q3⟩ := Q
   obtain ⟨k, a, b, c, w, e, f⟩ := t
   simp only [Typ.kind, vN, Typ.pv_mk] at hs hr hA2
   clear hA
   cases M with
   | nil =>
     rw [if_pos (show ([] : List Mis).isEmpty = true from rfl)]
     refine Pure.intro F13_ok (by simp [F13]) ?_
     simp (maxSteps:=9^7) (disch:=first|exact dI|fail) only [F13, Typ.pv_mk, valQ, Typ.kind, Val.pv_mk, push_cast, seval]
     refine ACall.pure hs rfl ?_
     simp (maxSteps:=9^7) (disch:=first|exact dI|fail) only [push_cast, seval]
     refine ACall.pure hr rfl ?_
     simp (maxSteps:=9^7) (disch:=first|exact dI|fail) only [push_cast, seval]
     refine ACall.pure hA2 rfl ?_
     simp (maxSteps:=9^7) (disch:=first|exact dI|fail) only [List.map_nil, push_cast, seval]
   | cons m M =>
     rw [if_neg (by simp)]
     refine Pure.intro F13_ok (by simp [F13]) ?_
     simp (maxSteps:=9^7) (disch:=first|exact dI|fail) only [F13, Typ.pv_mk, zeroV, Val.pv_mk, push_cast, seval]
     refine ACall.pure hs rfl ?_
     simp (maxSteps:=9^7) (disch:=first|exact dI|fail) only [push_cast, seval]
     refine ACall.pure hr rfl ?_
     simp (maxSteps:=9^7) (disch:=first|exact dI|fail) only [push_cast, seval]
     refine ACall.pure hA2 rfl ?_
     simp (maxSteps:=9^7) (disch:=first|exact dI|fail) only [List.map_nil, push_cast, seval]
end Go.Proofs.YtbaaokocnegdoaaGreatDoor
