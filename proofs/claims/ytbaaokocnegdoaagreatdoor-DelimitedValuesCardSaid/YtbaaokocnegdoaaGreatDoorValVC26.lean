/- A part of the proof for DelimitedValuesCardSaid. -/
import Derived.Test.YtbaaokocnegdoaaGreatDoorValVC24
import Derived.Test.YtbaaokocnegdoaaGreatDoorValWD
import Derived.Test.YtbaaokocnegdoaaGreatDoorValVT3
set_option maxRecDepth 100000
set_option linter.unusedVariables false
set_option linter.unusedSimpArgs false
-- many steps
namespace Go.Proofs.YtbaaokocnegdoaaGreatDoor
open Go Go.Ab
attribute [local irreducible] vc
def isSc (k : Int) : Bool := decide (1 ≤ k) && decide (k ≤ 7)
theorem isSc_iff (k : Int) : isSc k = true ↔ 1 ≤ k ∧ k ≤ 7 := by simp [isSc]
theorem scalar32 (t : Typ) : Pure Tryz.prog tabG 32 [t.pv] (.bool (isSc t.kind)) := by
 obtain ⟨k, a, b, c, w, e, f⟩ := t
 change Pure Tryz.prog tabG 32 [(Typ.mk k a b c w e f).pv] (.bool (isSc k))
 unfold isSc
 by_cases h1 : 1 ≤ k
 ·rw [decide_eq_true h1, Bool.true_and]
  refine Pure.intro F32_ok (by simp [F32]) ?_
  simp (maxSteps:=9^7) (disch:=first|exact dI|fail) only [F32, Typ.pv_mk, push_cast, seval]
 ·rw [decide_eq_false h1, Bool.false_and]
  refine Pure.intro F32_ok (by simp [F32]) ?_
  simp (maxSteps:=9^7) (disch:=first|exact dI|fail) only [F32, Typ.pv_mk, push_cast, seval]
theorem scalar38 (k : Int) : Pure Tryz.prog tabG 38 [.int .i64 k] (.bool (isSc k)) := by
 unfold isSc
 by_cases h1 : 1 ≤ k
 ·rw [decide_eq_true h1, Bool.true_and]
  refine Pure.intro F38_ok (by simp [F38]) ?_
  simp (maxSteps:=9^7) (disch:=first|exact dI|fail) only [F38, push_cast, seval]
 ·rw [decide_eq_false h1, Bool.false_and]
  refine Pure.intro F38_ok (by simp [F38]) ?_
  simp (maxSteps:=9^7) (disch:=first|exact dI|fail) only [F38, push_cast, seval]
def trueB : List UInt8 := [116, 114, 117, 101]
def falseB : List UInt8 := [102, 97, 108, 115, 101]
def vN (k a b : Int) (c : List UInt8) : PV := .agg [.int .i64 k, .int .i64 a, .int .i64 b, .str c, .nils, .nils]
def rdV (k a b : Int) (c : List UInt8) (ok : Bool) : PV := .tup [vN k a b c, .bool ok]
theorem read39_1 (s : List UInt8) : Pure Tryz.prog tabG 39 [.int .i64 1, .str s] (rdV 1 (if s = trueB then 1 else 0) 0 [] (decide (s = trueB) || decide (s = falseB))) := by
 unfold rdV vN
 by_cases h1 : s = trueB
 ·rw [if_pos h1, decide_eq_true h1, Bool.true_or]
  unfold trueB at h1
  refine Pure.intro F39_ok (by simp [F39]) ?_
  subst h1
  simp (maxSteps:=9^7) (disch:=first|exact dI|fail) only [F39, push_cast, seval]
 ·rw [if_neg h1, decide_eq_false h1, Bool.false_or]
  have h1b : decide (s = [116, 114, 117, 101]) = false := decide_eq_false h1
  unfold falseB
  generalize hq : decide (s = [102, 97, 108, 115, 101]) = q
  refine Pure.intro F39_ok (by simp [F39]) ?_
  simp (maxSteps:=9^7) (disch:=first|exact dI|fail) only [F39, h1b, hq, push_cast, seval]
theorem read39_n (s : List UInt8) (k : Int) (hk : k = 2 ∨ k = 3) : Pure Tryz.prog tabG 39 [.int .i64 k, .str s] (rdV k (parseN s).1.1 ((parseN s).1.2 : Int) [] (decide ((parseN s).2 = 0) && (decide (k = 3) || decide ((parseN s).1.2 = 0)))) := by
 unfold rdV vN
 have hp := parse81 s
 generalize parseN s = N at *
 obtain ⟨⟨a, b⟩, e⟩ := N
 simp only at hp ⊢
 have hbd : decide (b = 0) = decide ((b : Int) = 0) := by by_cases h : b = 0 <;> simp [h]
 rw [hbd]
 rcases hk with rfl | rfl
 ·rw [show decide ((2 : Int) = 3) = false from rfl, Bool.false_or]
  by_cases he : e = 0
  ·subst he
   rw [decide_eq_true rfl, Bool.true_and]
   generalize hq : decide ((b : Int) = 0) = q
   refine Pure.intro F39_ok (by simp [F39]) ?_
   simp (maxSteps:=9^7) (disch:=first|exact dI|fail) only [F39, push_cast, seval]
   refine ACall.pure hp rfl ?_
   simp (maxSteps:=9^7) (disch:=first|exact dI|fail) only [hq, Bool.true_and, push_cast, seval]
  ·rw [decide_eq_false he, Bool.false_and]
   refine Pure.intro F39_ok (by simp [F39]) ?_
   simp (maxSteps:=9^7) (disch:=first|exact dI|fail) only [F39, push_cast, seval]
   refine ACall.pure hp rfl ?_
   simp (maxSteps:=9^7) (disch:=first|exact dI|fail) only [push_cast, seval]
 ·rw [show decide ((3 : Int) = 3) = true from rfl, Bool.true_or]
  by_cases he : e = 0
  ·subst he
   rw [decide_eq_true rfl, Bool.true_and]
   refine Pure.intro F39_ok (by simp [F39]) ?_
   simp (maxSteps:=9^7) (disch:=first|exact dI|fail) only [F39, push_cast, seval]
   refine ACall.pure hp rfl ?_
   simp (maxSteps:=9^7) (disch:=first|exact dI|fail) only [push_cast, seval]
  ·rw [decide_eq_false he]
   refine Pure.intro F39_ok (by simp [F39]) ?_
   simp (maxSteps:=9^7) (disch:=first|exact dI|fail) only [F39, push_cast, seval]
   refine ACall.pure hp rfl ?_
   simp (maxSteps:=9^7) (disch:=first|exact dI|fail) only [push_cast, seval]
theorem read39_4 (s : List UInt8) : Pure Tryz.prog tabG 39 [.int .i64 4, .str s] (rdV 4 0 0 s true) := by
 unfold rdV vN
 refine Pure.intro F39_ok (by simp [F39]) ?_
 simp (maxSteps:=9^7) (disch:=first|exact dI|fail) only [F39, push_cast, seval]
theorem read39_6 (s : List UInt8) : Pure Tryz.prog tabG 39 [.int .i64 6, .str s] (rdV 6 (parseD s).1 0 [] (decide ((parseD s).2 = 0))) := by
 unfold rdV vN
 have hp := rparse83 s
 generalize parseD s = N at *
 obtain ⟨a, e⟩ := N
 simp only at hp ⊢
 generalize hq : decide (e = 0) = q
 refine Pure.intro F39_ok (by simp [F39]) ?_
 simp (maxSteps:=9^7) (disch:=first|exact dI|fail) only [F39, push_cast, seval]
 refine ACall.pure hp rfl ?_
 simp (maxSteps:=9^7) (disch:=first|exact dI|fail) only [hq, push_cast, seval]
theorem read39_7 (s : List UInt8) : Pure Tryz.prog tabG 39 [.int .i64 7, .str s] (rdV 7 (parseT s).1 0 [] (decide ((parseT s).2 = 0))) := by
 unfold rdV vN
 have hp := parseTime84 s
 generalize parseT s = N at *
 obtain ⟨a, e⟩ := N
 simp only at hp ⊢
 generalize hq : decide (e = 0) = q
 refine Pure.intro F39_ok (by simp [F39]) ?_
 simp (maxSteps:=9^7) (disch:=first|exact dI|fail) only [F39, push_cast, seval]
 refine ACall.pure hp rfl ?_
 simp (maxSteps:=9^7) (disch:=first|exact dI|fail) only [hq, push_cast, seval]
end Go.Proofs.YtbaaokocnegdoaaGreatDoor
set_option maxRecDepth 100000
set_option linter.unusedVariables false
set_option linter.unusedSimpArgs false
-- many steps
namespace Go.Proofs.YtbaaokocnegdoaaGreatDoor
open Go Go.Ab
attribute [local irreducible] vc
def hexE : List UInt8 → Option (List UInt8)
 | [] => some []
 | [_] => some []
 | a :: b :: r => if nib a < 0 ∨ nib b < 0 then none else (hexE r).map (bytX a b :: ·)
theorem hexE_even : ∀ {s : List UInt8}, s.length % 2 = 0 → hexP s = hexE s
 | [], _ => rfl
 | [_], h => by simp at h
 | a :: b :: r, h => by
   rw [hexP, hexE, hexE_even (s := r) (by simp only [List.length_cons] at h; omega)]
theorem read39_5 (s : List UInt8) (hl : s.length ≤ 1000) : Pure Tryz.prog tabG 39 [.int .i64 5, .str s] (rdV 5 0 0 ((hexE s).getD []) ((hexE s).isSome && decide (s.length % 2 = 0))) := by
 unfold rdV vN
 obtain ⟨R, hR⟩ : ∃ R, R = hexE s := ⟨_, rfl⟩
 rw [← hR]
 have hm := tmod_n (a := (s.length : Int)) (b := 2) (by omega)
 have hq : decide (s.length % 2 = 0) = decide ((s.length : Int) % 2 = 0) := by
  by_cases h : s.length % 2 = 0
  ·rw [decide_eq_true h, decide_eq_true (by omega)]
  ·rw [decide_eq_false h, decide_eq_false (by omega)]
 rw [hq]
 generalize hq2 : decide ((s.length : Int) % 2 = 0) = q
 refine Pure.intro F39_ok (by simp [F39]) ?_
 simp (maxSteps:=9^7) (disch:=first|exact dI|fail) only [F39, push_cast, seval]
 refine vc_over ([(9, 0, 5, 1)]) (fun y : Nat × List UInt8 => [(9, .olist 2 1 (y.2.map fun b => PV.int .u8 (b.toNat : Int))), (10, .pv (.int .i64 (y.1 : Int)))]) (fun _ => []) (fun y => y.1 ≤ s.length ∧ y.2.length ≤ y.1 ∧ R = (hexE (s.drop y.1)).map (y.2 ++ ·)) (fun y => s.length - y.1) ((0, [])) ?_; intro e0 σ0 n0 h0; simp (maxSteps:=9^7) (disch:=first|exact dI|fail) only [push_cast, seval] at h0; obtain ⟨rfl, rfl, rfl⟩ := h0; refine ⟨?_, ?_, ?_⟩
 ·simp (maxSteps:=9^7) (disch:=first|exact dI|fail) only [push_cast, seval]
 ·exact ⟨by simp, by simp, by simp [hR]⟩
 rintro ⟨i, l⟩ ⟨h1, h2, h3⟩
 simp only at h1 h2 h3
 by_cases hi : i + 1 < s.length
 ·obtain ⟨x, hx⟩ : ∃ x, s[i]? = some x := ⟨_, List.getElem?_eq_getElem (by omega)⟩
  obtain ⟨y, hy⟩ : ∃ y, s[i + 1]? = some y := ⟨_, List.getElem?_eq_getElem hi⟩
  rw [drop_at hx, drop_at hy, hexE] at h3
  have n1 := nibble82 x
  have n2 := nibble82 y
  have a1 := nib_all x
  have a2 := nib_all y
  by_cases hxn : nib x < 0
  ·rw [if_pos (Or.inl hxn)] at h3
   have hR2 : R = none := h3
   rw [hR2]
   simp (maxSteps:=9^7) (disch:=first|exact dI|fail) only [hx, hy, byteO_some, push_cast, seval]
   refine callDL_pure n1 rfl ?_
   simp (maxSteps:=9^7) (disch:=first|exact dI|fail) only [hx, hy, byteO_some, push_cast, seval]
   refine ACall.pure n2 rfl ?_
   simp (maxSteps:=9^7) (disch:=first|exact dI|fail) only [Option.getD_none, Option.isSome_none, Bool.false_and, push_cast, seval]
  ·by_cases hyn : nib y < 0
   ·rw [if_pos (Or.inr hyn)] at h3
    have hR2 : R = none := h3
    rw [hR2]
    simp (maxSteps:=9^7) (disch:=first|exact dI|fail) only [hx, hy, byteO_some, push_cast, seval]
    refine callDL_pure n1 rfl ?_
    simp (maxSteps:=9^7) (disch:=first|exact dI|fail) only [hx, hy, byteO_some, push_cast, seval]
    refine ACall.pure n2 rfl ?_
    simp (maxSteps:=9^7) (disch:=first|exact dI|fail) only [Option.getD_none, Option.isSome_none, Bool.false_and, push_cast, seval]
   ·rw [if_neg (by rintro (h | h); exact hxn h; exact hyn h)] at h3
    have hbn := bytX_nat hxn hyn
    have hc : 16 * nib x + nib y = ((bytX x y).toNat : Int) := by omega
    have hlt := (bytX x y).toNat_lt
    have hw := wrap_u8 (n := ((bytX x y).toNat : Int)) (by omega) (by omega)
    have h3' : R = (hexE (s.drop (i + 2))).map (l ++ [bytX x y] ++ ·) := by
     rw [h3, Option.map_map]
     congr 1
     funext q; simp
    simp (maxSteps:=9^7) (disch:=first|exact dI|fail) only [hx, hy, byteO_some, push_cast, seval]
    refine callDL_pure n1 rfl ?_
    simp (maxSteps:=9^7) (disch:=first|exact dI|fail) only [hx, hy, byteO_some, push_cast, seval]
    refine ACall.pure n2 rfl ?_
    simp (maxSteps:=9^7) (disch:=first|exact dI|fail) only [hc, hw, push_cast, seval]
    exact ⟨(i + 2, l ++ [bytX x y]), hd_z (by simp (maxSteps:=9^7) (disch:=first|exact dI|fail) only [List.map_append, push_cast, seval]; omega), ⟨by simp only; omega, by simp; omega, by simpa using h3'⟩, by simp only; omega⟩
 ·have hdr : hexE (s.drop i) = some [] := by
   have hdl : (s.drop i).length ≤ 1 := by rw [List.length_drop]; omega
   match s.drop i, hdl with
   | [], _ => rfl
   | [c], _ => rfl
   | c :: d :: r, h => simp at h
  rw [hdr, Option.map_some, List.append_nil] at h3
  rw [h3]
  have hub := u8s_bytes l
  simp (maxSteps:=9^7) (disch:=first|exact dI|fail) only [hub, hm, hq2, Option.getD_some, Option.isSome_some, Bool.true_and, push_cast, seval]
end Go.Proofs.YtbaaokocnegdoaaGreatDoor
set_option maxRecDepth 100000
set_option linter.unusedVariables false
set_option linter.unusedSimpArgs false
namespace Go.Proofs.YtbaaokocnegdoaaGreatDoor
open Go Go.Ab
def shortF (rec : Val → Val) : Fld → Fld
 | .mk n v => .mk (n.take 40) (rec v)
def shortV1 (rec : Val → Val) (on : Bool) : Val → Val
 | .mk k i s t l f => .mk k i s (t.take 40) (if on then (l.take 6).map rec else []) (if on then (f.take 6).map (shortF rec) else [])
def shortV : Nat → Val → Val
 | 0 => shortV1 id false
 | n + 1 => shortV1 (shortV n) (decide (0 < n))
def upto (on : Prop) [Decidable on] (len : Nat) : Nat := if on then min len 6 else 0
theorem shortV_of (n : Nat) (hn : n ≤ 1000) (ih : ∀ m v, m < n → v.ok → Pure Tryz.prog tabG 19 [v.pv, .int .i64 m] (shortV m v).pv) (v : Val) (hv : v.ok) : Pure Tryz.prog tabG 19 [v.pv, .int .i64 n] (shortV n v).pv := by
 obtain ⟨k, i, s, t, l, f⟩ := v
 rw [Val.ok_mk] at hv
 obtain ⟨h1, h2, h3, h4, h5, h7, h6, h8⟩ := hv
 refine Pure.intro F19_ok (by simp [F19]) ?_
 simp (disch:=first|exact dI|fail) only [F19, Val.pv_mk, push_cast, seval]
 refine vc_meet ([(5, 0, 31, 6)]) (fun m : Nat => [(5, .olist 2 6 (((l.take m).map (shortV (n - 1))).map Val.pv)), (7, .pv (.int .i64 (m : Int)))]) (fun _ => []) (fun m => m ≤ upto (1 < n) l.length) (fun m => 6 - m) (0) ([1, 2, 4, 5, 6]) (fun m => m = upto (1 < n) l.length) ?_; intro e0 σ0 n0 h0; simp (disch:=first|exact dI|fail) only [push_cast, seval] at h0; obtain ⟨rfl, rfl, rfl⟩ := h0; refine ⟨?_, ?_, ?_, ?_⟩
 ·simp (disch:=first|exact dI|fail) only [push_cast, seval]
 ·omega
 ·intro m hm
  by_cases hgo : m < l.length ∧ m < 6 ∧ 1 < n
  ·obtain ⟨g1, g2, g3⟩ := hgo
   have g1I : (m : Int) < l.length := by omega
   have g2I : (m : Int) < 6 := by omega
   have g3I : (1 : Int) < n := by omega
   obtain ⟨x, hx⟩ : ∃ x, l[m]? = some x := ⟨_, List.getElem?_eq_getElem g1⟩
   obtain ⟨n', rfl⟩ : ∃ n', n = n' + 1 := ⟨n - 1, by omega⟩
   have hts := take_snoc hx
   simp (disch:=first|exact dI|fail) only [hx, Val.cells_len, Val.isAgg, Nat.add_sub_cancel, Int.add_sub_cancel, push_cast, seval]
   refine ACall.pure (ih n' x (by omega) (h7 x (List.mem_of_getElem? hx))) rfl ?_
   simp (disch:=first|exact dI|fail) only [Val.cells_len, Val.ones, push_cast, seval]
   exact ⟨m + 1, hd_z (by simp (disch:=first|exact dI|fail) only [hts, List.map_append, push_cast, seval]), by simp only [upto, if_pos g3] at hm ⊢; omega, by omega⟩
  ·have hm' : m = upto (1 < n) l.length := by unfold upto at hm ⊢; split at hm <;> rename_i h1 <;> (try rw [if_pos h1]) <;> (try rw [if_neg h1]) <;> omega
   have hexit : ¬ m < l.length ∨ (m < l.length ∧ ¬ m < 6) ∨ (m < l.length ∧ m < 6 ∧ ¬ 1 < n) := by omega
   rcases hexit with g1 | ⟨g1, g2⟩ | ⟨g1, g2, g3⟩
   ·have g1I : ¬ (m : Int) < l.length := by omega
    simp (disch:=first|exact dI|fail) only [push_cast, seval]
    exact ⟨m, hm', by simp (disch:=first|exact dI|fail) only [push_cast, seval]⟩
   ·have g1I : (m : Int) < l.length := by omega
    have g2I : ¬ (m : Int) < 6 := by omega
    simp (disch:=first|exact dI|fail) only [push_cast, seval]
    exact ⟨m, hm', by simp (disch:=first|exact dI|fail) only [push_cast, seval]⟩
   ·have g1I : (m : Int) < l.length := by omega
    have g2I : (m : Int) < 6 := by omega
    have g3I : ¬ (1 : Int) < n := by omega
    simp (disch:=first|exact dI|fail) only [push_cast, seval]
    exact ⟨m, hm', by simp (disch:=first|exact dI|fail) only [push_cast, seval]⟩
 ·intro m hm s1 hs1; simp (disch:=first|exact dI|fail) only [push_cast, seval] at hs1; subst hs1
  have hl : (l.take m).map (shortV (n - 1)) = if decide (1 < n) = true then (l.take 6).map (shortV (n - 1)) else [] := by
   subst hm; unfold upto
   by_cases h : 1 < n
   ·simp only [h, decide_true, if_true]; rw [Nat.min_comm, ← List.take_take, List.take_of_length_le (Nat.le_refl _)]
   ·simp [h]
  obtain ⟨LL, hLL⟩ : ∃ LL, LL = (l.take m).map (shortV (n - 1)) := ⟨_, rfl⟩
  rw [← hLL] at hl ⊢
  clear hLL
  simp (disch:=first|exact dI|fail) only [push_cast, seval]
  refine vc_meet ([(6, 0, 83, 7)]) (fun m : Nat => [(6, .olist 3 7 (((f.take m).map (shortF (shortV (n - 1)))).map Fld.pv)), (8, .pv (.int .i64 (m : Int)))]) (fun _ => []) (fun m => m ≤ upto (1 < n) f.length) (fun m => 6 - m) (0) ([2, 4, 5, 6]) (fun m => m = upto (1 < n) f.length) ?_; intro e0 σ0 n0 h0; simp (disch:=first|exact dI|fail) only [push_cast, seval] at h0; obtain ⟨rfl, rfl, rfl⟩ := h0; refine ⟨?_, ?_, ?_, ?_⟩
  ·simp (disch:=first|exact dI|fail) only [push_cast, seval]
  ·omega
  ·intro m hm
   by_cases hgo : m < f.length ∧ m < 6 ∧ 1 < n
   ·obtain ⟨g1, g2, g3⟩ := hgo
    have g1I : (m : Int) < f.length := by omega
    have g2I : (m : Int) < 6 := by omega
    have g3I : (1 : Int) < n := by omega
    obtain ⟨x, hx⟩ : ∃ x, f[m]? = some x := ⟨_, List.getElem?_eq_getElem g1⟩
    have hxo := h8 x (List.mem_of_getElem? hx)
    obtain ⟨nm, vv⟩ := x
    rw [Fld.ok_mk] at hxo
    obtain ⟨n', rfl⟩ : ∃ n', n = n' + 1 := ⟨n - 1, by omega⟩
    have hcall := ih n' vv (by omega) hxo.2
    have hts := take_snoc hx
    obtain ⟨w1, w2, w3, w4, w5, w6⟩ := vv
    rw [Val.pv_mk] at hcall
    have hlen := Fld.cells_len (.mk nm (.mk w1 w2 w3 w4 w5 w6))
    rw [Fld.pv_mk, Val.pv_mk] at hlen
    obtain ⟨cs, hcs, hcl, hco⟩ := Val.row (shortV n' (.mk w1 w2 w3 w4 w5 w6))
    have hone : cs.all PV.one = true := List.all_eq_true.2 hco
    rw [hcs] at hcall
    obtain ⟨u1, u2, u3, u4, u5, u6, rfl⟩ := len_6 hcl
    simp only [List.all_cons, List.all_nil, Bool.and_true, Bool.and_eq_true] at hone
    obtain ⟨o1, o2, o3, o4, o5, o6⟩ := hone
    simp (disch:=first|exact dI|fail) only [hx, Fld.pv_mk, Val.pv_mk, Nat.add_sub_cancel, Int.add_sub_cancel, push_cast, seval]
    refine callDL_pure hcall rfl ?_
    simp (disch:=first|exact dI|fail) only [o1, o2, o3, o4, o5, o6, push_cast, seval]
    exact ⟨m + 1, hd_z (by simp (disch:=first|exact dI|fail) only [hts, List.map_append, shortF, Fld.pv_mk, hcs, push_cast, seval]), by simp only [upto, if_pos g3] at hm ⊢; omega, by omega⟩
   ·have hm' : m = upto (1 < n) f.length := by unfold upto at hm ⊢; split at hm <;> rename_i h1 <;> (try rw [if_pos h1]) <;> (try rw [if_neg h1]) <;> omega
    have hexit : ¬ m < f.length ∨ (m < f.length ∧ ¬ m < 6) ∨ (m < f.length ∧ m < 6 ∧ ¬ 1 < n) := by omega
    rcases hexit with g1 | ⟨g1, g2⟩ | ⟨g1, g2, g3⟩
    ·have g1I : ¬ (m : Int) < f.length := by omega
     simp (disch:=first|exact dI|fail) only [push_cast, seval]
     exact ⟨m, hm', by simp (disch:=first|exact dI|fail) only [push_cast, seval]⟩
    ·have g1I : (m : Int) < f.length := by omega
     have g2I : ¬ (m : Int) < 6 := by omega
     simp (disch:=first|exact dI|fail) only [push_cast, seval]
     exact ⟨m, hm', by simp (disch:=first|exact dI|fail) only [push_cast, seval]⟩
    ·have g1I : (m : Int) < f.length := by omega
     have g2I : (m : Int) < 6 := by omega
     have g3I : ¬ (1 : Int) < n := by omega
     simp (disch:=first|exact dI|fail) only [push_cast, seval]
     exact ⟨m, hm', by simp (disch:=first|exact dI|fail) only [push_cast, seval]⟩
  ·intro q hq s1 hs1; simp (disch:=first|exact dI|fail) only [push_cast, seval] at hs1; subst hs1
   have hf : (f.take q).map (shortF (shortV (n - 1))) = if decide (1 < n) = true then (f.take 6).map (shortF (shortV (n - 1))) else [] := by
    subst hq; unfold upto
    by_cases h : 1 < n
    ·simp only [h, decide_true, if_true]; rw [Nat.min_comm, ← List.take_take, List.take_of_length_le (Nat.le_refl _)]
    ·simp [h]
   have hfin : (shortV n (.mk k i s t l f)).pv = .agg [.int .i64 k, .int .i64 i, .int .i64 s, .str (t.take 40), .list (LL.map Val.pv), .list (((f.take q).map (shortF (shortV (n - 1)))).map Fld.pv)] := by
    rw [hl, hf]
    cases n with
    | zero => simp [shortV, shortV1, Val.pv_mk]
    | succ n => simp [shortV, shortV1, Val.pv_mk]
   rw [hfin]
   simp (disch:=first|exact dI|fail) only [push_cast, seval]
theorem shortV_pure : ∀ (n : Nat) (hn : n ≤ 1000) (v : Val), v.ok → Pure Tryz.prog tabG 19 [v.pv, .int .i64 n] (shortV n v).pv := by
 intro n
 induction n using Nat.strongRecOn with
 | _ n ih => exact fun hn v hv => shortV_of n hn (fun m v hmn => ih m hmn (by omega) v) v hv
end Go.Proofs.YtbaaokocnegdoaaGreatDoor
