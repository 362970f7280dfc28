/- A part of the proof for CodecEqualsCardSaid. -/
import Derived.Test.YtedanlflegfomaaGreatDoorEquGR2
set_option maxRecDepth 100000
set_option linter.unusedVariables false
set_option linter.unusedSimpArgs false
namespace Go.Proofs.YtedanlflegfomaaGreatDoor
open Go Go.Ab
attribute [local irreducible] vc
theorem preorder243 (v : Val) : Pure Tryz.prog tabG 206 [v.pv] (.clo 242 [] [.eptr [v.pv] 0 0]) := by
 obtain ⟨k, n, s, t, l, fs⟩ := v
 refine Pure.intro F206_ok (by simp [F206]) ?_
 simp (disch:=first|exact dI|fail) only [F206, Val.pv_mk, push_cast, seval]
def rulesP : PV := .agg [.nilf, .clo 229 [] [], .clo 231 [] [], .clo 232 [] [], .clo 234 [] [], .clo 236 [] [], .clo 237 [] [], .clo 238 [] [], .clo 239 [] [], .clo 240 [] [], .clo 241 [] []]
theorem one_clo (f : Nat) (a b : List PV) : PV.one (.clo f a b) = true := rfl
theorem one_nilf : PV.one .nilf = true := rfl
theorem rules242 : Pure Tryz.prog tabG 205 [] rulesP := by
 refine Pure.intro F205_ok (by simp [F205]) ?_
 simp (disch:=first|exact dI|fail) only [F205, rulesP, one_clo, one_nilf, push_cast, seval]
theorem between269 (n a b : Int) : Pure Tryz.prog tabG 230 [.int .i64 n, .int .i64 a, .int .i64 b] (.int .i64 (if n < a ∨ b < n then 2 else 0)) := by
 refine Pure.intro F230_ok (by simp [F230]) ?_
 by_cases h1 : n < a
 ·rw [if_pos (.inl h1)]
  simp (disch:=first|exact dI|fail) only [F230, push_cast, seval]
 ·by_cases h2 : b < n
  ·rw [if_pos (.inr h2)]
   simp (disch:=first|exact dI|fail) only [F230, push_cast, seval]
  ·rw [if_neg (by omega)]
   simp (disch:=first|exact dI|fail) only [F230, push_cast, seval]
theorem size274 (n m e : Int) : Pure Tryz.prog tabG 235 [.int .i64 n, .int .i64 m, .int .i64 e] (.int .i64 (if m < n then e else 0)) := by
 refine Pure.intro F235_ok (by simp [F235]) ?_
 by_cases h1 : m < n
 ·rw [if_pos h1]
  simp (disch:=first|exact dI|fail) only [F235, push_cast, seval]
 ·rw [if_neg h1]
  simp (disch:=first|exact dI|fail) only [F235, push_cast, seval]
def nullV : Val → Bool
 | .mk k n s t l fs => decide (k = 0) && (decide (n = 0) && (decide (s = 0) && (decide (t = []) && (decide (l.length = 0) && decide (fs.length = 0)))))
def usesV : Val → Bool
 | .mk k n s t l fs => (decide (k = 1 ∨ k = 2 ∨ k = 6 ∨ k = 7 ∨ k = 3) || decide (n = 0)) && ((decide (k = 3) || decide (s = 0)) && ((decide (k = 4 ∨ k = 5 ∨ k = 10) || decide (t = [])) && ((decide (k = 8 ∨ k = 10) || decide (l.length = 0)) && (decide (k = 9) || decide (fs.length = 0)))))
theorem null111 (v : Val) : Pure Tryz.prog tabG 86 [v.pv] (.bool (nullV v)) := by
 obtain ⟨k, n, s, t, l, fs⟩ := v
 refine Pure.intro F86_ok (by simp [F86]) ?_
 by_cases hk : k = 0
 ·by_cases hn : n = 0
  ·by_cases hs : s = 0
   ·by_cases ht : t = []
    ·by_cases hl : l.length = 0
     ·have hlI : (l.length : Int) = 0 := by omega
      by_cases hf : fs.length = 0
      ·have hfI : (fs.length : Int) = 0 := by omega
       have e : nullV (.mk k n s t l fs) = true := by simp [nullV, hk, hn, hs, ht, hl, hf]
       rw [e]
       simp (disch:=first|exact dI|fail) only [F86, Val.pv_mk, hk, hn, hs, ht, hl, hf, push_cast, seval]
      ·have hfI : ¬ (fs.length : Int) = 0 := by omega
       have e : nullV (.mk k n s t l fs) = false := by simp [nullV, hk, hn, hs, ht, hl, hf]
       rw [e]
       simp (disch:=first|exact dI|fail) only [F86, Val.pv_mk, hk, hn, hs, ht, hl, hf, push_cast, seval]
     ·have hlI : ¬ (l.length : Int) = 0 := by omega
      have e : nullV (.mk k n s t l fs) = false := by simp [nullV, hk, hn, hs, ht, hl]
      rw [e]
      simp (disch:=first|exact dI|fail) only [F86, Val.pv_mk, hk, hn, hs, ht, hl, push_cast, seval]
    ·have e : nullV (.mk k n s t l fs) = false := by simp [nullV, hk, hn, hs, ht]
     rw [e]
     simp (disch:=first|exact dI|fail) only [F86, Val.pv_mk, hk, hn, hs, ht, push_cast, seval]
   ·have e : nullV (.mk k n s t l fs) = false := by simp [nullV, hk, hn, hs]
    rw [e]
    simp (disch:=first|exact dI|fail) only [F86, Val.pv_mk, hk, hn, hs, push_cast, seval]
  ·have e : nullV (.mk k n s t l fs) = false := by simp [nullV, hk, hn]
   rw [e]
   simp (disch:=first|exact dI|fail) only [F86, Val.pv_mk, hk, hn, push_cast, seval]
 ·have e : nullV (.mk k n s t l fs) = false := by simp [nullV, hk]
  rw [e]
  simp (disch:=first|exact dI|fail) only [F86, Val.pv_mk, hk, push_cast, seval]
theorem uses244_1 (n s : Int) (t : List UInt8) (l : List Val) (fs : List Fld) : Pure Tryz.prog tabG 207 [(Val.mk 1 n s t l fs).pv] (.bool (usesV (.mk 1 n s t l fs))) := by
 refine Pure.intro F207_ok (by simp [F207]) ?_
 by_cases hs : s = 0
 ·by_cases ht : t = []
  ·by_cases hl : l.length = 0
   ·have hlI : (l.length : Int) = 0 := by omega
    by_cases hf : fs.length = 0
    ·have hfI : (fs.length : Int) = 0 := by omega
     have e : usesV (.mk 1 n s t l fs) = true := by simp [usesV, hs, ht, hl, hf]
     rw [e]
     simp (disch:=first|exact dI|fail) only [F207, Val.pv_mk, hs, ht, hl, hf, push_cast, seval]
    ·have hfI : ¬ (fs.length : Int) = 0 := by omega
     have e : usesV (.mk 1 n s t l fs) = false := by simp [usesV, hs, ht, hl, hf]
     rw [e]
     simp (disch:=first|exact dI|fail) only [F207, Val.pv_mk, hs, ht, hl, hf, push_cast, seval]
   ·have hlI : ¬ (l.length : Int) = 0 := by omega
    have e : usesV (.mk 1 n s t l fs) = false := by simp [usesV, hs, ht, hl]
    rw [e]
    simp (disch:=first|exact dI|fail) only [F207, Val.pv_mk, hs, ht, hl, push_cast, seval]
  ·have e : usesV (.mk 1 n s t l fs) = false := by simp [usesV, hs, ht]
   rw [e]
   simp (disch:=first|exact dI|fail) only [F207, Val.pv_mk, hs, ht, push_cast, seval]
 ·have e : usesV (.mk 1 n s t l fs) = false := by simp [usesV, hs]
  rw [e]
  simp (disch:=first|exact dI|fail) only [F207, Val.pv_mk, hs, push_cast, seval]
theorem uses244_2 (n s : Int) (t : List UInt8) (l : List Val) (fs : List Fld) : Pure Tryz.prog tabG 207 [(Val.mk 2 n s t l fs).pv] (.bool (usesV (.mk 2 n s t l fs))) := by
 refine Pure.intro F207_ok (by simp [F207]) ?_
 by_cases hs : s = 0
 ·by_cases ht : t = []
  ·by_cases hl : l.length = 0
   ·have hlI : (l.length : Int) = 0 := by omega
    by_cases hf : fs.length = 0
    ·have hfI : (fs.length : Int) = 0 := by omega
     have e : usesV (.mk 2 n s t l fs) = true := by simp [usesV, hs, ht, hl, hf]
     rw [e]
     simp (disch:=first|exact dI|fail) only [F207, Val.pv_mk, hs, ht, hl, hf, push_cast, seval]
    ·have hfI : ¬ (fs.length : Int) = 0 := by omega
     have e : usesV (.mk 2 n s t l fs) = false := by simp [usesV, hs, ht, hl, hf]
     rw [e]
     simp (disch:=first|exact dI|fail) only [F207, Val.pv_mk, hs, ht, hl, hf, push_cast, seval]
   ·have hlI : ¬ (l.length : Int) = 0 := by omega
    have e : usesV (.mk 2 n s t l fs) = false := by simp [usesV, hs, ht, hl]
    rw [e]
    simp (disch:=first|exact dI|fail) only [F207, Val.pv_mk, hs, ht, hl, push_cast, seval]
  ·have e : usesV (.mk 2 n s t l fs) = false := by simp [usesV, hs, ht]
   rw [e]
   simp (disch:=first|exact dI|fail) only [F207, Val.pv_mk, hs, ht, push_cast, seval]
 ·have e : usesV (.mk 2 n s t l fs) = false := by simp [usesV, hs]
  rw [e]
  simp (disch:=first|exact dI|fail) only [F207, Val.pv_mk, hs, push_cast, seval]
theorem uses244_3 (n s : Int) (t : List UInt8) (l : List Val) (fs : List Fld) : Pure Tryz.prog tabG 207 [(Val.mk 3 n s t l fs).pv] (.bool (usesV (.mk 3 n s t l fs))) := by
 refine Pure.intro F207_ok (by simp [F207]) ?_
 by_cases ht : t = []
 ·by_cases hl : l.length = 0
  ·have hlI : (l.length : Int) = 0 := by omega
   by_cases hf : fs.length = 0
   ·have hfI : (fs.length : Int) = 0 := by omega
    have e : usesV (.mk 3 n s t l fs) = true := by simp [usesV, ht, hl, hf]
    rw [e]
    simp (disch:=first|exact dI|fail) only [F207, Val.pv_mk, ht, hl, hf, push_cast, seval]
   ·have hfI : ¬ (fs.length : Int) = 0 := by omega
    have e : usesV (.mk 3 n s t l fs) = false := by simp [usesV, ht, hl, hf]
    rw [e]
    simp (disch:=first|exact dI|fail) only [F207, Val.pv_mk, ht, hl, hf, push_cast, seval]
  ·have hlI : ¬ (l.length : Int) = 0 := by omega
   have e : usesV (.mk 3 n s t l fs) = false := by simp [usesV, ht, hl]
   rw [e]
   simp (disch:=first|exact dI|fail) only [F207, Val.pv_mk, ht, hl, push_cast, seval]
 ·have e : usesV (.mk 3 n s t l fs) = false := by simp [usesV, ht]
  rw [e]
  simp (disch:=first|exact dI|fail) only [F207, Val.pv_mk, ht, push_cast, seval]
theorem uses244_4 (n s : Int) (t : List UInt8) (l : List Val) (fs : List Fld) : Pure Tryz.prog tabG 207 [(Val.mk 4 n s t l fs).pv] (.bool (usesV (.mk 4 n s t l fs))) := by
 refine Pure.intro F207_ok (by simp [F207]) ?_
 by_cases hn : n = 0
 ·by_cases hs : s = 0
  ·by_cases hl : l.length = 0
   ·have hlI : (l.length : Int) = 0 := by omega
    by_cases hf : fs.length = 0
    ·have hfI : (fs.length : Int) = 0 := by omega
     have e : usesV (.mk 4 n s t l fs) = true := by simp [usesV, hn, hs, hl, hf]
     rw [e]
     simp (disch:=first|exact dI|fail) only [F207, Val.pv_mk, hn, hs, hl, hf, push_cast, seval]
    ·have hfI : ¬ (fs.length : Int) = 0 := by omega
     have e : usesV (.mk 4 n s t l fs) = false := by simp [usesV, hn, hs, hl, hf]
     rw [e]
     simp (disch:=first|exact dI|fail) only [F207, Val.pv_mk, hn, hs, hl, hf, push_cast, seval]
   ·have hlI : ¬ (l.length : Int) = 0 := by omega
    have e : usesV (.mk 4 n s t l fs) = false := by simp [usesV, hn, hs, hl]
    rw [e]
    simp (disch:=first|exact dI|fail) only [F207, Val.pv_mk, hn, hs, hl, push_cast, seval]
  ·have e : usesV (.mk 4 n s t l fs) = false := by simp [usesV, hn, hs]
   rw [e]
   simp (disch:=first|exact dI|fail) only [F207, Val.pv_mk, hn, hs, push_cast, seval]
 ·have e : usesV (.mk 4 n s t l fs) = false := by simp [usesV, hn]
  rw [e]
  simp (disch:=first|exact dI|fail) only [F207, Val.pv_mk, hn, push_cast, seval]
theorem uses244_5 (n s : Int) (t : List UInt8) (l : List Val) (fs : List Fld) : Pure Tryz.prog tabG 207 [(Val.mk 5 n s t l fs).pv] (.bool (usesV (.mk 5 n s t l fs))) := by
 refine Pure.intro F207_ok (by simp [F207]) ?_
 by_cases hn : n = 0
 ·by_cases hs : s = 0
  ·by_cases hl : l.length = 0
   ·have hlI : (l.length : Int) = 0 := by omega
    by_cases hf : fs.length = 0
    ·have hfI : (fs.length : Int) = 0 := by omega
     have e : usesV (.mk 5 n s t l fs) = true := by simp [usesV, hn, hs, hl, hf]
     rw [e]
     simp (disch:=first|exact dI|fail) only [F207, Val.pv_mk, hn, hs, hl, hf, push_cast, seval]
    ·have hfI : ¬ (fs.length : Int) = 0 := by omega
     have e : usesV (.mk 5 n s t l fs) = false := by simp [usesV, hn, hs, hl, hf]
     rw [e]
     simp (disch:=first|exact dI|fail) only [F207, Val.pv_mk, hn, hs, hl, hf, push_cast, seval]
   ·have hlI : ¬ (l.length : Int) = 0 := by omega
    have e : usesV (.mk 5 n s t l fs) = false := by simp [usesV, hn, hs, hl]
    rw [e]
    simp (disch:=first|exact dI|fail) only [F207, Val.pv_mk, hn, hs, hl, push_cast, seval]
  ·have e : usesV (.mk 5 n s t l fs) = false := by simp [usesV, hn, hs]
   rw [e]
   simp (disch:=first|exact dI|fail) only [F207, Val.pv_mk, hn, hs, push_cast, seval]
 ·have e : usesV (.mk 5 n s t l fs) = false := by simp [usesV, hn]
  rw [e]
  simp (disch:=first|exact dI|fail) only [F207, Val.pv_mk, hn, push_cast, seval]
theorem uses244_6 (n s : Int) (t : List UInt8) (l : List Val) (fs : List Fld) : Pure Tryz.prog tabG 207 [(Val.mk 6 n s t l fs).pv] (.bool (usesV (.mk 6 n s t l fs))) := by
 refine Pure.intro F207_ok (by simp [F207]) ?_
 by_cases hs : s = 0
 ·by_cases ht : t = []
  ·by_cases hl : l.length = 0
   ·have hlI : (l.length : Int) = 0 := by omega
    by_cases hf : fs.length = 0
    ·have hfI : (fs.length : Int) = 0 := by omega
     have e : usesV (.mk 6 n s t l fs) = true := by simp [usesV, hs, ht, hl, hf]
     rw [e]
     simp (disch:=first|exact dI|fail) only [F207, Val.pv_mk, hs, ht, hl, hf, push_cast, seval]
    ·have hfI : ¬ (fs.length : Int) = 0 := by omega
     have e : usesV (.mk 6 n s t l fs) = false := by simp [usesV, hs, ht, hl, hf]
     rw [e]
     simp (disch:=first|exact dI|fail) only [F207, Val.pv_mk, hs, ht, hl, hf, push_cast, seval]
   ·have hlI : ¬ (l.length : Int) = 0 := by omega
    have e : usesV (.mk 6 n s t l fs) = false := by simp [usesV, hs, ht, hl]
    rw [e]
    simp (disch:=first|exact dI|fail) only [F207, Val.pv_mk, hs, ht, hl, push_cast, seval]
  ·have e : usesV (.mk 6 n s t l fs) = false := by simp [usesV, hs, ht]
   rw [e]
   simp (disch:=first|exact dI|fail) only [F207, Val.pv_mk, hs, ht, push_cast, seval]
 ·have e : usesV (.mk 6 n s t l fs) = false := by simp [usesV, hs]
  rw [e]
  simp (disch:=first|exact dI|fail) only [F207, Val.pv_mk, hs, push_cast, seval]
theorem uses244_7 (n s : Int) (t : List UInt8) (l : List Val) (fs : List Fld) : Pure Tryz.prog tabG 207 [(Val.mk 7 n s t l fs).pv] (.bool (usesV (.mk 7 n s t l fs))) := by
 refine Pure.intro F207_ok (by simp [F207]) ?_
 by_cases hs : s = 0
 ·by_cases ht : t = []
  ·by_cases hl : l.length = 0
   ·have hlI : (l.length : Int) = 0 := by omega
    by_cases hf : fs.length = 0
    ·have hfI : (fs.length : Int) = 0 := by omega
     have e : usesV (.mk 7 n s t l fs) = true := by simp [usesV, hs, ht, hl, hf]
     rw [e]
     simp (disch:=first|exact dI|fail) only [F207, Val.pv_mk, hs, ht, hl, hf, push_cast, seval]
    ·have hfI : ¬ (fs.length : Int) = 0 := by omega
     have e : usesV (.mk 7 n s t l fs) = false := by simp [usesV, hs, ht, hl, hf]
     rw [e]
     simp (disch:=first|exact dI|fail) only [F207, Val.pv_mk, hs, ht, hl, hf, push_cast, seval]
   ·have hlI : ¬ (l.length : Int) = 0 := by omega
    have e : usesV (.mk 7 n s t l fs) = false := by simp [usesV, hs, ht, hl]
    rw [e]
    simp (disch:=first|exact dI|fail) only [F207, Val.pv_mk, hs, ht, hl, push_cast, seval]
  ·have e : usesV (.mk 7 n s t l fs) = false := by simp [usesV, hs, ht]
   rw [e]
   simp (disch:=first|exact dI|fail) only [F207, Val.pv_mk, hs, ht, push_cast, seval]
 ·have e : usesV (.mk 7 n s t l fs) = false := by simp [usesV, hs]
  rw [e]
  simp (disch:=first|exact dI|fail) only [F207, Val.pv_mk, hs, push_cast, seval]
theorem uses244_8 (n s : Int) (t : List UInt8) (l : List Val) (fs : List Fld) : Pure Tryz.prog tabG 207 [(Val.mk 8 n s t l fs).pv] (.bool (usesV (.mk 8 n s t l fs))) := by
 refine Pure.intro F207_ok (by simp [F207]) ?_
 by_cases hn : n = 0
 ·by_cases hs : s = 0
  ·by_cases ht : t = []
   ·by_cases hf : fs.length = 0
    ·have hfI : (fs.length : Int) = 0 := by omega
     have e : usesV (.mk 8 n s t l fs) = true := by simp [usesV, hn, hs, ht, hf]
     rw [e]
     simp (disch:=first|exact dI|fail) only [F207, Val.pv_mk, hn, hs, ht, hf, push_cast, seval]
    ·have hfI : ¬ (fs.length : Int) = 0 := by omega
     have e : usesV (.mk 8 n s t l fs) = false := by simp [usesV, hn, hs, ht, hf]
     rw [e]
     simp (disch:=first|exact dI|fail) only [F207, Val.pv_mk, hn, hs, ht, hf, push_cast, seval]
   ·have e : usesV (.mk 8 n s t l fs) = false := by simp [usesV, hn, hs, ht]
    rw [e]
    simp (disch:=first|exact dI|fail) only [F207, Val.pv_mk, hn, hs, ht, push_cast, seval]
  ·have e : usesV (.mk 8 n s t l fs) = false := by simp [usesV, hn, hs]
   rw [e]
   simp (disch:=first|exact dI|fail) only [F207, Val.pv_mk, hn, hs, push_cast, seval]
 ·have e : usesV (.mk 8 n s t l fs) = false := by simp [usesV, hn]
  rw [e]
  simp (disch:=first|exact dI|fail) only [F207, Val.pv_mk, hn, push_cast, seval]
theorem uses244_9 (n s : Int) (t : List UInt8) (l : List Val) (fs : List Fld) : Pure Tryz.prog tabG 207 [(Val.mk 9 n s t l fs).pv] (.bool (usesV (.mk 9 n s t l fs))) := by
 refine Pure.intro F207_ok (by simp [F207]) ?_
 by_cases hn : n = 0
 ·by_cases hs : s = 0
  ·by_cases ht : t = []
   ·by_cases hl : l.length = 0
    ·have hlI : (l.length : Int) = 0 := by omega
     have e : usesV (.mk 9 n s t l fs) = true := by simp [usesV, hn, hs, ht, hl]
     rw [e]
     simp (disch:=first|exact dI|fail) only [F207, Val.pv_mk, hn, hs, ht, hl, push_cast, seval]
    ·have hlI : ¬ (l.length : Int) = 0 := by omega
     have e : usesV (.mk 9 n s t l fs) = false := by simp [usesV, hn, hs, ht, hl]
     rw [e]
     simp (disch:=first|exact dI|fail) only [F207, Val.pv_mk, hn, hs, ht, hl, push_cast, seval]
   ·have e : usesV (.mk 9 n s t l fs) = false := by simp [usesV, hn, hs, ht]
    rw [e]
    simp (disch:=first|exact dI|fail) only [F207, Val.pv_mk, hn, hs, ht, push_cast, seval]
  ·have e : usesV (.mk 9 n s t l fs) = false := by simp [usesV, hn, hs]
   rw [e]
   simp (disch:=first|exact dI|fail) only [F207, Val.pv_mk, hn, hs, push_cast, seval]
 ·have e : usesV (.mk 9 n s t l fs) = false := by simp [usesV, hn]
  rw [e]
  simp (disch:=first|exact dI|fail) only [F207, Val.pv_mk, hn, push_cast, seval]
theorem uses244_10 (n s : Int) (t : List UInt8) (l : List Val) (fs : List Fld) : Pure Tryz.prog tabG 207 [(Val.mk 10 n s t l fs).pv] (.bool (usesV (.mk 10 n s t l fs))) := by
 refine Pure.intro F207_ok (by simp [F207]) ?_
 by_cases hn : n = 0
 ·by_cases hs : s = 0
  ·by_cases hf : fs.length = 0
   ·have hfI : (fs.length : Int) = 0 := by omega
    have e : usesV (.mk 10 n s t l fs) = true := by simp [usesV, hn, hs, hf]
    rw [e]
    simp (disch:=first|exact dI|fail) only [F207, Val.pv_mk, hn, hs, hf, push_cast, seval]
   ·have hfI : ¬ (fs.length : Int) = 0 := by omega
    have e : usesV (.mk 10 n s t l fs) = false := by simp [usesV, hn, hs, hf]
    rw [e]
    simp (disch:=first|exact dI|fail) only [F207, Val.pv_mk, hn, hs, hf, push_cast, seval]
  ·have e : usesV (.mk 10 n s t l fs) = false := by simp [usesV, hn, hs]
   rw [e]
   simp (disch:=first|exact dI|fail) only [F207, Val.pv_mk, hn, hs, push_cast, seval]
 ·have e : usesV (.mk 10 n s t l fs) = false := by simp [usesV, hn]
  rw [e]
  simp (disch:=first|exact dI|fail) only [F207, Val.pv_mk, hn, push_cast, seval]
theorem uses244 (v : Val) (hk : 1 ≤ v.kind ∧ v.kind ≤ 10) : Pure Tryz.prog tabG 207 [v.pv] (.bool (usesV v)) := by
 obtain ⟨k, n, s, t, l, fs⟩ := v
 simp only [Val.kind] at hk
 have hc : k = 1 ∨ k = 2 ∨ k = 3 ∨ k = 4 ∨ k = 5 ∨ k = 6 ∨ k = 7 ∨ k = 8 ∨ k = 9 ∨ k = 10 := by omega
 rcases hc with rfl | rfl | rfl | rfl | rfl | rfl | rfl | rfl | rfl | rfl
 ·exact uses244_1 n s t l fs
 ·exact uses244_2 n s t l fs
 ·exact uses244_3 n s t l fs
 ·exact uses244_4 n s t l fs
 ·exact uses244_5 n s t l fs
 ·exact uses244_6 n s t l fs
 ·exact uses244_7 n s t l fs
 ·exact uses244_8 n s t l fs
 ·exact uses244_9 n s t l fs
 ·exact uses244_10 n s t l fs
end Go.Proofs.YtedanlflegfomaaGreatDoor
