/- A part of the proof for CodecEqualsCardSaid. -/
import Derived.Test.YtedanlflegfomaaGreatDoorEquGR4
set_option maxRecDepth 100000
set_option linter.unusedVariables false
set_option linter.unusedSimpArgs false
-- many steps
namespace Go.Proofs.YtedanlflegfomaaGreatDoor
open Go Go.Ab
attribute [local irreducible] vc
def outE (n a b : Int) : Int := if n < a ∨ b < n then 2 else 0
def maxE (n m e : Int) : Int := if m < n then e else 0
def namesE : Option (List UInt8) → List (List UInt8) → Int
 | _, [] => 0
 | p, s :: r => if nameB s = false then 12 else if p = some s then 7 else if (p.any fun q => bytesLt s q) = true then 24 else namesE (some s) r
def ruleV : Val → Int
 | .mk k n s t l fs =>
   if k = 1 then outE n 0 1
   else if k = 2 then outE n (-999999999999999) 999999999999999
   else if k = 3 then (if outE n (-999999999999999) 999999999999999 = 0 then outE s 0 12 else outE n (-999999999999999) 999999999999999)
   else if k = 4 then (if maxE t.length 1024 5 = 0 then (if Lib.validD t = true then 0 else 16) else maxE t.length 1024 5)
   else if k = 5 then maxE t.length 1024 5
   else if k = 6 then outE n (-719162) 2932896
   else if k = 7 then outE n (-62135596800000) 253402300799999
   else if k = 8 then maxE l.length 256 9
   else if k = 9 then (if maxE fs.length 64 9 = 0 then namesE none (fs.map Fld.name) else maxE fs.length 64 9)
   else if k = 10 then (if nameB t = false then 12 else if l.length = 0 then 4 else maxE l.length 1 3)
   else 0
theorem rule268 (v : Val) (hk : v.kind = 1) : Pure Tryz.prog tabG 229 [v.pv] (.int .i64 (ruleV v)) := by
 obtain ⟨k, n, s, t, l, fs⟩ := v
 simp only [Val.kind] at hk; subst hk
 rw [show ruleV (.mk 1 n s t l fs) = outE n 0 1 from rfl]
 have h := between269 n 0 1
 change Pure _ _ _ _ (.int .i64 (outE n 0 1)) at h
 generalize outE n 0 1 = e at *
 refine Pure.intro F229_ok (by simp [F229]) ?_
 simp (maxSteps:=9^7) (disch:=first|exact dI|fail) only [F229, Val.pv_mk, push_cast, seval]
 refine ACall.pure h rfl ?_
 simp (maxSteps:=9^7) (disch:=first|exact dI|fail) only [push_cast, seval]
theorem rule270 (v : Val) (hk : v.kind = 2) : Pure Tryz.prog tabG 231 [v.pv] (.int .i64 (ruleV v)) := by
 obtain ⟨k, n, s, t, l, fs⟩ := v
 simp only [Val.kind] at hk; subst hk
 rw [show ruleV (.mk 2 n s t l fs) = outE n (-999999999999999) 999999999999999 from rfl]
 have h := between269 n (-999999999999999) 999999999999999
 change Pure _ _ _ _ (.int .i64 (outE n (-999999999999999) 999999999999999)) at h
 generalize outE n (-999999999999999) 999999999999999 = e at *
 refine Pure.intro F231_ok (by simp [F231]) ?_
 simp (maxSteps:=9^7) (disch:=first|exact dI|fail) only [F231, Val.pv_mk, push_cast, seval]
 refine ACall.pure h rfl ?_
 simp (maxSteps:=9^7) (disch:=first|exact dI|fail) only [push_cast, seval]
def firstE : List Int → Int
 | [] => 0
 | a :: r => if a = 0 then firstE r else a
theorem firstE_at : ∀ {L : List Int} {i : Nat} {x : Int}, L[i]? = some x → x ≠ 0 → (∀ j, j < i → ∀ y, L[j]? = some y → y = 0) → firstE L = x
 | [], i, x, h, _, _ => by simp at h
 | a :: r, 0, x, h, hx, _ => by simp at h; subst h; exact if_neg hx
 | a :: r, i + 1, x, h, hx, h0 => by
   have ha := h0 0 (by omega) a rfl
   subst ha
   rw [firstE, if_pos rfl]
   exact firstE_at (by simpa using h) hx fun j hj y hy => h0 (j + 1) (by omega) y (by simpa using hy)
theorem firstE_zero : ∀ {L : List Int}, (∀ (j : Nat) y, L[j]? = some y → y = 0) → firstE L = 0
 | [], _ => rfl
 | a :: r, h => by
   rw [firstE, if_pos (h 0 a rfl)]
   exact firstE_zero fun j y hy => h (j + 1) y (by simpa using hy)
theorem first272L (L : List Int) (hL : L.length ≤ 1000) : Pure Tryz.prog tabG 233 [.list (L.map fun n => .int .i64 n)] (.int .i64 (firstE L)) := by
 generalize hr : firstE L = e
 refine Pure.intro F233_ok (by simp [F233]) ?_
 simp (maxSteps:=9^7) (disch:=first|exact dI|fail) only [F233, push_cast, seval]
 refine vc_over ([]) (fun i : Nat => [(7, .pv (.int .i64 (i : Int)))]) (fun _ => []) (fun i => i ≤ L.length ∧ (∀ j, j < i → ∀ y, L[j]? = some y → y = 0)) (fun i => L.length - i) (0) ?_; intro e0 σ0 n0 h0; simp (maxSteps:=9^7) (disch:=first|exact dI|fail) only [push_cast, seval] at h0; obtain ⟨rfl, rfl, rfl⟩ := h0; refine ⟨?_, ?_, ?_⟩
 ·simp (maxSteps:=9^7) (disch:=first|exact dI|fail) only [push_cast, seval]
 ·exact ⟨by omega, by omega⟩
 rintro i ⟨hi, h0⟩
 by_cases hlt : i < L.length
 ·have hltI : (i : Int) < (L.length : Int) := by omega
  obtain ⟨x, hx⟩ : ∃ x, L[i]? = some x := ⟨_, List.getElem?_eq_getElem hlt⟩
  have hcp : (L.map fun n => PV.int .i64 n)[i]? = some (.int .i64 x) := by simp [hx]
  by_cases hx0 : x = 0
  ·subst hx0
   simp (maxSteps:=9^7) (disch:=first|exact dI|fail) only [hcp, push_cast, seval]
   exact ⟨i + 1, hd_z (by simp (maxSteps:=9^7) (disch:=first|exact dI|fail) only [push_cast, seval]), ⟨by omega, fun j hj y hy => by
    rcases Nat.lt_or_ge j i with h | h
    ·exact h0 j h y hy
    ·have : j = i := by omega
     subst this
     rw [hx] at hy; exact (Option.some.inj hy).symm⟩, by omega⟩
  ·have := firstE_at hx hx0 h0
   rw [this] at hr
   subst hr
   simp (maxSteps:=9^7) (disch:=first|exact dI|fail) only [hcp, push_cast, seval]
 ·have := firstE_zero (L := L) fun j y hy => h0 j (by have := (List.getElem?_eq_some_iff.1 hy).1; omega) y hy
  rw [this] at hr
  subst hr
  simp (maxSteps:=9^7) (disch:=first|exact dI|fail) only [push_cast, seval]
theorem first272 (a b : Int) : Pure Tryz.prog tabG 233 [.list [.int .i64 a, .int .i64 b]] (.int .i64 (if a = 0 then b else a)) := by
 have := first272L [a, b] (by simp)
 have e : firstE [a, b] = if a = 0 then b else a := by
  simp only [firstE]
  by_cases hb : b = 0
  ·subst hb; simp
  ·simp [hb]
 rw [e] at this
 exact this
theorem rule271 (v : Val) (hk : v.kind = 3) : Pure Tryz.prog tabG 232 [v.pv] (.int .i64 (ruleV v)) := by
 obtain ⟨k, n, s, t, l, fs⟩ := v
 simp only [Val.kind] at hk; subst hk
 rw [show ruleV (.mk 3 n s t l fs) = (if outE n (-999999999999999) 999999999999999 = 0 then outE s 0 12 else outE n (-999999999999999) 999999999999999) from rfl]
 have h := between269 n (-999999999999999) 999999999999999
 have h' := between269 s 0 12
 change Pure _ _ _ _ (.int .i64 (outE n (-999999999999999) 999999999999999)) at h
 change Pure _ _ _ _ (.int .i64 (outE s 0 12)) at h'
 generalize outE n (-999999999999999) 999999999999999 = e at *
 generalize outE s 0 12 = e' at *
 have h2 := first272 e e'
 generalize (if e = 0 then e' else e) = e2 at *
 refine Pure.intro F232_ok (by simp [F232]) ?_
 simp (maxSteps:=9^7) (disch:=first|exact dI|fail) only [F232, Val.pv_mk, push_cast, seval]
 refine callDL_pure h rfl ?_
 simp (maxSteps:=9^7) (disch:=first|exact dI|fail) only [push_cast, seval]
 refine ACall.pure h' rfl ?_
 simp (maxSteps:=9^7) (disch:=first|exact dI|fail) only [push_cast, seval]
 refine ACall.pure h2 rfl ?_
 simp (maxSteps:=9^7) (disch:=first|exact dI|fail) only [push_cast, seval]
theorem rule275 (v : Val) (hk : v.kind = 5) : Pure Tryz.prog tabG 236 [v.pv] (.int .i64 (ruleV v)) := by
 obtain ⟨k, n, s, t, l, fs⟩ := v
 simp only [Val.kind] at hk; subst hk
 rw [show ruleV (.mk 5 n s t l fs) = maxE t.length 1024 5 from rfl]
 have h := size274 t.length 1024 5
 change Pure _ _ _ _ (.int .i64 (maxE t.length 1024 5)) at h
 generalize maxE t.length 1024 5 = e at *
 refine Pure.intro F236_ok (by simp [F236]) ?_
 simp (maxSteps:=9^7) (disch:=first|exact dI|fail) only [F236, Val.pv_mk, push_cast, seval]
 refine ACall.pure h rfl ?_
 simp (maxSteps:=9^7) (disch:=first|exact dI|fail) only [push_cast, seval]
theorem rule276 (v : Val) (hk : v.kind = 6) : Pure Tryz.prog tabG 237 [v.pv] (.int .i64 (ruleV v)) := by
 obtain ⟨k, n, s, t, l, fs⟩ := v
 simp only [Val.kind] at hk; subst hk
 rw [show ruleV (.mk 6 n s t l fs) = outE n (-719162) 2932896 from rfl]
 have h := between269 n (-719162) 2932896
 change Pure _ _ _ _ (.int .i64 (outE n (-719162) 2932896)) at h
 generalize outE n (-719162) 2932896 = e at *
 refine Pure.intro F237_ok (by simp [F237]) ?_
 simp (maxSteps:=9^7) (disch:=first|exact dI|fail) only [F237, Val.pv_mk, push_cast, seval]
 refine ACall.pure h rfl ?_
 simp (maxSteps:=9^7) (disch:=first|exact dI|fail) only [push_cast, seval]
theorem rule277 (v : Val) (hk : v.kind = 7) : Pure Tryz.prog tabG 238 [v.pv] (.int .i64 (ruleV v)) := by
 obtain ⟨k, n, s, t, l, fs⟩ := v
 simp only [Val.kind] at hk; subst hk
 rw [show ruleV (.mk 7 n s t l fs) = outE n (-62135596800000) 253402300799999 from rfl]
 have h := between269 n (-62135596800000) 253402300799999
 change Pure _ _ _ _ (.int .i64 (outE n (-62135596800000) 253402300799999)) at h
 generalize outE n (-62135596800000) 253402300799999 = e at *
 refine Pure.intro F238_ok (by simp [F238]) ?_
 simp (maxSteps:=9^7) (disch:=first|exact dI|fail) only [F238, Val.pv_mk, push_cast, seval]
 refine ACall.pure h rfl ?_
 simp (maxSteps:=9^7) (disch:=first|exact dI|fail) only [push_cast, seval]
theorem rule278 (v : Val) (hk : v.kind = 8) : Pure Tryz.prog tabG 239 [v.pv] (.int .i64 (ruleV v)) := by
 obtain ⟨k, n, s, t, l, fs⟩ := v
 simp only [Val.kind] at hk; subst hk
 rw [show ruleV (.mk 8 n s t l fs) = maxE l.length 256 9 from rfl]
 have h := size274 l.length 256 9
 change Pure _ _ _ _ (.int .i64 (maxE l.length 256 9)) at h
 generalize maxE l.length 256 9 = e at *
 refine Pure.intro F239_ok (by simp [F239]) ?_
 simp (maxSteps:=9^7) (disch:=first|exact dI|fail) only [F239, Val.pv_mk, push_cast, seval]
 refine ACall.pure h rfl ?_
 simp (maxSteps:=9^7) (disch:=first|exact dI|fail) only [push_cast, seval]
theorem rule273 (v : Val) (hk : v.kind = 4) : Pure Tryz.prog tabG 234 [v.pv] (.int .i64 (ruleV v)) := by
 obtain ⟨k, n, s, t, l, fs⟩ := v
 simp only [Val.kind] at hk; subst hk
 rw [show ruleV (.mk 4 n s t l fs) = (if maxE t.length 1024 5 = 0 then (if Lib.validD t = true then 0 else 16) else maxE t.length 1024 5) from rfl]
 have h := size274 t.length 1024 5
 have hv := validString_ok t
 change Pure _ _ _ _ (.int .i64 (maxE t.length 1024 5)) at h
 generalize maxE t.length 1024 5 = e at *
 refine Pure.intro F234_ok (by simp [F234]) ?_
 by_cases he : e = 0
 ·subst he
  rw [if_pos rfl]
  cases hb : Lib.validD t with
  | true =>
    rw [hb] at hv
    rw [if_pos rfl]
    simp (maxSteps:=9^7) (disch:=first|exact dI|fail) only [F234, Val.pv_mk, push_cast, seval]
    refine ACall.pure h rfl ?_
    simp (maxSteps:=9^7) (disch:=first|exact dI|fail) only [push_cast, seval]
    refine ACall.pure hv rfl ?_
    simp (maxSteps:=9^7) (disch:=first|exact dI|fail) only [push_cast, seval]
  | false =>
    rw [hb] at hv
    rw [if_neg (by simp)]
    simp (maxSteps:=9^7) (disch:=first|exact dI|fail) only [F234, Val.pv_mk, push_cast, seval]
    refine ACall.pure h rfl ?_
    simp (maxSteps:=9^7) (disch:=first|exact dI|fail) only [push_cast, seval]
    refine ACall.pure hv rfl ?_
    simp (maxSteps:=9^7) (disch:=first|exact dI|fail) only [push_cast, seval]
 ·rw [if_neg he]
  simp (maxSteps:=9^7) (disch:=first|exact dI|fail) only [F234, Val.pv_mk, push_cast, seval]
  refine ACall.pure h rfl ?_
  simp (maxSteps:=9^7) (disch:=first|exact dI|fail) only [push_cast, seval]
theorem namesE_step {fs : List (List UInt8)} {i : Nat} {s : List UInt8} (h : fs[i]? = some s) (p : Option (List UInt8)) : namesE p (fs.drop i) = if nameB s = false then 12 else if p = some s then 7 else if (p.any fun q => bytesLt s q) = true then 24 else namesE (some s) (fs.drop (i + 1)) := by
 have hi : i < fs.length := (List.getElem?_eq_some_iff.1 h).1
 have he : fs[i] = s := (List.getElem?_eq_some_iff.1 h).2
 rw [List.drop_eq_getElem_cons hi, he, namesE]
def prevN (fs : List Fld) (i : Nat) : Option (List UInt8) := if i = 0 then none else (fs[i - 1]?).map Fld.name
set_option maxHeartbeats 2000000 in
theorem rule279 (v : Val) (hk : v.kind = 9) : Pure Tryz.prog tabG 240 [v.pv] (.int .i64 (ruleV v)) := by
 obtain ⟨k, n, s, t, l, fs⟩ := v
 simp only [Val.kind] at hk; subst hk
 rw [show ruleV (.mk 9 n s t l fs) = (if maxE fs.length 64 9 = 0 then namesE none (fs.map Fld.name) else maxE fs.length 64 9) from rfl]
 have h := size274 fs.length 64 9
 change Pure _ _ _ _ (.int .i64 (maxE fs.length 64 9)) at h
 by_cases h64 : (64 : Int) < fs.length
 ·have e : maxE fs.length 64 9 = 9 := if_pos h64
  rw [e] at h ⊢
  rw [if_neg (by omega)]
  refine Pure.intro F240_ok (by simp [F240]) ?_
  simp (maxSteps:=9^7) (disch:=first|exact dI|fail) only [F240, Val.pv_mk, push_cast, seval]
  refine ACall.pure h rfl ?_
  simp (maxSteps:=9^7) (disch:=first|exact dI|fail) only [push_cast, seval]
 ·have e : maxE fs.length 64 9 = 0 := if_neg h64
  rw [e] at h ⊢
  rw [if_pos rfl]
  have hfl : fs.length ≤ 64 := by omega
  obtain ⟨R, hR⟩ : ∃ R, R = namesE none (fs.map Fld.name) := ⟨_, rfl⟩
  rw [← hR]
  refine Pure.intro F240_ok (by simp [F240]) ?_
  simp (maxSteps:=9^7) (disch:=first|exact dI|fail) only [F240, Val.pv_mk, push_cast, seval]
  refine ACall.pure h rfl ?_
  simp (maxSteps:=9^7) (disch:=first|exact dI|fail) only [push_cast, seval]
  refine vc_over ([]) (fun i : Nat => [(16, .pv (.int .i64 (i : Int)))]) (fun _ => []) (fun i => i ≤ fs.length ∧ R = namesE (prevN fs i) ((fs.map Fld.name).drop i)) (fun i => fs.length - i) (0) ?_; intro e0 σ0 n0 h0; simp (maxSteps:=9^7) (disch:=first|exact dI|fail) only [push_cast, seval] at h0; obtain ⟨rfl, rfl, rfl⟩ := h0; refine ⟨?_, ?_, ?_⟩
  ·simp (maxSteps:=9^7) (disch:=first|exact dI|fail) only [push_cast, seval]
  ·exact ⟨by omega, by simpa [prevN] using hR⟩
  rintro i ⟨hi, hr⟩
  by_cases hlt : i < fs.length
  ·have hltI : (i : Int) < (fs.length : Int) := by omega
   obtain ⟨c, hc⟩ : ∃ c, fs[i]? = some c := ⟨_, List.getElem?_eq_getElem hlt⟩
   obtain ⟨nm, ⟨k', n', s', t', l', f'⟩⟩ := c
   have hcp : (fs.map Fld.pv)[i]? = some (.agg [.str nm, .int .i64 k', .int .i64 n', .int .i64 s', .str t', .list (l'.map Val.pv), .list (f'.map Fld.pv)]) := by simp [hc, Fld.pv_mk, Val.pv_mk, cells_agg]
   have hnm : (fs.map Fld.name)[i]? = some nm := by simp [hc, Fld.name]
   have hn := name240 nm
   rw [namesE_step hnm] at hr
   have hnext : prevN fs (i + 1) = some nm := by simp [prevN, hc, Fld.name]
   cases hb : nameB nm with
   | false =>
     rw [hb] at hn hr
     rw [if_pos rfl] at hr
     subst hr
     simp (maxSteps:=9^7) (disch:=first|exact dI|fail) only [hcp, push_cast, seval]
     refine ACall.pure hn rfl ?_
     simp (maxSteps:=9^7) (disch:=first|exact dI|fail) only [push_cast, seval]
   | true =>
     rw [hb] at hn hr
     rw [if_neg (by simp)] at hr
     by_cases hi0 : i = 0
     ·have hiI : ¬ (0 : Int) < (i : Int) := by omega
      have hpn : prevN fs i = none := if_pos hi0
      rw [hpn, if_neg (by simp), if_neg (by simp), ← hnext] at hr
      simp (maxSteps:=9^7) (disch:=first|exact dI|fail) only [hcp, push_cast, seval]
      refine ACall.pure hn rfl ?_
      simp (maxSteps:=9^7) (disch:=first|exact dI|fail) only [push_cast, seval]
      exact ⟨i + 1, hd_z (by simp (maxSteps:=9^7) (disch:=first|exact dI|fail) only [push_cast, seval]), ⟨by omega, by rw [List.map_drop]; exact hr⟩, by omega⟩
     ·obtain ⟨j, rfl⟩ : ∃ j, i = j + 1 := ⟨i - 1, by omega⟩
      obtain ⟨c, hc'⟩ : ∃ c, fs[j]? = some c := ⟨_, List.getElem?_eq_getElem (by omega)⟩
      have hpn : prevN fs (j + 1) = some c.name := by simp [prevN, hc']
      obtain ⟨q, ⟨k2, n2, s2, t2, l2, f2⟩⟩ := c
      have hcq : (fs.map Fld.pv)[j]? = some (.agg [.str q, .int .i64 k2, .int .i64 n2, .int .i64 s2, .str t2, .list (l2.map Val.pv), .list (f2.map Fld.pv)]) := by simp [hc', Fld.pv_mk, Val.pv_mk, cells_agg]
      simp only [Fld.name] at hpn
      rw [hpn] at hr
      by_cases hq : nm = q
      ·subst hq
       rw [if_pos rfl] at hr
       subst hr
       simp (maxSteps:=9^7) (disch:=first|exact dI|fail) only [hcp, Int.add_sub_cancel, push_cast, seval]
       refine ACall.pure hn rfl ?_
       simp (maxSteps:=9^7) (disch:=first|exact dI|fail) only [hcq, Int.add_sub_cancel, push_cast, seval]
      ·rw [if_neg (by simpa using fun e => hq e.symm)] at hr
       cases hlt2 : bytesLt nm q with
       | true =>
         rw [if_pos (by simpa using hlt2)] at hr
         subst hr
         simp (maxSteps:=9^7) (disch:=first|exact dI|fail) only [hcp, Int.add_sub_cancel, push_cast, seval]
         refine ACall.pure hn rfl ?_
         simp (maxSteps:=9^7) (disch:=first|exact dI|fail) only [hcq, Int.add_sub_cancel, hq, hlt2, push_cast, seval]
       | false =>
         rw [if_neg (by simp [hlt2]), ← hnext] at hr
         simp (maxSteps:=9^7) (disch:=first|exact dI|fail) only [hcp, Int.add_sub_cancel, push_cast, seval]
         refine ACall.pure hn rfl ?_
         simp (maxSteps:=9^7) (disch:=first|exact dI|fail) only [hcq, Int.add_sub_cancel, hq, hlt2, push_cast, seval]
         exact ⟨j + 1 + 1, hd_z (by simp (maxSteps:=9^7) (disch:=first|exact dI|fail) only [push_cast, seval]), ⟨by omega, by rw [List.map_drop]; exact hr⟩, by omega⟩
  ·have hie : i = fs.length := by omega
   subst hie
   rw [List.drop_of_length_le (by simp)] at hr
   rw [show R = 0 from hr]
   simp (maxSteps:=9^7) (disch:=first|exact dI|fail) only [push_cast, seval]
theorem rule280 (v : Val) (hk : v.kind = 10) : Pure Tryz.prog tabG 241 [v.pv] (.int .i64 (ruleV v)) := by
 obtain ⟨k, n, s, t, l, fs⟩ := v
 simp only [Val.kind] at hk; subst hk
 rw [show ruleV (.mk 10 n s t l fs) = (if nameB t = false then 12 else if l.length = 0 then 4 else maxE l.length 1 3) from rfl]
 have h := size274 l.length 1 3
 have hn := name240 t
 change Pure _ _ _ _ (.int .i64 (maxE l.length 1 3)) at h
 generalize maxE l.length 1 3 = e at *
 refine Pure.intro F241_ok (by simp [F241]) ?_
 cases hb : nameB t with
 | false =>
   rw [hb] at hn
   rw [if_pos rfl]
   simp (maxSteps:=9^7) (disch:=first|exact dI|fail) only [F241, Val.pv_mk, push_cast, seval]
   refine ACall.pure hn rfl ?_
   simp (maxSteps:=9^7) (disch:=first|exact dI|fail) only [push_cast, seval]
 | true =>
   rw [hb] at hn
   rw [if_neg (by simp)]
   by_cases hl : l.length = 0
   ·have hlI : (l.length : Int) = 0 := by omega
    rw [if_pos hl]
    simp (maxSteps:=9^7) (disch:=first|exact dI|fail) only [F241, Val.pv_mk, push_cast, seval]
    refine ACall.pure hn rfl ?_
    simp (maxSteps:=9^7) (disch:=first|exact dI|fail) only [push_cast, seval]
   ·have hlI : ¬ (l.length : Int) = 0 := by omega
    rw [if_neg hl]
    simp (maxSteps:=9^7) (disch:=first|exact dI|fail) only [F241, Val.pv_mk, push_cast, seval]
    refine ACall.pure hn rfl ?_
    simp (maxSteps:=9^7) (disch:=first|exact dI|fail) only [push_cast, seval]
    refine ACall.pure h rfl ?_
    simp (maxSteps:=9^7) (disch:=first|exact dI|fail) only [push_cast, seval]
end Go.Proofs.YtedanlflegfomaaGreatDoor
