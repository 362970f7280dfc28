/- A part of the proof for DelimitedValuesCardSaid. -/
import Derived.Test.YtbaaokocnegdoaaGreatDoorValWJ
import Derived.Test.YtbaaokocnegdoaaGreatDoorValVC31
import Derived.Test.YtbaaokocnegdoaaGreatDoorValVT3
import Derived.Test.YtbaaokocnegdoaaGreatDoorCore6
set_option maxRecDepth 100000
set_option linter.unusedVariables false
set_option linter.unusedSimpArgs false
namespace Go.Proofs.YtbaaokocnegdoaaGreatDoor
open Go Go.Ab
attribute [local irreducible] vc
set_option maxHeartbeats 4000000 in
theorem same32_t : ∀ (n : Nat) (a : Val), dep n a → Pure Tryz.prog tabG 15 [a.pv, a.pv] (.bool true)
 | 0, a, h => h.elim
 | n + 1, a, hd => by
   have ih := same32_t n
   obtain ⟨w1, w2, w3, w4, w5, w6⟩ := a
   simp only [dep, Val.lst, Val.fields, Val.text] at hd
   obtain ⟨d1, d2, d3, d4, d5⟩ := hd
   refine Pure.intro F15_ok (by simp [F15]) ?_
   simp (disch:=first|exact dI|fail) only [F15, Val.pv_mk, push_cast, seval]
   refine vc_over ([]) (fun m : Nat => [(5, .pv (.int .i64 (m : Int)))]) (fun m => []) (fun m => m ≤ w5.length) (fun m => w5.length - m) (0) ?_; intro e0 σ0 n0 h0; simp (disch:=first|exact dI|fail) only [push_cast, seval] at h0; obtain ⟨rfl, rfl, rfl⟩ := h0; refine ⟨?_, ?_, ?_⟩
   ·simp (disch:=first|exact dI|fail) only [push_cast, seval]
   ·omega
   ·intro m hm
    by_cases hlt : m < w5.length
    ·have hltI : (m : Int) < w5.length := by omega
     obtain ⟨x, hx⟩ : ∃ x, w5[m]? = some x := ⟨_, List.getElem?_eq_getElem hlt⟩
     have hcall := ih x (d4 x (List.mem_of_getElem? hx))
     obtain ⟨z1, z2, z3, z4, z5, z6⟩ := x
     simp only [Val.pv_mk] at hcall
     simp (disch:=first|exact dI|fail) only [hx, Val.pv_mk, push_cast, seval]
     refine ACall.pure hcall rfl ?_
     simp (disch:=first|exact dI|fail) only [push_cast, seval]
     exact ⟨m + 1, hd_z (by simp (disch:=first|exact dI|fail) only [push_cast, seval]), by omega, by omega⟩
    ·have hltI : ¬ (m : Int) < w5.length := by omega
     simp (disch:=first|exact dI|fail) only [push_cast, seval]
     refine vc_over ([]) (fun m : Nat => [(6, .pv (.int .i64 (m : Int)))]) (fun m => []) (fun m => m ≤ w6.length) (fun m => w6.length - m) (0) ?_; intro e0 σ0 n0 h0; simp (disch:=first|exact dI|fail) only [push_cast, seval] at h0; obtain ⟨rfl, rfl, rfl⟩ := h0; refine ⟨?_, ?_, ?_⟩
     ·simp (disch:=first|exact dI|fail) only [push_cast, seval]
     ·omega
     ·intro m hm
      by_cases hlt : m < w6.length
      ·have hltI : (m : Int) < w6.length := by omega
       obtain ⟨x, hx⟩ : ∃ x, w6[m]? = some x := ⟨_, List.getElem?_eq_getElem hlt⟩
       have hcall := ih x.value (d5 x (List.mem_of_getElem? hx)).2
       obtain ⟨z0, ⟨z1, z2, z3, z4, z5, z6⟩⟩ := x
       simp only [Fld.value, Val.pv_mk] at hcall
       simp (disch:=first|exact dI|fail) only [hx, Fld.pv_mk, Val.pv_mk, push_cast, seval]
       refine ACall.pure hcall rfl ?_
       simp (disch:=first|exact dI|fail) only [push_cast, seval]
       exact ⟨m + 1, hd_z (by simp (disch:=first|exact dI|fail) only [push_cast, seval]), by omega, by omega⟩
      ·have hltI : ¬ (m : Int) < w6.length := by omega
       simp (disch:=first|exact dI|fail) only [push_cast, seval]
variable {n : Nat} {fs : List TFd} {x : Fld}
end Go.Proofs.YtbaaokocnegdoaaGreatDoor
set_option maxRecDepth 100000
set_option linter.unusedVariables false
set_option linter.unusedSimpArgs false
-- many steps
namespace Go.Proofs.YtbaaokocnegdoaaGreatDoor
open Go Go.Ab
attribute [local irreducible] vc
theorem short11 (t : Typ) (ht : t.ok) : Pure Tryz.prog tabG 11 [t.pv] (shortT 3 t).pv := by
 have h := shortT_pure 3 (by omega) t ht
 rw [show ((3 : Nat) : Int) = 3 from rfl] at h
 generalize shortT 3 t = u at *
 obtain ⟨k1, a1, b1, c1, w1, e1, f1⟩ := t
 obtain ⟨k2, a2, b2, c2, w2, e2, f2⟩ := u
 simp only [Typ.pv_mk] at h ⊢
 refine Pure.intro F11_ok (by simp [F11]) ?_
 simp (maxSteps:=9^7) (disch:=first|exact dI|fail) only [F11, push_cast, seval]
 refine ACall.pure h rfl ?_
 simp (maxSteps:=9^7) (disch:=first|exact dI|fail) only [push_cast, seval]
theorem cellOf16 {t : Typ} {s : List UInt8} (hl : s.length ≤ 100) (ht : tyOk 1 t) (hk : isSc t.kind = true) (ho : (rdQ t.kind s).2 = true) (hm : (missN 1 t (valQ t.kind (rdQ t.kind s).1) []).isEmpty = true) :
  Pure Tryz.prog tabG 16 [t.pv, (valQ t.kind (rdQ t.kind s).1).pv] (.tup [.str s, .int .i64 0]) := by
 rw [isSc_iff] at hk
 obtain ⟨k, a, b, c, w, e, f⟩ := t
 simp only [Typ.kind] at hk ho hm ⊢
 have hc : k = 1 ∨ k = 2 ∨ k = 3 ∨ k = 4 ∨ k = 5 ∨ k = 6 ∨ k = 7 := by omega
 rcases hc with rfl | rfl | rfl | rfl | rfl | rfl | rfl
 ·exact cellOf16_1 s hl ht ho hm
 ·exact cellOf16_2 s hl ht ho hm
 ·exact cellOf16_3 s hl ht ho hm
 ·exact cellOf16_4 s hl ht ho hm
 ·exact cellOf16_5 s hl ht ho hm
 ·exact cellOf16_6 s hl ht ho hm
 ·exact cellOf16_7 s hl ht ho hm
theorem valN_cases (t : Typ) (s : List UInt8) (hl : s.length ≤ 100) (ht : tyOk 1 t) : dep 1 (valN t s).1 ∧ (((valN t s).2 = 0 ∧ Pure Tryz.prog tabG 16 [t.pv, (valN t s).1.pv] (.tup [.str s, .int .i64 0])) ∨ (valN t s).2 ≠ 0) := by
 have hz : dep 1 zeroV := by simp [dep, zeroV, Val.lst, Val.fields, Val.text]
 unfold valN
 split
 ·exact ⟨hz, .inr (by simp)⟩
 ·rename_i hk
  have hk : isSc t.kind = true := by simpa using hk
  split
  ·exact ⟨hz, .inr (by simp)⟩
  ·rename_i ho
   have ho : (rdQ t.kind s).2 = true := by simpa using ho
   split
   ·rename_i hm
    exact ⟨valQ_dep (rdQ_ok hk hl ho).2.2, .inl ⟨rfl, cellOf16 hl ht hk ho hm⟩⟩
   ·exact ⟨hz, .inr (by simp)⟩
theorem values_law (T : Nat) (p : PV) (t : Typ) (ht : t.ok) (s0 : List UInt8) (hs : s0.length ≤ 140737488355328) : Pure Tryz.prog (tabE T p) 3 [t.pv, .str s0] (.bool true) := by
 have h11 := toE (T := T) (p := p) (short11 t ht)
 have hty := tyOk1 (shortT_ty 2 t)
 have hm1 : min (s0.length : Int) 100 = ((min s0.length 100 : Nat) : Int) := by omega
 have hsl : (s0.take (min s0.length 100)).length ≤ 100 := by rw [List.length_take]; omega
 have h12 := valueOf12 (T := T) (p := p) (shortT 3 t) (s0.take (min s0.length 100)) hsl hty
 have h13 := toE (T := T) (p := p) (valueOf13 (shortT 3 t) (s0.take (min s0.length 100)) hsl hty)
 have h14 := toE (T := T) (p := p) known_ok
 obtain ⟨hd, hc⟩ := valN_cases (shortT 3 t) (s0.take (min s0.length 100)) hsl hty
 have h15 := toE (T := T) (p := p) (same32_t 1 _ hd)
 generalize valN (shortT 3 t) (s0.take (min s0.length 100)) = Q at *
 obtain ⟨q, e⟩ := Q
 simp only at h12 h13 h15 hc
 generalize shortT 3 t = u at *
 have et : (min (s0.length : Int) 100).toNat = min s0.length 100 := by omega
 generalize hS : s0.take (min s0.length 100) = s at *
 obtain ⟨k1, a1, b1, c1, w1, e1, f1⟩ := t
 obtain ⟨k2, a2, b2, c2, w2, e2, f2⟩ := u
 obtain ⟨g1, g2, g3, g4, g5, g6⟩ := q
 simp only [Typ.pv_mk, Val.pv_mk] at h11 h12 h13 h15 hc
 clear hd hty ht
 rcases hc with ⟨rfl, hc⟩ | hne
 ·have h16 := toE (T := T) (p := p) hc
  clear hc
  refine Pure.intro F3_ok (by simp [F3]) ?_
  simp (maxSteps:=9^7) (disch:=first|exact dI|fail) only [F3, Typ.pv_mk, push_cast, seval]
  refine callDL_pure h11 rfl ?_
  simp (maxSteps:=9^7) (disch:=first|exact dI|fail) only [et, hS, push_cast, seval]
  refine ACall.pure h12 rfl ?_
  simp (maxSteps:=9^7) (disch:=first|exact dI|fail) only [push_cast, seval]
  refine ACall.pure h13 rfl ?_
  simp (maxSteps:=9^7) (disch:=first|exact dI|fail) only [push_cast, seval]
  refine ACall.pure h14 rfl ?_
  simp (maxSteps:=9^7) (disch:=first|exact dI|fail) only [push_cast, seval]
  refine ACall.pure h15 rfl ?_
  simp (maxSteps:=9^7) (disch:=first|exact dI|fail) only [push_cast, seval]
  refine ACall.pure h16 rfl ?_
  simp (maxSteps:=9^7) (disch:=first|exact dI|fail) only [push_cast, seval]
 ·refine Pure.intro F3_ok (by simp [F3]) ?_
  simp (maxSteps:=9^7) (disch:=first|exact dI|fail) only [F3, Typ.pv_mk, push_cast, seval]
  refine callDL_pure h11 rfl ?_
  simp (maxSteps:=9^7) (disch:=first|exact dI|fail) only [et, hS, push_cast, seval]
  refine ACall.pure h12 rfl ?_
  simp (maxSteps:=9^7) (disch:=first|exact dI|fail) only [push_cast, seval]
  refine ACall.pure h13 rfl ?_
  simp (maxSteps:=9^7) (disch:=first|exact dI|fail) only [push_cast, seval]
  refine ACall.pure h14 rfl ?_
  simp (maxSteps:=9^7) (disch:=first|exact dI|fail) only [push_cast, seval]
  refine ACall.pure h15 rfl ?_
  simp (maxSteps:=9^7) (disch:=first|exact dI|fail) only [push_cast, seval]
end Go.Proofs.YtbaaokocnegdoaaGreatDoor
set_option maxRecDepth 100000
set_option linter.unusedVariables false
set_option linter.unusedSimpArgs false
namespace Go.Proofs.YtbaaokocnegdoaaGreatDoor
open Go Go.Ab
theorem values_of (q : PV) (p0 p1 : PV) (h0 : HasT Tryz.prog 26 p0) (h1 : HasT Tryz.prog 9 p1) : Pure Tryz.prog (tabE 276 q) 3 [p0, p1] (.bool true) := by
 obtain ⟨t, rfl, ht⟩ := hasT_Typ h0
 obtain ⟨s, rfl, hs⟩ := hTd_str h1 Tryz.underlying9
 exact values_law 276 q t ht s (by omega)
end Go.Proofs.YtbaaokocnegdoaaGreatDoor
set_option maxRecDepth 100000
namespace Go.Proofs.YtbaaokocnegdoaaGreatDoor
open Go Go.Ab Go.Lib Go.Proofs
theorem u8X : U8Extra Tryz.prog Tryz.lays196_ren := ⟨by kernel_rfl, by kernel_rfl, by kernel_rfl, by kernel_rfl, by kernel_rfl, by kernel_rfl, by kernel_rfl⟩
theorem globs_of {W : World} (h1 : VarReads Tryz.prog W "unicode/utf8.first" firstData) (h2 : VarReads Tryz.prog W "unicode/utf8.acceptRanges" acceptData)
  (h3 : VarReads Tryz.prog W "internal/strconv.uint64pow10" (tabData .u64 pow10Tab)) : GlobOk tabG W (immOf W) := by
 have hu := utf8Tabs_of_readsT (U8Types.of196 Tryz.lays196) u8X h1 h2
 refine globOk_of fun g hg => ?_
 unfold tabG at hg ⊢
 by_cases e3 : g = 5
 ·subst e3
  exact tabAt_ints (t := 281) (e := 213) (m := 20) h3 (by kernel_rfl) (by kernel_rfl) (by kernel_rfl) (by kernel_rfl) (by kernel_rfl) (by kernel_rfl) (by kernel_rfl)
 rw [if_neg e3] at hg ⊢
 by_cases e1 : g = 3
 ·subst e1
  rw [if_pos rfl] at hg ⊢
  refine tabAt_of (t := 270) (e := 5) (m := 256) h1 (by kernel_rfl) (by kernel_rfl) (by kernel_rfl) (by kernel_rfl) fun o p hp => ?_
  rw [u8G1, List.getElem?_map, Option.map_eq_some_iff] at hp
  obtain ⟨c, hc, rfl⟩ := hp
  obtain ⟨hlt, hcc⟩ := List.getElem?_eq_some_iff.1 hc
  simp at hlt hcc
  subst hcc
  exact ⟨_, _, rfl, hu.1 o hlt⟩
 rw [if_neg e1] at hg ⊢
 by_cases e2 : g = 4
 ·subst e2
  rw [if_pos rfl] at hg ⊢
  refine tabAt_of (t := 273) (e := 272) (m := 16) h2 (by kernel_rfl) (by kernel_rfl) (by kernel_rfl) (by kernel_rfl) fun o p hp => ?_
  rw [u8G2, List.getElem?_map, Option.map_eq_some_iff] at hp
  obtain ⟨c, hc, rfl⟩ := hp
  obtain ⟨hlt, hcc⟩ := List.getElem?_eq_some_iff.1 hc
  simp at hlt hcc
  subst hcc
  have := hu.2 (o / 2) (by omega)
  by_cases ho : o % 2 = 0
  ·rw [if_pos ho]
   refine ⟨_, _, rfl, ?_⟩
   have := this.1
   rwa [show 2 * (o / 2) = o by omega] at this
  ·rw [if_neg ho]
   refine ⟨_, _, rfl, ?_⟩
   have := this.2
   rwa [show 2 * (o / 2) + 1 = o by omega] at this
 rw [if_neg e2] at hg
 exact absurd rfl hg
end Go.Proofs.YtbaaokocnegdoaaGreatDoor
