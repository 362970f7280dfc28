/- A part of the proof for CodecNamesCardSaid. -/
import Derived.Test.YtedanlflegfomaaGreatDoorNamGR6
import Derived.Test.YtedanlflegfomaaGreatDoorNamGSh
import Derived.Test.YtedanlflegfomaaGreatDoorCore6
set_option maxRecDepth 100000
set_option linter.unusedVariables false
set_option linter.unusedSimpArgs false
namespace Go.Proofs.YtedanlflegfomaaGreatDoor
open Go Go.Ab
attribute [local irreducible] vc
theorem rE1 (sz : Nat) (l : List PV) : rElem sz l 1 = onElem sz l 1 l[1]? := _root_.id rfl
theorem rE2 (sz : Nat) (l : List PV) : rElem sz l 2 = onElem sz l 2 l[2]? := _root_.id rfl
theorem rE3 (sz : Nat) (l : List PV) : rElem sz l 3 = onElem sz l 3 l[3]? := _root_.id rfl
def nmB (i : Nat) : List UInt8 := if i = 1 then [116, 97, 103, 103, 101, 100] else if i = 2 then [100, 101, 108, 105, 109, 105, 116, 101, 100] else if i = 3 then [102, 105, 120, 101, 100] else [108, 105, 116, 101, 114, 97, 108]
theorem names42 : Pure Tryz.prog tabG 42 [] (.list [.str (nmB 1), .str (nmB 2), .str (nmB 3), .str (nmB 4)]) := by
 refine Pure.intro F42_ok (by simp [F42]) ?_
 simp only [nmB]
 simp (disch:=first|exact dI|fail) only [F42, push_cast, seval]
def wantN (s : List UInt8) : Nat := if s = nmB 1 then 1 else if s = nmB 2 then 2 else if s = nmB 3 then 3 else if s = nmB 4 then 4 else 0
theorem want_cases (s : List UInt8) : (s = nmB 1 ∧ wantN s = 1) ∨ (s = nmB 2 ∧ wantN s = 2) ∨ (s = nmB 3 ∧ wantN s = 3) ∨ (s = nmB 4 ∧ wantN s = 4) ∨ (¬ s = nmB 1 ∧ ¬ s = nmB 2 ∧ ¬ s = nmB 3 ∧ ¬ s = nmB 4 ∧ wantN s = 0) := by
 unfold wantN
 by_cases h1 : s = nmB 1
 ·exact .inl ⟨h1, if_pos h1⟩
 by_cases h2 : s = nmB 2
 ·exact .inr (.inl ⟨h2, by rw [if_neg h1, if_pos h2]⟩)
 by_cases h3 : s = nmB 3
 ·exact .inr (.inr (.inl ⟨h3, by rw [if_neg h1, if_neg h2, if_pos h3]⟩))
 by_cases h4 : s = nmB 4
 ·exact .inr (.inr (.inr (.inl ⟨h4, by rw [if_neg h1, if_neg h2, if_neg h3, if_pos h4]⟩)))
 ·exact .inr (.inr (.inr (.inr ⟨h1, h2, h3, h4, by rw [if_neg h1, if_neg h2, if_neg h3, if_neg h4]⟩)))
def fstS (s : List UInt8) : List (List UInt8) → Int → Int
 | [], _ => -1
 | x :: r, i => if s = x then i else fstS s r (i + 1)
theorem fstS_step {s x : List UInt8} {l : List (List UInt8)} {i : Nat} (h : l[i]? = some x) (k : Int) : fstS s (l.drop i) k = if s = x then k else fstS s (l.drop (i + 1)) (k + 1) := by
 have hi := (List.getElem?_eq_some_iff.1 h).1
 have he : l[i] = x := (List.getElem?_eq_some_iff.1 h).2
 rw [List.drop_eq_getElem_cons hi, he, fstS]
set_option maxHeartbeats 2000000 in
theorem index43 (l : List (List UInt8)) (s : List UInt8) (hl : l.length ≤ 1000000) : Pure Tryz.prog tabG 43 [.list (l.map .str), .str s] (.int .i64 (fstS s l 0)) := by
 obtain ⟨R, hR⟩ : ∃ R, R = fstS s l 0 := ⟨_, rfl⟩
 rw [← hR]
 refine Pure.intro F43_ok (by simp [F43]) ?_
 simp (disch:=first|exact dI|fail) only [F43, push_cast, seval]
 refine vc_over ([]) (fun i : Nat => [(8, .pv (.int .i64 (i : Int)))]) (fun _ => []) (fun i => i ≤ l.length ∧ R = fstS s (l.drop i) (i : Int)) (fun i => l.length - i) (0) ?_; intro e0 σ0 n0 h0; simp (disch:=first|exact dI|fail) only [push_cast, seval] at h0; obtain ⟨rfl, rfl, rfl⟩ := h0; refine ⟨?_, ?_, ?_⟩
 ·simp (disch:=first|exact dI|fail) only [push_cast, seval]
 ·exact ⟨by omega, by simpa using hR⟩
 rintro i ⟨hi, hr⟩
 by_cases hlt : i < l.length
 ·have hltI : (i : Int) < (l.length : Int) := by omega
  obtain ⟨x, hx⟩ : ∃ x, l[i]? = some x := ⟨_, List.getElem?_eq_getElem hlt⟩
  have hx' : (l.map PV.str)[i]? = some (.str x) := by simp [hx]
  rw [fstS_step hx] at hr
  by_cases he : s = x
  ·rw [if_pos he] at hr
   subst hr
   simp (disch:=first|exact dI|fail) only [hx', he, push_cast, seval]
  ·rw [if_neg he] at hr
   simp (disch:=first|exact dI|fail) only [hx', he, push_cast, seval]
   exact ⟨i + 1, hd_z (by simp (disch:=first|exact dI|fail) only [push_cast, seval]), ⟨by omega, by simpa using hr⟩, by omega⟩
 ·obtain rfl : i = l.length := by omega
  rw [List.drop_length] at hr
  rw [show R = -1 from hr]
  simp (disch:=first|exact dI|fail) only [Int.lt_irrefl, push_cast, seval]
theorem find17 (s : List UInt8) : Pure Tryz.prog tabG 17 [.str s] (.tup [.int .i64 (wantN s : Int), .int .i64 (if wantN s = 0 then 8 else 0)]) := by
 have h42 := names42
 have h43 := index43 [nmB 1, nmB 2, nmB 3, nmB 4] s (by simp)
 have key : (fstS s [nmB 1, nmB 2, nmB 3, nmB 4] 0 = -1 ∧ wantN s = 0) ∨ (0 ≤ fstS s [nmB 1, nmB 2, nmB 3, nmB 4] 0 ∧ fstS s [nmB 1, nmB 2, nmB 3, nmB 4] 0 + 1 = (wantN s : Int) ∧ fstS s [nmB 1, nmB 2, nmB 3, nmB 4] 0 ≤ 3) := by
  unfold wantN
  simp only [fstS]
  by_cases h1 : s = nmB 1
  ·rw [if_pos h1, if_pos h1]; exact .inr (by omega)
  rw [if_neg h1, if_neg h1]
  by_cases h2 : s = nmB 2
  ·rw [if_pos h2, if_pos h2]; exact .inr (by omega)
  rw [if_neg h2, if_neg h2]
  by_cases h3 : s = nmB 3
  ·rw [if_pos h3, if_pos h3]; exact .inr (by omega)
  rw [if_neg h3, if_neg h3]
  by_cases h4 : s = nmB 4
  ·rw [if_pos h4, if_pos h4]; exact .inr (by omega)
  rw [if_neg h4, if_neg h4]
  exact .inl ⟨rfl, rfl⟩
 generalize fstS s [nmB 1, nmB 2, nmB 3, nmB 4] 0 = k at h43 key
 generalize wantN s = w at key ⊢
 generalize hL : [nmB 1, nmB 2, nmB 3, nmB 4] = L at h43
 have h42' : Pure Tryz.prog tabG 42 [] (.list (L.map .str)) := by rw [← hL]; exact h42
 clear h42 hL
 refine Pure.intro F17_ok (by simp [F17]) ?_
 rcases key with ⟨rfl, rfl⟩ | ⟨k0, k1, k2⟩
 ·rw [if_pos rfl]
  simp (disch:=first|exact dI|fail) only [F17, push_cast, seval]
  refine ACall.pure h42' rfl ?_
  simp (disch:=first|exact dI|fail) only [push_cast, seval]
  refine ACall.pure h43 rfl ?_
  simp (disch:=first|exact dI|fail) only [push_cast, seval]
 ·rw [if_neg (show ¬ w = 0 by omega), ← k1]
  simp (disch:=first|exact dI|fail) only [F17, push_cast, seval]
  refine ACall.pure h42' rfl ?_
  simp (disch:=first|exact dI|fail) only [push_cast, seval]
  refine ACall.pure h43 rfl ?_
  simp (disch:=first|exact dI|fail) only [show ¬ k < 0 by omega, push_cast, seval]
theorem name16_in (n : Nat) (h : 1 ≤ n ∧ n ≤ 4) : Pure Tryz.prog tabG 16 [.int .i64 (n : Int)] (.tup [.str (nmB n), .int .i64 0]) := by
 have h42 := names42
 have hc : n = 1 ∨ n = 2 ∨ n = 3 ∨ n = 4 := by omega
 rcases hc with rfl | rfl | rfl | rfl
 all_goals
  refine Pure.intro F16_ok (by simp [F16]) ?_
  simp (disch:=first|exact dI|fail) only [F16, push_cast, seval]
  refine ACall.pure h42 rfl ?_
  simp (disch:=first|exact dI|fail) only [rElem_zero, rE1, rE2, rE3, push_cast, seval]
theorem name16_out (k : Int) (h : k < 1 ∨ 4 < k) : Pure Tryz.prog tabG 16 [.int .i64 k] (.tup [.str [], .int .i64 11]) := by
 refine Pure.intro F16_ok (by simp [F16]) ?_
 by_cases h1 : k < 1
 ·simp (disch:=first|exact dI|fail) only [F16, h1, push_cast, seval]
 ·have h2 : 4 < k := by omega
  simp (disch:=first|exact dI|fail) only [F16, h1, h2, push_cast, seval]
end Go.Proofs.YtedanlflegfomaaGreatDoor
set_option maxRecDepth 100000
set_option linter.unusedVariables false
set_option linter.unusedSimpArgs false
-- many steps
namespace Go.Proofs.YtedanlflegfomaaGreatDoor
open Go Go.Ab
attribute [local irreducible] vc
def scanN (s : List UInt8) (i : Nat) : Nat := if wantN s < i then wantN s else 0
theorem scan_step (s : List UInt8) (i : Nat) (h : 1 ≤ i ∧ i ≤ 4) : scanN s (i + 1) = if nmB i = s then i else scanN s i := by
 have hd : nmB 1 ≠ nmB 2 ∧ nmB 1 ≠ nmB 3 ∧ nmB 1 ≠ nmB 4 ∧ nmB 2 ≠ nmB 3 ∧ nmB 2 ≠ nmB 4 ∧ nmB 3 ≠ nmB 4 := by decide
 obtain ⟨d1, d2, d3, d4, d5, d6⟩ := hd
 have hc : i = 1 ∨ i = 2 ∨ i = 3 ∨ i = 4 := by omega
 unfold scanN
 rcases want_cases s with ⟨rfl, hw⟩ | ⟨rfl, hw⟩ | ⟨rfl, hw⟩ | ⟨rfl, hw⟩ | ⟨h1, h2, h3, h4, hw⟩
 all_goals
  rw [hw]
  rcases hc with rfl | rfl | rfl | rfl
 all_goals first
  | simp [d1, d2, d3, d4, d5, d6, Ne.symm d1, Ne.symm d2, Ne.symm d3, Ne.symm d4, Ne.symm d5, Ne.symm d6]; done
  | simp [Ne.symm h1, Ne.symm h2, Ne.symm h3, Ne.symm h4, fun e => h1 (Eq.symm e), fun e => h2 (Eq.symm e), fun e => h3 (Eq.symm e), fun e => h4 (Eq.symm e)]; done
  | fail
theorem want_le (s : List UInt8) : wantN s ≤ 4 := by
 rcases want_cases s with ⟨_, hw⟩ | ⟨_, hw⟩ | ⟨_, hw⟩ | ⟨_, hw⟩ | ⟨_, _, _, _, hw⟩ <;> omega
set_option maxHeartbeats 4000000 in
theorem names_law (k : Int) (s : List UInt8) : Pure Tryz.prog tabG 5 [.int .i64 k, .str s] (.bool true) := by
 have hwl := want_le s
 have hfd := find17 s
 have hnm : Pure Tryz.prog tabG 16 [.int .i64 k] (.tup [.str (if k < 1 ∨ 4 < k then [] else nmB k.toNat), .int .i64 (if k < 1 ∨ 4 < k then 11 else 0)]) := by
  by_cases h : k < 1 ∨ 4 < k
  ·rw [if_pos h, if_pos h]; exact name16_out k h
  ·rw [if_neg h, if_neg h]
   have := name16_in k.toNat (by omega)
   rw [show ((k.toNat : Nat) : Int) = k by omega] at this
   exact this
 have hn4 : ∀ i, 1 ≤ i → i ≤ 4 → ([PV.str [], PV.str (nmB 1), PV.str (nmB 2), PV.str (nmB 3), PV.str (nmB 4)] : List PV)[i]? = some (.str (nmB i)) := by
  intro i h1 h2
  have hc : i = 1 ∨ i = 2 ∨ i = 3 ∨ i = 4 := by omega
  rcases hc with rfl | rfl | rfl | rfl <;> rfl
 generalize hL : ([PV.str [], PV.str (nmB 1), PV.str (nmB 2), PV.str (nmB 3), PV.str (nmB 4)] : List PV) = L at hn4
 have hL5 : L.length = 5 := by rw [← hL]; rfl
 have hLv : [PV.str [], PV.str [116, 97, 103, 103, 101, 100], PV.str [100, 101, 108, 105, 109, 105, 116, 101, 100], PV.str [102, 105, 120, 101, 100], PV.str [108, 105, 116, 101, 114, 97, 108]] = L := by rw [← hL]; rfl
 have h18 := known14
 have hst := scan_step s
 have hs1 : scanN s 1 = 0 := by unfold scanN; split <;> omega
 have hs5 : scanN s 5 = wantN s := by unfold scanN; rw [if_pos (by omega)]
 have hbf : (false == false) = true := rfl
 have hbt : (true == true) = true := rfl
 clear hL
 refine Pure.intro F5_ok (by simp [F5]) ?_
 simp (maxSteps:=9^7) (disch:=first|exact dI|fail) only [F5, push_cast, seval]
 simp only [hLv]
 refine ACall.pure hnm rfl ?_
 simp (maxSteps:=9^7) (disch:=first|exact dI|fail) only [push_cast, seval]
 refine ACall.pure hfd rfl ?_
 simp (maxSteps:=9^7) (disch:=first|exact dI|fail) only [push_cast, seval]
 refine vc_over ([]) (fun i : Nat => [(10, .pv (.int .i64 (scanN s i : Int))), (11, .pv (.int .i64 (i : Int)))]) (fun _ => []) (fun i => 1 ≤ i ∧ i ≤ 5) (fun i => 5 - i) (1) ?_; intro e0 σ0 n0 h0; simp (maxSteps:=9^7) (disch:=first|exact dI|fail) only [push_cast, seval] at h0; obtain ⟨rfl, rfl, rfl⟩ := h0; refine ⟨?_, ?_, ?_⟩
 ·simp (maxSteps:=9^7) (disch:=first|exact dI|fail) only [hs1, push_cast, seval]
 ·omega
 ·rintro i ⟨h1, h5⟩
  by_cases hlt : i < 5
  ·have hltI : (i : Int) < 5 := by omega
   have hx := hn4 i h1 (by omega)
   have hst := hst i (by omega)
   by_cases he : nmB i = s
   ·rw [if_pos he] at hst
    simp (maxSteps:=9^7) (disch:=first|exact dI|fail) only [hL5, hx, he, push_cast, seval]
    exact ⟨i + 1, hd_z (by simp (maxSteps:=9^7) (disch:=first|exact dI|fail) only [hst, push_cast, seval]), by omega, by omega⟩
   ·rw [if_neg he] at hst
    simp (maxSteps:=9^7) (disch:=first|exact dI|fail) only [hL5, hx, he, push_cast, seval]
    exact ⟨i + 1, hd_z (by simp (maxSteps:=9^7) (disch:=first|exact dI|fail) only [hst, push_cast, seval]), by omega, by omega⟩
  ·obtain rfl : i = 5 := by omega
   rw [hs5]
   generalize wantN s = w at *
   by_cases hw : w = 0
   ·subst hw
    rw [if_pos rfl]
    by_cases hk : k < 1 ∨ 4 < k
    ·rw [if_pos hk, if_pos hk]
     simp (maxSteps:=9^7) (disch:=first|exact dI|fail) only [hL5, push_cast, seval]
     refine ACall.pure h18 rfl ?_
     simp (maxSteps:=9^7) (disch:=first|exact dI|fail) only [hbf, hbt, push_cast, seval]
     by_cases hk1 : k < 1
     ·simp (maxSteps:=9^7) (disch:=first|exact dI|fail) only [hk1, push_cast, seval]
     ·have hk2 : 4 < k := by omega
      simp (maxSteps:=9^7) (disch:=first|exact dI|fail) only [hk1, hk2, push_cast, seval]
    ·have hk1 : ¬ k < 1 := by omega
     have hk2 : ¬ 4 < k := by omega
     obtain ⟨n, rfl⟩ : ∃ n : Nat, k = n := ⟨k.toNat, by omega⟩
     have hx := hn4 n (by omega) (by omega)
     rw [if_neg hk, if_neg hk, show ((n : Int).toNat) = n by omega]
     simp (maxSteps:=9^7) (disch:=first|exact dI|fail) only [hL5, push_cast, seval]
     refine ACall.pure h18 rfl ?_
     simp (maxSteps:=9^7) (disch:=first|exact dI|fail) only [hbf, hbt, hk1, hk2, hx, push_cast, seval]
   ·have hwI : ¬ (w : Int) = 0 := by omega
    have hwp : (0 : Int) < (w : Int) := by omega
    rw [if_neg hw]
    by_cases hk : k < 1 ∨ 4 < k
    ·rw [if_pos hk, if_pos hk]
     simp (maxSteps:=9^7) (disch:=first|exact dI|fail) only [hL5, push_cast, seval]
     refine ACall.pure h18 rfl ?_
     simp (maxSteps:=9^7) (disch:=first|exact dI|fail) only [hbf, hbt, hwI, hwp, push_cast, seval]
     by_cases hk1 : k < 1
     ·simp (maxSteps:=9^7) (disch:=first|exact dI|fail) only [hk1, push_cast, seval]
     ·have hk2 : 4 < k := by omega
      simp (maxSteps:=9^7) (disch:=first|exact dI|fail) only [hk1, hk2, push_cast, seval]
    ·have hk1 : ¬ k < 1 := by omega
     have hk2 : ¬ 4 < k := by omega
     obtain ⟨n, rfl⟩ : ∃ n : Nat, k = n := ⟨k.toNat, by omega⟩
     have hx := hn4 n (by omega) (by omega)
     rw [if_neg hk, if_neg hk, show ((n : Int).toNat) = n by omega]
     simp (maxSteps:=9^7) (disch:=first|exact dI|fail) only [hL5, push_cast, seval]
     refine ACall.pure h18 rfl ?_
     simp (maxSteps:=9^7) (disch:=first|exact dI|fail) only [hbf, hbt, hwI, hwp, hk1, hk2, hx, push_cast, seval]
theorem names_of (p0 p1 : PV) (h0 : HasT Tryz.prog 3 p0) (h1 : HasT Tryz.prog 9 p1) : Pure Tryz.prog tabG 5 [p0, p1] (.bool true) := by
 obtain ⟨n, rfl, hn⟩ := hasT_i64 h0 Tryz.underlying3
 obtain ⟨s, rfl, hs⟩ := hasT_str h1 Tryz.underlying9
 exact names_law n s
end Go.Proofs.YtedanlflegfomaaGreatDoor
set_option maxRecDepth 100000
namespace Go.Proofs.YtedanlflegfomaaGreatDoor
open Go Go.Ab Go.Lib Go.Proofs
theorem u8X : U8Extra Tryz.prog Tryz.lays196_ren := ⟨by kernel_rfl, by kernel_rfl, by kernel_rfl, by kernel_rfl, by kernel_rfl, by kernel_rfl, by kernel_rfl⟩
theorem globs_of {W : World} (h1 : VarReads Tryz.prog W "unicode/utf8.first" firstData) (h2 : VarReads Tryz.prog W "unicode/utf8.acceptRanges" acceptData)
  (h3 : VarReads Tryz.prog W "internal/strconv.uint64pow10" (tabData .u64 pow10Tab)) : GlobOk tabG W (immOf W) := by
 have hu := utf8Tabs_of_readsT (U8Types.of196 Tryz.lays196) u8X h1 h2
 refine globOk_of fun g hg => ?_
 unfold tabG at hg ⊢
 by_cases e3 : g = 3
 ·subst e3
  exact tabAt_ints (t := 268) (e := 162) (m := 20) h3 (by kernel_rfl) (by kernel_rfl) (by kernel_rfl) (by kernel_rfl) (by kernel_rfl) (by kernel_rfl) (by kernel_rfl)
 rw [if_neg e3] at hg ⊢
 by_cases e1 : g = 1
 ·subst e1
  rw [if_pos rfl] at hg ⊢
  refine tabAt_of (t := 231) (e := 5) (m := 256) h1 (by kernel_rfl) (by kernel_rfl) (by kernel_rfl) (by kernel_rfl) fun o p hp => ?_
  rw [u8G1, List.getElem?_map, Option.map_eq_some_iff] at hp
  obtain ⟨c, hc, rfl⟩ := hp
  obtain ⟨hlt, hcc⟩ := List.getElem?_eq_some_iff.1 hc
  simp at hlt hcc
  subst hcc
  exact ⟨_, _, rfl, hu.1 o hlt⟩
 rw [if_neg e1] at hg ⊢
 by_cases e2 : g = 2
 ·subst e2
  rw [if_pos rfl] at hg ⊢
  refine tabAt_of (t := 234) (e := 233) (m := 16) h2 (by kernel_rfl) (by kernel_rfl) (by kernel_rfl) (by kernel_rfl) fun o p hp => ?_
  rw [u8G2, List.getElem?_map, Option.map_eq_some_iff] at hp
  obtain ⟨c, hc, rfl⟩ := hp
  obtain ⟨hlt, hcc⟩ := List.getElem?_eq_some_iff.1 hc
  simp at hlt hcc
  subst hcc
  have := hu.2 (o / 2) (by omega)
  by_cases ho : o % 2 = 0
  ·rw [if_pos ho]
   refine ⟨_, _, rfl, ?_⟩
   have := this.1
   rwa [show 2 * (o / 2) = o by omega] at this
  ·rw [if_neg ho]
   refine ⟨_, _, rfl, ?_⟩
   have := this.2
   rwa [show 2 * (o / 2) + 1 = o by omega] at this
 rw [if_neg e2] at hg
 exact absurd rfl hg
end Go.Proofs.YtedanlflegfomaaGreatDoor
