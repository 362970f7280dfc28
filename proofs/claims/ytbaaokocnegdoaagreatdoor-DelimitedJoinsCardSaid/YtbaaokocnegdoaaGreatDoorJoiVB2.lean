/- A part of the proof for DelimitedJoinsCardSaid. -/
import Derived.Lib.OthersKept
import Derived.Test.YtbaaokocnegdoaaGreatDoorJoiVB
namespace Go.Ab
open Go Go.Shelf Go.RowKit Go.Lib Go.Proofs
variable {P : Program} {ρ : Ren}
theorem below_mono {A B : Nat} {a w : World} (h : Below A a w) (hab : B ≤ A) : Below B a w := ⟨h.os, h.tape, h.output, h.size, fun k hk => h.block k (Nat.lt_of_lt_of_le hk hab)⟩
theorem indexRune_any (L : Lays.n152 P ρ) (s : ByteArray) (r : Nat) (w : World) (h2 : (r : Int) ≤ 2147483647) (hascii : ∀ (j : Nat) b, s.data.toList[j]? = some b → b.toNat < 128) :
    Calls P (ρ.f 152) #[.string s, .int .i32 r] w fun e w' => e = .returned (.int .i64 (if r < 128 then Lib.indexByte s.data.toList r.toUInt8 else -1)) ∧ Below w.heap.size w w' := by
  by_cases h : r < 128
  · rw [if_pos h]
    exact (Any.strings_IndexRune_ascii L s r w (by omega) (by omega)).mono fun e w' ⟨a, b⟩ => ⟨a, b ▸ Below.refl _ _⟩
  · rw [if_neg h]
    by_cases h3 : (r : Int) = 65533
    · rw [h3]; exact indexRune_err L s w hascii
    · exact indexRune_high L s r w (by omega) h2 h3 hascii
theorem decode_cont (s : ByteArray) (i : Nat) : ∀ k, 1 ≤ k → k < (Utf8.decode s i).2 → i + k < s.size ∧ 128 ≤ (s.get! (i + k)).toNat := by
  intro k h1 h2
  simp only [Utf8.decode] at h2
  have key : ∀ j, (decide (i + j < s.size) && ((s.get! (i + j)).toNat / 64 == 2)) = true → i + j < s.size ∧ 128 ≤ (s.get! (i + j)).toNat := by
    intro j hj
    simp only [Bool.and_eq_true, decide_eq_true_eq, beq_iff_eq] at hj
    exact ⟨hj.1, by omega⟩
  split at h2
  · simp only at h2; omega
  · split at h2
    · rename_i hc
      simp only [Bool.and_eq_true] at hc
      split at h2
      · simp only at h2
        obtain rfl : k = 1 := by omega
        exact key 1 (by simpa using hc.2)
      · simp only at h2; omega
    · split at h2
      · rename_i hc
        simp only [Bool.and_eq_true] at hc
        split at h2
        · simp only at h2
          obtain rfl | rfl : k = 1 ∨ k = 2 := by omega
          · exact key 1 (by simpa using hc.1.2)
          · exact key 2 (by simpa using hc.2)
        · simp only at h2; omega
      · split at h2
        · rename_i hc
          simp only [Bool.and_eq_true] at hc
          split at h2
          · simp only at h2
            obtain rfl | rfl | rfl : k = 1 ∨ k = 2 ∨ k = 3 := by omega
            · exact key 1 (by simpa using hc.1.1.2)
            · exact key 2 (by simpa using hc.1.2)
            · exact key 3 (by simpa using hc.2)
          · simp only at h2; omega
        · simp only at h2; omega
theorem decode_size (s : ByteArray) (i : Nat) (hi : i < s.size) (h1 : 1 ≤ (Utf8.decode s i).2) : i + (Utf8.decode s i).2 ≤ s.size := by
  by_cases h : (Utf8.decode s i).2 = 1
  · omega
  · have := (decode_cont s i ((Utf8.decode s i).2 - 1) (by omega) (by omega)).1
    omega
theorem get_data (s : ByteArray) (k : Nat) (h : k < s.size) : s.get! k = s[k]'h := by
  have := get_at s k h
  simpa using this
theorem noAny_char {s : ByteArray} {chars : List UInt8} {i n : Nat} (h : Lib.NoAny s.data.toList chars i) (hac : ∀ (j : Nat) b, chars[j]? = some b → b.toNat < 128) (hi : i < s.size) (h0 : 128 ≤ (s[i]'hi).toNat)
    (hc : ∀ k, 1 ≤ k → k < n → i + k < s.size ∧ 128 ≤ (s.get! (i + k)).toNat) : Lib.NoAny s.data.toList chars (i + n) := by
  intro j b hj hb
  by_cases hji : j < i
  · exact h j b hji hb
  · have hb128 : 128 ≤ b.toNat := by
      by_cases e : j = i
      · subst e
        have := Lib.data_getElem? s j hi
        rw [this] at hb; cases hb; exact h0
      · obtain ⟨g1, g2⟩ := hc (j - i) (by omega) (by omega)
        have e2 : i + (j - i) = j := by omega
        rw [e2] at g1 g2
        have := Lib.data_getElem? s j g1
        rw [this] at hb; cases hb
        rw [get_data s j g1] at g2
        exact g2
    rw [Bool.eq_false_iff]
    intro hm
    rw [List.contains_iff_mem] at hm
    obtain ⟨q, hq⟩ := List.getElem?_of_mem hm
    have := hac q b hq
    omega
set_option maxHeartbeats 8000000 in
set_option maxRecDepth 1000000 in
theorem indexAny_any (L : Lays.n153 P ρ) (s chars : ByteArray) (w : World) (h2 : 2 ≤ chars.size) (h8 : s.size ≤ 8) (hac : ∀ (j : Nat) b, chars.data.toList[j]? = some b → b.toNat < 128) :
    Calls P (ρ.f 153) #[.string s, .string chars] w fun e w' => e = .returned (.int .i64 (Lib.indexAny s.data.toList chars.data.toList)) ∧ Below w.heap.size w w' := by
  have HA : Aside (∀ (j : Nat) b, chars.data.toList[j]? = some b → b.toNat < 128) := hac
  clear hac
  have hemp : chars.toList.isEmpty = false := by
    rw [Lib.toList_data]
    cases h : chars.data.toList with
    | nil => have := Lib.size_eq chars; rw [h, List.length_nil] at this; omega
    | cons _ _ => rfl
  have hn1 : ((chars.size : Int) == 1) = false := beq_eq_false_iff_ne.2 (by omega)
  have h8z : decide ((8 : Int) < (s.size : Int)) = false := decide_eq_false (by omega)
  have t3 := L.t3; have a3 := L.a3; have z3 := L.z3; have v3 := L.v3
  have t4 := L.t4; have a4 := L.a4; have z4 := L.z4; have v4 := L.v4
  have t5 := L.t5; have a5 := L.a5; have z5 := L.z5; have v5 := L.v5
  have t9 := L.t9; have a9 := L.a9; have z9 := L.z9; have v9 := L.v9
  have t21 := L.t21; have a21 := L.a21; have z21 := L.z21; have v21 := L.v21
  have e152 : ∀ args w, (callFunc (ρ.f 152) args).run P w = .ok (.enter (ρ.f 152) args) w := enters_of L.f152 (by kernel_rfl) rfl
  have e226 : ∀ args w, (callFunc (ρ.f 226) args).run P w = .ok (.enter (ρ.f 226) args) w := enters_of L.f226 (by kernel_rfl) rfl
  go_enter L.f153, Body.n153_ntmps ρ
  go_wp2_with (go_at_fn (ρ.f 226); refine (Any.strings_shouldUseASCIISet { L with } _ _).mono ?_; rintro e w' ⟨rfl, hw⟩; rw [hw, h8z])
  go_loopg [9, 10] s.size (fun g _ _ wx => ∃ i : Nat, i + g = s.size ∧ wx.heap[w.heap.size]? = some (.stringIter s i) ∧ Below w.heap.size w wx ∧ Lib.NoAny s.data.toList chars.data.toList i)
  case atStart => exact ⟨0, by omega, by simp [World.iter_heap], (Below.refl _ _).alloc (Nat.le_refl _) _, Lib.NoAny.zero _ _⟩
  case round =>
    obtain ⟨i, hig, hk, hbw, hno⟩ := hrel
    have HN : Aside (Lib.NoAny s.data.toList chars.data.toList i) := hno
    clear hno
    have HB : Aside (Below w.heap.size w wr) := hbw
    clear hbw
    cases gk with
    | zero =>
      obtain rfl : i = s.size := by omega
      have hnx := fun ty => run_next_end_at (P := P) wr w.heap.size s s.size ty hk (by omega)
      go_wp2
      go_ret
      exact ⟨by rw [Lib.indexAny_none (by rw [← Lib.size_eq]; exact HN.out)]; rfl, HB.out⟩
    | succ g =>
      have hi : i < s.size := by omega
      obtain ⟨x, hx⟩ : ∃ x : UInt8, s[i]'hi = x := ⟨_, rfl⟩
      have Hx : Aside (s.data.toList[i]? = some x) := by rw [← hx]; exact Lib.data_getElem? s i hi
      obtain ⟨r, n, hd⟩ : ∃ r n, Utf8.decode s i = (r, n) := ⟨_, _, rfl⟩
      have hnx := fun ty => run_next_any_at (P := P) wr w.heap.size s i ty hk hi
      rw [hd] at hnx
      simp only at hnx
      have hrl : (r : Int) ≤ 2147483647 := by
        have := decode_le s i
        rw [hd] at this
        simp only at this
        omega
      have hsz : w.heap.size < wr.heap.size := (Array.getElem?_eq_some_iff.1 hk).1
      have hk1 := iterAt_heap wr w.heap.size s i (i + n) hk
      have hb1 := below_iterAt HB.out (Nat.le_refl _) s (i + n)
      have hs1 : w.heap.size < (wr.iterAt w.heap.size s (i + n)).heap.size := by rw [iterAt_size]; exact hsz
      by_cases hx128 : x.toNat < 128
      · have hda := decode_ascii s i hi (by rw [hx]; exact hx128)
        rw [hd, hx] at hda
        obtain ⟨rfl, rfl⟩ := Prod.mk.inj hda
        have hback : x.toNat.toUInt8 = x := by simp
        have hcon := Lib.contains_iff_indexByte chars.data.toList x
        generalize wr.iterAt w.heap.size s (i + 1) = W1 at *
        have HK : Aside (W1.heap[w.heap.size]? = some (.stringIter s (i + 1)) ∧ Below w.heap.size w W1 ∧ w.heap.size < W1.heap.size) := ⟨hk1, hb1, hs1⟩
        clear hk1 hb1 hs1 hd hda hx hk hsz
        cases hin : chars.data.toList.contains x
        · rw [hin] at hcon
          have hlt : ¬ ((0 : Int) ≤ Lib.indexByte chars.data.toList x) := of_decide_eq_false hcon.symm
          clear hcon
          go_wp2_with (go_at_fn (ρ.f 152); refine (indexRune_any { L with } _ x.toNat _ hrl HA.out).mono ?_; rintro e w' ⟨rfl, hw⟩; rw [if_pos hx128, hback])
          go_roundg g
          case measure => omega
          case rel => exact ⟨i + 1, by omega, (hw.block _ HK.out.2.2).trans HK.out.1, HK.out.2.1.trans (below_mono hw (Nat.le_of_lt HK.out.2.2)), HN.out.succ Hx.out hin⟩
        · rw [hin] at hcon
          have hge : (0 : Int) ≤ Lib.indexByte chars.data.toList x := of_decide_eq_true hcon.symm
          clear hcon
          go_wp2_with (go_at_fn (ρ.f 152); refine (indexRune_any { L with } _ x.toNat _ hrl HA.out).mono ?_; rintro e w' ⟨rfl, hw⟩; rw [if_pos hx128, hback])
          go_ret
          exact ⟨by rw [Lib.indexAny_hit HN.out Hx.out hin]; rfl, HK.out.2.1.trans (below_mono hw (Nat.le_of_lt HK.out.2.2))⟩
      · have hx2 : 128 ≤ (s[i]'hi).toNat := by rw [hx]; omega
        obtain ⟨hr128, hn⟩ := decode_high s i hi hx2
        have hsize := decode_size s i hi hn
        have hcont := decode_cont s i
        rw [hd] at hr128 hn hsize hcont
        simp only at hr128 hn hsize hcont
        have HNn : Aside (Lib.NoAny s.data.toList chars.data.toList (i + n)) := noAny_char HN.out HA.out hi hx2 hcont
        have hr2 : ¬ r < 128 := by omega
        generalize wr.iterAt w.heap.size s (i + n) = W1 at *
        have HK : Aside (W1.heap[w.heap.size]? = some (.stringIter s (i + n)) ∧ Below w.heap.size w W1 ∧ w.heap.size < W1.heap.size) := ⟨hk1, hb1, hs1⟩
        clear hk1 hb1 hs1 hd hx hk hsz hcont hx2
        go_wp2_with (go_at_fn (ρ.f 152); refine (indexRune_any { L with } _ r _ hrl HA.out).mono ?_; rintro e w' ⟨rfl, hw⟩; rw [if_neg hr2])
        go_roundg (s.size - (i + n))
        case measure => omega
        case rel => exact ⟨i + n, by omega, (hw.block _ HK.out.2.2).trans HK.out.1, HK.out.2.1.trans (below_mono hw (Nat.le_of_lt HK.out.2.2)), HNn.out⟩
theorem indexAny_all (L : Lays.n153 P ρ) (h116 : (P.info? (ρ.t 116)).map (fun i => (i.zero, i.size)) = some (some (.agg (Array.replicate 256 (.bool false))), 256)) (s chars : ByteArray) (w : World) (h2 : 2 ≤ chars.size) (hs : s.size < 4294967281) (hcs : chars.size < 4294967281)
    (hac : ∀ (j : Nat) b, chars.data.toList[j]? = some b → b.toNat < 128) :
    Calls P (ρ.f 153) #[.string s, .string chars] w fun e w' => e = .returned (.int .i64 (Lib.indexAny s.data.toList chars.data.toList)) ∧ Below w.heap.size w w' := by
  by_cases h8 : s.size ≤ 8
  · exact indexAny_any L s chars w h2 h8 hac
  · refine (Any.strings_IndexAny_long L (zero_of_info h116).1 (zero_of_info h116).2 s chars w h2 (by omega) hs hcs hac).mono fun e w' ⟨h1, h2⟩ => ⟨h1, ?_⟩
    rw [h2]
    exact ((Below.refl _ _).alloc (Nat.le_refl _) _).alloc (by simp) _
set_option maxHeartbeats 1000000 in
theorem containsAny_all (L : Lays.n150 P ρ) (h116 : (P.info? (ρ.t 116)).map (fun i => (i.zero, i.size)) = some (some (.agg (Array.replicate 256 (.bool false))), 256)) (s chars : ByteArray) (w : World) (h2 : 2 ≤ chars.size) (hs : s.size < 4294967281) (hcs : chars.size < 4294967281)
    (hac : ∀ (j : Nat) b, chars.data.toList[j]? = some b → b.toNat < 128) :
    Calls P (ρ.f 150) #[.string s, .string chars] w fun e w' => e = .returned (.bool (Lib.containsAny s.data.toList chars.data.toList)) ∧ Below w.heap.size w w' := by
  have c := indexAny_all { L with } h116 s chars w h2 hs hcs hac
  have t3 := L.t3; have a3 := L.a3; have z3 := L.z3; have v3 := L.v3
  have t4 := L.t4; have a4 := L.a4; have z4 := L.z4; have v4 := L.v4
  have t9 := L.t9; have a9 := L.a9; have z9 := L.z9; have v9 := L.v9
  have e153 : ∀ args w, (callFunc (ρ.f 153) args).run P w = .ok (.enter (ρ.f 153) args) w := enters_of L.f153 (by kernel_rfl) rfl
  go_enter L.f150, Body.n150_ntmps ρ
  go_wp2_with (go_at_fn (ρ.f 153); refine c.mono ?_; rintro e w' ⟨rfl, hw⟩)
  go_ret
  exact ⟨rfl, hw⟩
end Go.Ab
