/- A part of the proof for DelimitedJoinsCardSaid. -/
import Derived.Shelf.Strings.IndexAnyAll
import Derived.Shelf.Small.Utf8
import Derived.Laws.RangeAny
import Derived.Laws.Runes
import Derived.WalkMore
import Derived.Laws.Strings3
import Derived.Shelf.RegionOpenPlain
import Derived.WalkKit
import Derived.Deep.LoopGhost
import Derived.Deep.Draws
namespace Go.Ab
open Go Go.Shelf Go.RowKit Go.Lib Go.Proofs
variable {P : Program} {ρ : Ren}
theorem indexByte_out {l : List UInt8} {c : UInt8} (h : ∀ b, b ∈ l → b ≠ c) : Lib.indexByte l c = -1 := by
  have h1 := Lib.contains_iff_indexByte l c
  have h2 := Lib.indexByte_ge l c
  have h3 : l.contains c = false := by
    rw [Bool.eq_false_iff]
    intro hc
    rw [List.contains_iff_mem] at hc
    exact h c hc rfl
  rw [h3] at h1
  have := of_decide_eq_false h1.symm
  omega
set_option maxHeartbeats 4000000 in
set_option maxRecDepth 1000000 in
theorem indexRune_err (L : Lays.n152 P ρ) (s : ByteArray) (w : World) (hascii : ∀ (j : Nat) b, s.data.toList[j]? = some b → b.toNat < 128) :
    Calls P (ρ.f 152) #[.string s, .int .i32 65533] w fun e w' => e = .returned (.int .i64 (-1)) ∧ Below w.heap.size w w' := by
  have HA : Aside (∀ (j : Nat) b, s.data.toList[j]? = some b → b.toNat < 128) := hascii
  clear hascii
  have t3 := L.t3; have a3 := L.a3; have z3 := L.z3; have v3 := L.v3
  have t4 := L.t4; have a4 := L.a4; have z4 := L.z4; have v4 := L.v4
  have t5 := L.t5; have a5 := L.a5; have z5 := L.z5; have v5 := L.v5
  have t9 := L.t9; have a9 := L.a9; have z9 := L.z9; have v9 := L.v9
  have t21 := L.t21; have a21 := L.a21; have z21 := L.z21; have v21 := L.v21
  go_enter L.f152, Body.n152_ntmps ρ
  go_wp2
  go_loopg [5, 6] s.size (fun g _ _ wx => ∃ i : Nat, i + g = s.size ∧ wx = w.iter s i)
  case atStart => exact ⟨0, by omega, rfl⟩
  case round =>
    obtain ⟨i, hig, rfl⟩ := hrel
    cases gk with
    | zero =>
      obtain rfl : i = s.size := by omega
      have hnx := run_next_end (P := P) w s s.size
      go_wp2
      go_ret
      exact ⟨rfl, (Below.refl _ _).alloc (Nat.le_refl _) _⟩
    | succ g =>
      have hi : i < s.size := by omega
      obtain ⟨x, hx⟩ : ∃ x : UInt8, s[i]'hi = x := ⟨_, rfl⟩
      have hxl : s.data.toList[i]? = some x := by rw [← hx]; exact Lib.data_getElem? s i hi
      have hx128 : x.toNat < 128 := HA.out i x hxl
      have hnx := fun ty => run_next_ascii (P := P) w s i ty hi (by rw [hx]; exact hx128)
      rw [hx] at hnx
      clear hxl hx
      go_wp2
      go_roundg g
      case measure => omega
      case rel => exact ⟨i + 1, by omega, rfl⟩
set_option maxHeartbeats 8000000 in
set_option maxRecDepth 1000000 in
theorem indexRune_high (L : Lays.n152 P ρ) (s : ByteArray) (r : Int) (w : World) (h1 : 128 ≤ r) (h2 : r ≤ 2147483647) (h3 : r ≠ 65533) (hascii : ∀ (j : Nat) b, s.data.toList[j]? = some b → b.toNat < 128) :
    Calls P (ρ.f 152) #[.string s, .int .i32 r] w fun e w' => e = .returned (.int .i64 (-1)) ∧ Below w.heap.size w w' := by
  have HA : Aside (∀ (j : Nat) b, s.data.toList[j]? = some b → b.toNat < 128) := hascii
  clear hascii
  have t3 := L.t3; have a3 := L.a3; have z3 := L.z3; have v3 := L.v3
  have t4 := L.t4; have a4 := L.a4; have z4 := L.z4; have v4 := L.v4
  have t5 := L.t5; have a5 := L.a5; have z5 := L.z5; have v5 := L.v5
  have t9 := L.t9; have a9 := L.a9; have z9 := L.z9; have v9 := L.v9
  have t21 := L.t21; have a21 := L.a21; have z21 := L.z21; have v21 := L.v21
  have mixed := L.mixed
  have u3 := run_underlying L.t3; have u4 := run_underlying L.t4; have u5 := run_underlying L.t5; have u9 := run_underlying L.t9; have u21 := run_underlying L.t21
  have e137 : ∀ args w, (callFunc (ρ.f 137) args).run P w = .ok (.enter (ρ.f 137) args) w := enters_of L.f137 (by kernel_rfl) rfl
  have e119 : ∀ args w, (callFunc (ρ.f 119) args).run P w = .ok (.enter (ρ.f 119) args) w := enters_of L.f119 (by kernel_rfl) rfl
  have hr1 : ¬ r < 128 := by omega
  have hr2 : (r == 65533) = false := beq_eq_false_iff_ne.2 h3
  go_enter L.f152, Body.n152_ntmps ρ
  cases hv : Lib.validRune r with
  | false =>
    go_wp2_with (go_at_fn (ρ.f 119); refine (Any.utf8_ValidRune { L with } r _).mono ?_; rintro e w' ⟨rfl, hw⟩; rw [hw, hv])
    go_ret
    exact ⟨rfl, Below.refl _ _⟩
  | true =>
    obtain ⟨f1, f2, f3⟩ := encode_facts r (by rw [validRune_eq]; simpa [Go.validRune, Lib.validRune] using hv) h1
    obtain ⟨k, hk⟩ : ∃ k, (Utf8.encode r).size = k + 1 := ⟨(Utf8.encode r).size - 1, by omega⟩
    have hkl : k ≤ 3 ∧ 1 ≤ k := by omega
    have hw1 : wrap64 (((k + 1 : Nat) : Int) - 1) = (k : Int) := by unfold wrap64; omega
    obtain ⟨rs, hrs⟩ : ∃ rs, rs = Utf8.encode r := ⟨_, rfl⟩
    rw [← hrs] at f1 f2 f3 hk
    have hk1 : k < rs.size := hk ▸ Nat.lt_succ_self k
    have hconv : ∀ w', (convert (ρ.t 21) (ρ.t 9) (.int .i32 r)).run P w' = .ok (.string rs) w' := fun w' => by
      rw [hrs]; exact run_convert_int_string w' _ _ _ _ (by rw [t21]; rfl) t9
    have hc : 128 ≤ (rs[k]'hk1).toNat := by
      have := f3 (by omega)
      simpa [hk] using this
    obtain ⟨c, hcx⟩ : ∃ c : UInt8, rs[k]'hk1 = c := ⟨_, rfl⟩
    rw [hcx] at hc
    clear f1 f2 f3
    go_wp2_with (go_at_fn (ρ.f 119); refine (Any.utf8_ValidRune { L with } r _).mono ?_; rintro e w' ⟨rfl, hw⟩; rw [hw, hv])
    go_step3
    go_wp2
    rw [← hrs, hk, hw1]
    clear hrs hconv hw1
    go_loopg [9, 10] 1 (fun g s9 s10 wx => g = 1 ∧ s9 = .int .i64 (k : Int) ∧ wx = w)
    case atStart => exact ⟨rfl, rfl, rfl⟩
    case round =>
      obtain ⟨rfl, rfl, rfl⟩ := hrel
      by_cases hlt : k < s.size
      · obtain ⟨x, hx⟩ : ∃ x : UInt8, s[k]'hlt = x := ⟨_, rfl⟩
        have hxl : s.data.toList[k]? = some x := by rw [← hx]; exact Lib.data_getElem? s k hlt
        have hx128 : x.toNat < 128 := HA.out k x hxl
        have hk2 : (k : Int) < (rs.size : Int) := by omega
        have hlt2 : (k : Int) < (s.size : Int) := by omega
        have hk0 : (0 : Int) ≤ (k : Int) := by omega
        have hk5 : k + 1 ≤ s.size := hlt
        have hk6 : (k : Int) + 1 ≤ (s.size : Int) := by omega
        have hk7 : (0 : Int) ≤ (k : Int) + 1 := by omega
        have hne : ((x.toNat : Int) == (c.toNat : Int)) = false := beq_eq_false_iff_ne.2 (by omega)
        have hk123 : k = 1 ∨ k = 2 ∨ k = 3 := by omega
        clear hk5 hk6 hk7 hk2 hlt2 hk0
        rcases hk123 with rfl | rfl | rfl
        · have hq : (2 : Int) ≤ (s.size : Int) := by omega
          have hw2 : IntKind.i64.wrap 2 = 2 := by decide
          have hix : Lib.indexByte (List.take (s.size - 2) (List.drop 2 s.data.toList)) c = -1 := by
            refine indexByte_out fun b hb => ?_
            have hb2 := List.mem_of_mem_drop (List.mem_of_mem_take hb)
            obtain ⟨j, hj⟩ := List.getElem?_of_mem hb2
            have := HA.out j b hj
            intro e
            rw [e] at this
            omega
          go_wp2_with fail
          go_step3
          go_wp2_with fail
          go_region_o
          go_wp2_with fail
          go_region_with_o (first | (go_at_fn (ρ.f 137); refine (Any.strings_IndexByte { L with } _ _ _).mono ?_; rintro e w' ⟨rfl, hw⟩; rw [hw]))
          go_wp2
          rw [Exit.noGoto_ret]
          go_wp2
          rw [Exit.noGoto_ret]
          go_ret
          exact ⟨rfl, (Below.drew (Below.refl _ _)).drew⟩
        · have hq : (3 : Int) ≤ (s.size : Int) := by omega
          have hw2 : IntKind.i64.wrap 3 = 3 := by decide
          have hix : Lib.indexByte (List.take (s.size - 3) (List.drop 3 s.data.toList)) c = -1 := by
            refine indexByte_out fun b hb => ?_
            have hb2 := List.mem_of_mem_drop (List.mem_of_mem_take hb)
            obtain ⟨j, hj⟩ := List.getElem?_of_mem hb2
            have := HA.out j b hj
            intro e
            rw [e] at this
            omega
          go_wp2_with fail
          go_step3
          go_wp2_with fail
          go_region_o
          go_wp2_with fail
          go_region_with_o (first | (go_at_fn (ρ.f 137); refine (Any.strings_IndexByte { L with } _ _ _).mono ?_; rintro e w' ⟨rfl, hw⟩; rw [hw]))
          go_wp2
          rw [Exit.noGoto_ret]
          go_wp2
          rw [Exit.noGoto_ret]
          go_ret
          exact ⟨rfl, (Below.drew (Below.refl _ _)).drew⟩
        · have hq : (4 : Int) ≤ (s.size : Int) := by omega
          have hw2 : IntKind.i64.wrap 4 = 4 := by decide
          have hix : Lib.indexByte (List.take (s.size - 4) (List.drop 4 s.data.toList)) c = -1 := by
            refine indexByte_out fun b hb => ?_
            have hb2 := List.mem_of_mem_drop (List.mem_of_mem_take hb)
            obtain ⟨j, hj⟩ := List.getElem?_of_mem hb2
            have := HA.out j b hj
            intro e
            rw [e] at this
            omega
          go_wp2_with fail
          go_step3
          go_wp2_with fail
          go_region_o
          go_wp2_with fail
          go_region_with_o (first | (go_at_fn (ρ.f 137); refine (Any.strings_IndexByte { L with } _ _ _).mono ?_; rintro e w' ⟨rfl, hw⟩; rw [hw]))
          go_wp2
          rw [Exit.noGoto_ret]
          go_wp2
          rw [Exit.noGoto_ret]
          go_ret
          exact ⟨rfl, (Below.drew (Below.refl _ _)).drew⟩
      · go_wp2
        rw [Exit.noGoto_ret]
        go_ret
        exact ⟨rfl, Below.refl _ _⟩
end Go.Ab
