/- A part of the proof for DelimitedSeparatorsCardSaid. -/
import Derived.Test.YtkjopaaeeaacmaaGreatDoorSepF
import Derived.Test.YtkjopaaeeaacmaaGreatDoorCore5
import Derived.Test.YtkjopaaeeaacmaaGreatDoorSepZSh
set_option maxRecDepth 100000
namespace Go.Proofs.YtkjopaaeeaacmaaGreatDoor
open Go Go.Ab
def tabG : Nat → List PV := fun g => if g = 5 then Lib.pow10Tab.map (PV.int .u64) else []
theorem itoa_ok (n : Int) (h0 : -9223372036854775808 ≤ n) (h1 : n ≤ 9223372036854775807) : Pure Tryz.prog tabG 59 [.int .i64 n] (.str (itoaT n)) :=
  itoa_pure (name := "internal/strconv.uint64pow10") (g := 5) (by kernel_rfl) (by kernel_rfl) rfl (fun n h0 h1 w ht => Tryz.strconv_Itoa n h0 h1 w ht) n h0 h1
theorem compare_ok (a b : List UInt8) : Pure Tryz.prog tabG 49 [.str a, .str b] (.int .i64 (Lib.compareBytes a b)) :=
  compare_pure (by kernel_rfl) (fun a b w => Tryz.strings_Compare a b w) a b
theorem contains_ok (a b : List UInt8) (ha : a.length < 4294967281) (hb : b.length < 4294967281) (ha1 : a.all (fun c => decide (c.toNat < 128)) = true) (hb1 : b.all (fun c => decide (c.toNat < 128)) = true) :
    Pure Tryz.prog tabG 35 [.str a, .str b] (.bool (Lib.containsAny a b)) := by
  refine pure_of_calls (by kernel_rfl) fun w imm vals hGl hsz hargs => ?_
  have hv := vals_2 hsz
  obtain ⟨h1, _⟩ := str_val (hargs 0 (.str a) rfl)
  obtain ⟨h2, _⟩ := str_val (hargs 1 (.str b) rfl)
  rw [hv, h1, h2]
  have asc : ∀ {l : List UInt8}, l.all (fun c => decide (c.toNat < 128)) = true → ∀ (j : Nat) c, (⟨l.toArray⟩ : ByteArray).data.toList[j]? = some c → c.toNat < 128 := by
    intro l hl j c hc
    have := List.all_eq_true.1 hl c (List.mem_of_getElem? hc)
    simpa using this
  refine (Tryz.strings_ContainsAny_laid ⟨a.toArray⟩ ⟨b.toArray⟩ w (by simpa [ByteArray.size] using ha) (by simpa [ByteArray.size] using hb) (asc ha1) (asc hb1)).mono ?_
  rintro e w' ⟨rfl, hB⟩
  exact ⟨_, rfl, hB, by simpa using PRel.bool (w := w') (imm := imm) (Lib.containsAny a b)⟩
def orc (f : Nat) (ps : List PV) : Option PV :=
  match f with
  | 59 => match ps with
    | [.int .i64 n] => if -9223372036854775808 ≤ n ∧ n ≤ 9223372036854775807 then some (.str (itoaT n)) else none
    | _ => none
  | 49 => match ps with
    | [.str a, .str b] => some (.int .i64 (Lib.compareBytes a b))
    | _ => none
  | 35 => match ps with
    | [.str a, .str b] => if a.length < 4294967281 ∧ b.length < 4294967281 ∧ a.all (fun c => decide (c.toNat < 128)) = true ∧ b.all (fun c => decide (c.toNat < 128)) = true then some (.bool (Lib.containsAny a b)) else none
    | _ => none
  | _ => none
theorem orc_ok : ∀ f ps r, orc f ps = some r → Pure Tryz.prog tabG f ps r := by
  intro f ps r h
  unfold orc at h
  split at h
  · split at h
    · split at h
      · rename_i hh; cases h; exact itoa_ok _ hh.1 hh.2
      · cases h
    · cases h
  · split at h
    · cases h; exact compare_ok _ _
    · cases h
  · split at h
    · split at h
      · rename_i hh; cases h; exact contains_ok _ _ hh.1 hh.2.1 hh.2.2.1 hh.2.2.2
      · cases h
    · cases h
  · cases h
def tab : List TabRow := [
  ⟨4, [], F4⟩,
  ⟨5, [], F5⟩,
  ⟨7, [], F7⟩,
  ⟨8, [], F8⟩,
  ⟨9, [], F9⟩,
  ⟨10, [], F10⟩,
  ⟨11, [], F11⟩,
  ⟨12, [], F12⟩,
  ⟨13, [], F13⟩,
  ⟨14, [], F14⟩,
  ⟨15, [], F15⟩,
  ⟨16, [], F16⟩,
  ⟨17, [], F17⟩,
  ⟨18, [24], F18⟩,
  ⟨19, [], F19⟩,
  ⟨20, [], F20⟩,
  ⟨21, [33], F21⟩,
  ⟨22, [], F22⟩,
  ⟨23, [], F23⟩,
  ⟨24, [], F24⟩,
  ⟨26, [], F26⟩,
  ⟨27, [], F27⟩,
  ⟨28, [], F28⟩,
  ⟨30, [], F30⟩,
  ⟨31, [14], F31⟩,
  ⟨32, [], F32⟩,
  ⟨33, [], F33⟩,
  ⟨36, [14], F36⟩,
  ⟨38, [], F38⟩,
  ⟨39, [], F39⟩,
  ⟨40, [44], F40⟩,
  ⟨42, [], F42⟩,
  ⟨44, [], F44⟩,
  ⟨45, [], F45⟩,
  ⟨46, [], F46⟩,
  ⟨47, [], F47⟩,
  ⟨48, [], F48⟩,
  ⟨51, [], F51⟩,
  ⟨52, [], F52⟩,
  ⟨53, [], F53⟩,
  ⟨54, [], F54⟩,
  ⟨56, [], F56⟩,
  ⟨57, [], F57⟩,
  ⟨60, [], F60⟩,
  ⟨61, [], F61⟩,
  ⟨62, [], F62⟩,
  ⟨63, [], F63⟩,
  ⟨65, [], F65⟩,
  ⟨66, [], F66⟩,
  ⟨67, [], F67⟩,
  ⟨68, [19], F68⟩,
  ⟨69, [], F69⟩,
  ⟨70, [], F70⟩,
  ⟨76, [], F76⟩,
  ⟨77, [], F77⟩,
  ⟨78, [12], F78⟩,
  ⟨79, [], F79⟩,
  ⟨80, [], F80⟩,
  ⟨81, [], F81⟩,
  ⟨82, [], F82⟩,
  ⟨84, [], F84⟩,
  ⟨85, [], F85⟩,
  ⟨87, [], F87⟩,
  ⟨88, [], F88⟩,
  ⟨90, [], F90⟩,
  ⟨91, [], F91⟩,
  ⟨95, [], F95⟩,
  ⟨96, [], F96⟩,
  ⟨101, [], F101⟩,
  ⟨102, [], F102⟩,
  ⟨103, [], F103⟩,
  ⟨111, [], F111⟩,
  ⟨112, [], F112⟩,
  ⟨113, [], F113⟩,
  ⟨115, [], F115⟩,
  ⟨116, [], F116⟩,
  ⟨117, [], F117⟩,
  ⟨126, [], F126⟩,
  ⟨128, [], F128⟩,
  ⟨129, [], F129⟩,
  ⟨130, [], F130⟩,
  ⟨132, [], F132⟩,
  ⟨140, [], F140⟩,
  ⟨142, [], F142⟩,
  ⟨148, [], F148⟩,
  ⟨161, [], F161⟩,
  ⟨162, [], F162⟩]
theorem tab_ok : ∀ r ∈ tab, cFn Tryz.prog r.muts r.f = some r.fn := by
  intro r hr
  simp only [tab, List.mem_cons, List.not_mem_nil, or_false] at hr
  rcases hr with rfl | rfl | rfl | rfl | rfl | rfl | rfl | rfl | rfl | rfl | rfl | rfl | rfl | rfl | rfl | rfl | rfl | rfl | rfl | rfl | rfl | rfl | rfl | rfl | rfl | rfl | rfl | rfl | rfl | rfl | rfl | rfl | rfl | rfl | rfl | rfl | rfl | rfl | rfl | rfl | rfl | rfl | rfl | rfl | rfl | rfl | rfl | rfl | rfl | rfl | rfl | rfl | rfl | rfl | rfl | rfl | rfl | rfl | rfl | rfl | rfl | rfl | rfl | rfl | rfl | rfl | rfl | rfl | rfl | rfl | rfl | rfl | rfl | rfl | rfl | rfl | rfl | rfl | rfl | rfl | rfl | rfl | rfl | rfl | rfl | rfl | rfl
  · exact F4_ok
  · exact F5_ok
  · exact F7_ok
  · exact F8_ok
  · exact F9_ok
  · exact F10_ok
  · exact F11_ok
  · exact F12_ok
  · exact F13_ok
  · exact F14_ok
  · exact F15_ok
  · exact F16_ok
  · exact F17_ok
  · exact F18_ok
  · exact F19_ok
  · exact F20_ok
  · exact F21_ok
  · exact F22_ok
  · exact F23_ok
  · exact F24_ok
  · exact F26_ok
  · exact F27_ok
  · exact F28_ok
  · exact F30_ok
  · exact F31_ok
  · exact F32_ok
  · exact F33_ok
  · exact F36_ok
  · exact F38_ok
  · exact F39_ok
  · exact F40_ok
  · exact F42_ok
  · exact F44_ok
  · exact F45_ok
  · exact F46_ok
  · exact F47_ok
  · exact F48_ok
  · exact F51_ok
  · exact F52_ok
  · exact F53_ok
  · exact F54_ok
  · exact F56_ok
  · exact F57_ok
  · exact F60_ok
  · exact F61_ok
  · exact F62_ok
  · exact F63_ok
  · exact F65_ok
  · exact F66_ok
  · exact F67_ok
  · exact F68_ok
  · exact F69_ok
  · exact F70_ok
  · exact F76_ok
  · exact F77_ok
  · exact F78_ok
  · exact F79_ok
  · exact F80_ok
  · exact F81_ok
  · exact F82_ok
  · exact F84_ok
  · exact F85_ok
  · exact F87_ok
  · exact F88_ok
  · exact F90_ok
  · exact F91_ok
  · exact F95_ok
  · exact F96_ok
  · exact F101_ok
  · exact F102_ok
  · exact F103_ok
  · exact F111_ok
  · exact F112_ok
  · exact F113_ok
  · exact F115_ok
  · exact F116_ok
  · exact F117_ok
  · exact F126_ok
  · exact F128_ok
  · exact F129_ok
  · exact F130_ok
  · exact F132_ok
  · exact F140_ok
  · exact F142_ok
  · exact F148_ok
  · exact F161_ok
  · exact F162_ok
theorem known_ex : pcall (exF tab orc tabG 5000 60) 4 [] = some (.bool true) := by kernel_rfl
theorem known_ok : Pure Tryz.prog tabG 4 [] (.bool true) := Pure.of_ex tab_ok orc_ok known_ex
end Go.Proofs.YtkjopaaeeaacmaaGreatDoor
