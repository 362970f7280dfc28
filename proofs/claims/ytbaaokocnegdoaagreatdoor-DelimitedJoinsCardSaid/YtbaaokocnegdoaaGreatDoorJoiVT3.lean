/- A part of the proof for DelimitedJoinsCardSaid. -/
import Derived.Test.YtbaaokocnegdoaaGreatDoorJoiF
import Derived.Test.YtbaaokocnegdoaaGreatDoorCore5
import Derived.Test.YtbaaokocnegdoaaGreatDoorJoiVSh
set_option maxRecDepth 100000
namespace Go.Proofs.YtbaaokocnegdoaaGreatDoor
open Go Go.Ab
def tabG : Nat → List PV := fun g => if g = 5 then Lib.pow10Tab.map (PV.int .u64) else []
theorem itoa_ok (n : Int) (h0 : -9223372036854775808 ≤ n) (h1 : n ≤ 9223372036854775807) : Pure Tryz.prog tabG 87 [.int .i64 n] (.str (itoaT n)) :=
  itoa_pure (name := "internal/strconv.uint64pow10") (g := 5) (by kernel_rfl) (by kernel_rfl) rfl (fun n h0 h1 w ht => Tryz.strconv_Itoa n h0 h1 w ht) n h0 h1
theorem compare_ok (a b : List UInt8) : Pure Tryz.prog tabG 114 [.str a, .str b] (.int .i64 (Lib.compareBytes a b)) :=
  compare_pure (by kernel_rfl) (fun a b w => Tryz.strings_Compare a b w) a b
theorem contains_ok (a b : List UInt8) (ha : a.length < 4294967281) (hb : b.length < 4294967281) (ha1 : a.all (fun c => decide (c.toNat < 128)) = true) (hb1 : b.all (fun c => decide (c.toNat < 128)) = true) :
    Pure Tryz.prog tabG 101 [.str a, .str b] (.bool (Lib.containsAny a b)) := by
  refine pure_of_calls (by kernel_rfl) fun w imm vals hGl hsz hargs => ?_
  have hv := vals_2 hsz
  obtain ⟨h1, _⟩ := str_val (hargs 0 (.str a) rfl)
  obtain ⟨h2, _⟩ := str_val (hargs 1 (.str b) rfl)
  rw [hv, h1, h2]
  have asc : ∀ {l : List UInt8}, l.all (fun c => decide (c.toNat < 128)) = true → ∀ (j : Nat) c, (⟨l.toArray⟩ : ByteArray).data.toList[j]? = some c → c.toNat < 128 := by
    intro l hl j c hc
    have := List.all_eq_true.1 hl c (List.mem_of_getElem? hc)
    simpa using this
  refine (Tryz.strings_ContainsAny_laid ⟨a.toArray⟩ ⟨b.toArray⟩ w (by simpa [ByteArray.size] using ha) (by simpa [ByteArray.size] using hb) (asc ha1) (asc hb1)).mono ?_
  rintro e w' ⟨rfl, hB⟩
  exact ⟨_, rfl, hB, by simpa using PRel.bool (w := w') (imm := imm) (Lib.containsAny a b)⟩
def orc (f : Nat) (ps : List PV) : Option PV :=
  match f with
  | 87 => match ps with
    | [.int .i64 n] => if -9223372036854775808 ≤ n ∧ n ≤ 9223372036854775807 then some (.str (itoaT n)) else none
    | _ => none
  | 114 => match ps with
    | [.str a, .str b] => some (.int .i64 (Lib.compareBytes a b))
    | _ => none
  | 101 => match ps with
    | [.str a, .str b] => if a.length < 4294967281 ∧ b.length < 4294967281 ∧ a.all (fun c => decide (c.toNat < 128)) = true ∧ b.all (fun c => decide (c.toNat < 128)) = true then some (.bool (Lib.containsAny a b)) else none
    | _ => none
  | _ => none
theorem orc_ok : ∀ f ps r, orc f ps = some r → Pure Tryz.prog tabG f ps r := by
  intro f ps r h
  unfold orc at h
  split at h
  · split at h
    · split at h
      · rename_i hh; cases h; exact itoa_ok _ hh.1 hh.2
      · cases h
    · cases h
  · split at h
    · cases h; exact compare_ok _ _
    · cases h
  · split at h
    · split at h
      · rename_i hh; cases h; exact contains_ok _ _ hh.1 hh.2.1 hh.2.2.1 hh.2.2.2
      · cases h
    · cases h
  · cases h
def tab : List TabRow := [
  ⟨14, [], F14⟩,
  ⟨47, [], F47⟩,
  ⟨20, [], F20⟩,
  ⟨40, [], F40⟩,
  ⟨22, [], F22⟩,
  ⟨15, [], F15⟩,
  ⟨73, [], F73⟩,
  ⟨17, [], F17⟩,
  ⟨37, [], F37⟩,
  ⟨52, [], F52⟩,
  ⟨16, [], F16⟩,
  ⟨53, [], F53⟩,
  ⟨26, [], F26⟩,
  ⟨57, [24], F57⟩,
  ⟨12, [], F12⟩,
  ⟨58, [], F58⟩,
  ⟨59, [33], F59⟩,
  ⟨123, [], F123⟩,
  ⟨48, [], F48⟩,
  ⟨49, [], F49⟩,
  ⟨80, [], F80⟩,
  ⟨100, [], F100⟩,
  ⟨32, [], F32⟩,
  ⟨42, [], F42⟩,
  ⟨43, [14], F43⟩,
  ⟨44, [], F44⟩,
  ⟨45, [], F45⟩,
  ⟨66, [14], F66⟩,
  ⟨68, [], F68⟩,
  ⟨108, [], F108⟩,
  ⟨33, [44], F33⟩,
  ⟨35, [], F35⟩,
  ⟨109, [], F109⟩,
  ⟨110, [], F110⟩,
  ⟨111, [], F111⟩,
  ⟨112, [], F112⟩,
  ⟨113, [], F113⟩,
  ⟨94, [], F94⟩,
  ⟨95, [], F95⟩,
  ⟨96, [], F96⟩,
  ⟨97, [], F97⟩,
  ⟨130, [], F130⟩,
  ⟨131, [], F131⟩,
  ⟨133, [], F133⟩,
  ⟨134, [], F134⟩,
  ⟨151, [], F151⟩,
  ⟨152, [], F152⟩,
  ⟨86, [], F86⟩,
  ⟨88, [], F88⟩,
  ⟨89, [], F89⟩,
  ⟨90, [19], F90⟩,
  ⟨91, [], F91⟩,
  ⟨92, [], F92⟩,
  ⟨161, [], F161⟩,
  ⟨71, [], F71⟩,
  ⟨72, [12], F72⟩,
  ⟨74, [], F74⟩,
  ⟨75, [], F75⟩,
  ⟨76, [], F76⟩,
  ⟨77, [], F77⟩,
  ⟨162, [], F162⟩,
  ⟨163, [], F163⟩,
  ⟨143, [], F143⟩,
  ⟨144, [], F144⟩,
  ⟨146, [], F146⟩,
  ⟨147, [], F147⟩,
  ⟨180, [], F180⟩,
  ⟨181, [], F181⟩,
  ⟨125, [], F125⟩,
  ⟨126, [], F126⟩,
  ⟨127, [], F127⟩,
  ⟨209, [], F209⟩,
  ⟨120, [], F120⟩,
  ⟨121, [], F121⟩,
  ⟨124, [], F124⟩,
  ⟨128, [], F128⟩,
  ⟨210, [], F210⟩,
  ⟨219, [], F219⟩,
  ⟨187, [], F187⟩,
  ⟨188, [], F188⟩,
  ⟨189, [], F189⟩,
  ⟨191, [], F191⟩,
  ⟨177, [], F177⟩,
  ⟨176, [], F176⟩,
  ⟨169, [], F169⟩,
  ⟨240, [], F240⟩,
  ⟨241, [], F241⟩]
theorem tab_ok : ∀ r ∈ tab, cFn Tryz.prog r.muts r.f = some r.fn := by
  intro r hr
  simp only [tab, List.mem_cons, List.not_mem_nil, or_false] at hr
  rcases hr with rfl | rfl | rfl | rfl | rfl | rfl | rfl | rfl | rfl | rfl | rfl | rfl | rfl | rfl | rfl | rfl | rfl | rfl | rfl | rfl | rfl | rfl | rfl | rfl | rfl | rfl | rfl | rfl | rfl | rfl | rfl | rfl | rfl | rfl | rfl | rfl | rfl | rfl | rfl | rfl | rfl | rfl | rfl | rfl | rfl | rfl | rfl | rfl | rfl | rfl | rfl | rfl | rfl | rfl | rfl | rfl | rfl | rfl | rfl | rfl | rfl | rfl | rfl | rfl | rfl | rfl | rfl | rfl | rfl | rfl | rfl | rfl | rfl | rfl | rfl | rfl | rfl | rfl | rfl | rfl | rfl | rfl | rfl | rfl | rfl | rfl | rfl
  · exact F14_ok
  · exact F47_ok
  · exact F20_ok
  · exact F40_ok
  · exact F22_ok
  · exact F15_ok
  · exact F73_ok
  · exact F17_ok
  · exact F37_ok
  · exact F52_ok
  · exact F16_ok
  · exact F53_ok
  · exact F26_ok
  · exact F57_ok
  · exact F12_ok
  · exact F58_ok
  · exact F59_ok
  · exact F123_ok
  · exact F48_ok
  · exact F49_ok
  · exact F80_ok
  · exact F100_ok
  · exact F32_ok
  · exact F42_ok
  · exact F43_ok
  · exact F44_ok
  · exact F45_ok
  · exact F66_ok
  · exact F68_ok
  · exact F108_ok
  · exact F33_ok
  · exact F35_ok
  · exact F109_ok
  · exact F110_ok
  · exact F111_ok
  · exact F112_ok
  · exact F113_ok
  · exact F94_ok
  · exact F95_ok
  · exact F96_ok
  · exact F97_ok
  · exact F130_ok
  · exact F131_ok
  · exact F133_ok
  · exact F134_ok
  · exact F151_ok
  · exact F152_ok
  · exact F86_ok
  · exact F88_ok
  · exact F89_ok
  · exact F90_ok
  · exact F91_ok
  · exact F92_ok
  · exact F161_ok
  · exact F71_ok
  · exact F72_ok
  · exact F74_ok
  · exact F75_ok
  · exact F76_ok
  · exact F77_ok
  · exact F162_ok
  · exact F163_ok
  · exact F143_ok
  · exact F144_ok
  · exact F146_ok
  · exact F147_ok
  · exact F180_ok
  · exact F181_ok
  · exact F125_ok
  · exact F126_ok
  · exact F127_ok
  · exact F209_ok
  · exact F120_ok
  · exact F121_ok
  · exact F124_ok
  · exact F128_ok
  · exact F210_ok
  · exact F219_ok
  · exact F187_ok
  · exact F188_ok
  · exact F189_ok
  · exact F191_ok
  · exact F177_ok
  · exact F176_ok
  · exact F169_ok
  · exact F240_ok
  · exact F241_ok
theorem known_ex : pcall (exF tab orc tabG 5000 60) 14 [] = some (.bool true) := by kernel_rfl
theorem known_ok : Pure Tryz.prog tabG 14 [] (.bool true) := Pure.of_ex tab_ok orc_ok known_ex
end Go.Proofs.YtbaaokocnegdoaaGreatDoor
