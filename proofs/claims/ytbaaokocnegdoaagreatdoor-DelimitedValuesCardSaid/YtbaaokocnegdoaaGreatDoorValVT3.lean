/- A part of the proof for DelimitedValuesCardSaid. -/
import Derived.Shelf.Unicode.ValidAny
import Derived.Test.YtbaaokocnegdoaaGreatDoorValF
import Derived.Test.YtbaaokocnegdoaaGreatDoorCore5
import Derived.Test.YtbaaokocnegdoaaGreatDoorValVC1
set_option maxRecDepth 100000
namespace Go.Proofs.YtbaaokocnegdoaaGreatDoor
open Go Go.Ab
def u8G1 : List PV := (List.range 256).map fun c => PV.int .u8 (Lib.firstT c : Nat)
def u8G2 : List PV := (List.range 32).map fun c => PV.int .u8 (if c % 2 = 0 then Lib.accLo (c / 2) else Lib.accHi (c / 2) : Nat)
def tabG : Nat → List PV := fun g => if g = 5 then Lib.pow10Tab.map (PV.int .u64) else if g = 3 then u8G1 else if g = 4 then u8G2 else []
theorem itoa_ok (n : Int) (h0 : -9223372036854775808 ≤ n) (h1 : n ≤ 9223372036854775807) : Pure Tryz.prog tabG 87 [.int .i64 n] (.str (itoaT n)) :=
 itoa_pure (name := "internal/strconv.uint64pow10") (g := 5) (by kernel_rfl) (by kernel_rfl) rfl (fun n h0 h1 w ht => Tryz.strconv_Itoa n h0 h1 w ht) n h0 h1
theorem compare_ok (a b : List UInt8) : Pure Tryz.prog tabG 114 [.str a, .str b] (.int .i64 (Lib.compareBytes a b)) :=
 compare_pure (by kernel_rfl) (fun a b w => Tryz.strings_Compare a b w) a b
theorem contains_ok (a b : List UInt8) (ha : a.length < 4294967281) (hb : b.length < 4294967281) (ha1 : a.all (fun c => decide (c.toNat < 128)) = true) (hb1 : b.all (fun c => decide (c.toNat < 128)) = true) :
  Pure Tryz.prog tabG 101 [.str a, .str b] (.bool (Lib.containsAny a b)) := by
 refine pure_of_calls (by kernel_rfl) fun w imm vals hGl hsz hargs => ?_
 have hv := vals_2 hsz
 obtain ⟨h1, _⟩ := str_val (hargs 0 (.str a) rfl)
 obtain ⟨h2, _⟩ := str_val (hargs 1 (.str b) rfl)
 rw [hv, h1, h2]
 have asc : ∀ {l : List UInt8}, l.all (fun c => decide (c.toNat < 128)) = true → ∀ (j : Nat) c, (⟨l.toArray⟩ : ByteArray).data.toList[j]? = some c → c.toNat < 128 := by
  intro l hl j c hc
  have := List.all_eq_true.1 hl c (List.mem_of_getElem? hc)
  simpa using this
 refine (Tryz.strings_ContainsAny_laid ⟨a.toArray⟩ ⟨b.toArray⟩ w (by simpa [ByteArray.size] using ha) (by simpa [ByteArray.size] using hb) (asc ha1) (asc hb1)).mono ?_
 rintro e w' ⟨rfl, hB⟩
 exact ⟨_, rfl, hB, by simpa using PRel.bool (w := w') (imm := imm) (Lib.containsAny a b)⟩
theorem cell_int {G : Nat → List PV} {w : World} {imm : Nat → Nat → Prop} (h : GlobOk G w imm) {g o : Nat} {k : IntKind} {n : Int} (hp : (G g)[o]? = some (.int k n)) : w.cell? ⟨g, o, none⟩ = some (.int k n) := by
 obtain ⟨_, v, h1, _, h2⟩ := h.1 g o _ hp
 cases h2; exact h1
theorem utf8_tabs {w : World} {imm : Nat → Nat → Prop} (h : GlobOk tabG w imm) : Lib.Utf8Tabs 3 4 w := by
 refine ⟨fun c hc => ?_, fun i hi => ⟨?_, ?_⟩⟩
 ·refine cell_int h ?_
  show u8G1[c]? = _
  rw [u8G1, List.getElem?_map, List.getElem?_range hc]; rfl
 ·refine cell_int h ?_
  show u8G2[2 * i]? = _
  rw [u8G2, List.getElem?_map, List.getElem?_range (by omega)]
  simp only [Option.map_some]
  rw [if_pos (by omega), show 2 * i / 2 = i by omega]
 ·refine cell_int h ?_
  show u8G2[2 * i + 1]? = _
  rw [u8G2, List.getElem?_map, List.getElem?_range (by omega)]
  simp only [Option.map_some]
  rw [if_neg (by omega), show (2 * i + 1) / 2 = i by omega]
theorem validString_ok (s : List UInt8) : Pure Tryz.prog tabG 232 [.str s] (.bool (Lib.validD s)) := by
 refine pure_of_calls (by kernel_rfl) fun w imm vals hGl hsz hargs => ?_
 have hv := vals_1 hsz
 have h2 := hargs 0 (.str s) rfl
 generalize vals.getD 0 Go.undef = x at h2 hv
 cases h2 with
 | str s hs =>
   rw [hv]
   refine (Any.utf8_ValidString Tryz.lays196 s w (by unfold maxLen at hs; omega) (utf8_tabs hGl)).mono ?_
   rintro e w' ⟨rfl, hb⟩
   exact ⟨_, rfl, hb, .bool _⟩
def orc (f : Nat) (ps : List PV) : Option PV :=
 match f with
 | 87 => match ps with
   | [.int .i64 n] => if -9223372036854775808 ≤ n ∧ n ≤ 9223372036854775807 then some (.str (itoaT n)) else none
   | _ => none
 | 114 => match ps with
   | [.str a, .str b] => some (.int .i64 (Lib.compareBytes a b))
   | _ => none
 | 101 => match ps with
   | [.str a, .str b] => if a.length < 4294967281 ∧ b.length < 4294967281 ∧ a.all (fun c => decide (c.toNat < 128)) = true ∧ b.all (fun c => decide (c.toNat < 128)) = true then some (.bool (Lib.containsAny a b)) else none
   | _ => none
 | _ => none
theorem orc_ok : ∀ f ps r, orc f ps = some r → Pure Tryz.prog tabG f ps r := by
 intro f ps r h
 unfold orc at h
 split at h
 ·split at h
  ·split at h
   ·rename_i hh; cases h; exact itoa_ok _ hh.1 hh.2
   ·cases h
  ·cases h
 ·split at h
  ·cases h; exact compare_ok _ _
  ·cases h
 ·split at h
  ·split at h
   ·rename_i hh; cases h; exact contains_ok _ _ hh.1 hh.2.1 hh.2.2.1 hh.2.2.2
   ·cases h
  ·cases h
 ·cases h
noncomputable def tab : List TabRow := [
 ⟨14, [], gF Tryz.prog 14 []⟩,
 ⟨47, [], gF Tryz.prog 47 []⟩,
 ⟨20, [], gF Tryz.prog 20 []⟩,
 ⟨40, [], gF Tryz.prog 40 []⟩,
 ⟨22, [], gF Tryz.prog 22 []⟩,
 ⟨15, [2, 3], F15⟩,
 ⟨73, [], F73⟩,
 ⟨17, [], gF Tryz.prog 17 []⟩,
 ⟨37, [2, 3], F37⟩,
 ⟨52, [2], gF Tryz.prog 52 [2]⟩,
 ⟨16, [], F16⟩,
 ⟨53, [], gF Tryz.prog 53 []⟩,
 ⟨26, [], gF Tryz.prog 26 []⟩,
 ⟨57, [24], gF Tryz.prog 57 [24]⟩,
 ⟨12, [], F12⟩,
 ⟨58, [], gF Tryz.prog 58 []⟩,
 ⟨59, [33], gF Tryz.prog 59 [33]⟩,
 ⟨123, [], F123⟩,
 ⟨48, [], gF Tryz.prog 48 []⟩,
 ⟨49, [1], gF Tryz.prog 49 [1]⟩,
 ⟨80, [5, 6], F80⟩,
 ⟨100, [2, 3], gF Tryz.prog 100 [2, 3]⟩,
 ⟨32, [], F32⟩,
 ⟨42, [], F42⟩,
 ⟨43, [14], F43⟩,
 ⟨44, [], F44⟩,
 ⟨45, [], F45⟩,
 ⟨66, [14], gF Tryz.prog 66 [14]⟩,
 ⟨68, [], gF Tryz.prog 68 []⟩,
 ⟨108, [], gF Tryz.prog 108 []⟩,
 ⟨33, [44], F33⟩,
 ⟨35, [], F35⟩,
 ⟨109, [], gF Tryz.prog 109 []⟩,
 ⟨110, [], gF Tryz.prog 110 []⟩,
 ⟨111, [], gF Tryz.prog 111 []⟩,
 ⟨112, [], gF Tryz.prog 112 []⟩,
 ⟨113, [], gF Tryz.prog 113 []⟩,
 ⟨94, [], gF Tryz.prog 94 []⟩,
 ⟨95, [], gF Tryz.prog 95 []⟩,
 ⟨96, [], gF Tryz.prog 96 []⟩,
 ⟨97, [1], gF Tryz.prog 97 [1]⟩,
 ⟨130, [1], F130⟩,
 ⟨131, [5], F131⟩,
 ⟨133, [5, 6], gF Tryz.prog 133 [5, 6]⟩,
 ⟨134, [2, 3], gF Tryz.prog 134 [2, 3]⟩,
 ⟨151, [], gF Tryz.prog 151 []⟩,
 ⟨152, [2], gF Tryz.prog 152 [2]⟩,
 ⟨86, [], F86⟩,
 ⟨88, [], F88⟩,
 ⟨89, [], gF Tryz.prog 89 []⟩,
 ⟨90, [19], F90⟩,
 ⟨91, [], F91⟩,
 ⟨92, [], F92⟩,
 ⟨161, [], gF Tryz.prog 161 []⟩,
 ⟨71, [], F71⟩,
 ⟨72, [12], gF Tryz.prog 72 [12]⟩,
 ⟨74, [], F74⟩,
 ⟨75, [], F75⟩,
 ⟨76, [], F76⟩,
 ⟨77, [], F77⟩,
 ⟨162, [], gF Tryz.prog 162 []⟩,
 ⟨163, [], gF Tryz.prog 163 []⟩,
 ⟨143, [], gF Tryz.prog 143 []⟩,
 ⟨144, [], gF Tryz.prog 144 []⟩,
 ⟨146, [], gF Tryz.prog 146 []⟩,
 ⟨147, [], gF Tryz.prog 147 []⟩,
 ⟨180, [], gF Tryz.prog 180 []⟩,
 ⟨181, [2], gF Tryz.prog 181 [2]⟩,
 ⟨125, [], F125⟩,
 ⟨126, [], F126⟩,
 ⟨127, [], F127⟩,
 ⟨209, [], gF Tryz.prog 209 []⟩,
 ⟨120, [], F120⟩,
 ⟨121, [], gF Tryz.prog 121 []⟩,
 ⟨124, [], F124⟩,
 ⟨128, [], F128⟩,
 ⟨210, [], gF Tryz.prog 210 []⟩,
 ⟨219, [], gF Tryz.prog 219 []⟩,
 ⟨187, [], gF Tryz.prog 187 []⟩,
 ⟨188, [], gF Tryz.prog 188 []⟩,
 ⟨189, [], gF Tryz.prog 189 []⟩,
 ⟨191, [], gF Tryz.prog 191 []⟩,
 ⟨177, [], F177⟩,
 ⟨176, [], F176⟩,
 ⟨169, [], F169⟩,
 ⟨240, [], gF Tryz.prog 240 []⟩,
 ⟨241, [], gF Tryz.prog 241 []⟩]
theorem tab_ok : ∀ r ∈ tab, cFn Tryz.prog r.muts r.f = some r.fn := by
 intro r hr
 simp only [tab, List.mem_cons, List.not_mem_nil, or_false] at hr
 rcases hr with rfl | rfl | rfl | rfl | rfl | rfl | rfl | rfl | rfl | rfl | rfl | rfl | rfl | rfl | rfl | rfl | rfl | rfl | rfl | rfl | rfl | rfl | rfl | rfl | rfl | rfl | rfl | rfl | rfl | rfl | rfl | rfl | rfl | rfl | rfl | rfl | rfl | rfl | rfl | rfl | rfl | rfl | rfl | rfl | rfl | rfl | rfl | rfl | rfl | rfl | rfl | rfl | rfl | rfl | rfl | rfl | rfl | rfl | rfl | rfl | rfl | rfl | rfl | rfl | rfl | rfl | rfl | rfl | rfl | rfl | rfl | rfl | rfl | rfl | rfl | rfl | rfl | rfl | rfl | rfl | rfl | rfl | rfl | rfl | rfl | rfl | rfl
 ·kernel_rfl
 ·kernel_rfl
 ·kernel_rfl
 ·kernel_rfl
 ·kernel_rfl
 ·exact F15_ok
 ·exact F73_ok
 ·kernel_rfl
 ·exact F37_ok
 ·kernel_rfl
 ·exact F16_ok
 ·kernel_rfl
 ·kernel_rfl
 ·kernel_rfl
 ·exact F12_ok
 ·kernel_rfl
 ·kernel_rfl
 ·exact F123_ok
 ·kernel_rfl
 ·kernel_rfl
 ·exact F80_ok
 ·kernel_rfl
 ·exact F32_ok
 ·exact F42_ok
 ·exact F43_ok
 ·exact F44_ok
 ·exact F45_ok
 ·kernel_rfl
 ·kernel_rfl
 ·kernel_rfl
 ·exact F33_ok
 ·exact F35_ok
 ·kernel_rfl
 ·kernel_rfl
 ·kernel_rfl
 ·kernel_rfl
 ·kernel_rfl
 ·kernel_rfl
 ·kernel_rfl
 ·kernel_rfl
 ·kernel_rfl
 ·exact F130_ok
 ·exact F131_ok
 ·kernel_rfl
 ·kernel_rfl
 ·kernel_rfl
 ·kernel_rfl
 ·exact F86_ok
 ·exact F88_ok
 ·kernel_rfl
 ·exact F90_ok
 ·exact F91_ok
 ·exact F92_ok
 ·kernel_rfl
 ·exact F71_ok
 ·kernel_rfl
 ·exact F74_ok
 ·exact F75_ok
 ·exact F76_ok
 ·exact F77_ok
 ·kernel_rfl
 ·kernel_rfl
 ·kernel_rfl
 ·kernel_rfl
 ·kernel_rfl
 ·kernel_rfl
 ·kernel_rfl
 ·kernel_rfl
 ·exact F125_ok
 ·exact F126_ok
 ·exact F127_ok
 ·kernel_rfl
 ·exact F120_ok
 ·kernel_rfl
 ·exact F124_ok
 ·exact F128_ok
 ·kernel_rfl
 ·kernel_rfl
 ·kernel_rfl
 ·kernel_rfl
 ·kernel_rfl
 ·kernel_rfl
 ·exact F177_ok
 ·exact F176_ok
 ·exact F169_ok
 ·kernel_rfl
 ·kernel_rfl
theorem known_ex : pcall (exF tab orc tabG 5000 60) 14 [] = some (.bool true) := by kernel_rfl
theorem known_ok : Pure Tryz.prog tabG 14 [] (.bool true) := Pure.of_ex tab_ok orc_ok known_ex
end Go.Proofs.YtbaaokocnegdoaaGreatDoor
