/- A part of the proof for FitBackCardSaid. -/
import Derived.Shelf.Unicode.ValidAny
import Derived.Test.YtikmckfppnmlnaaDoorBakF
import Derived.Test.YtikmckfppnmlnaaDoorCore5
import Derived.Test.YtikmckfppnmlnaaDoorBakYSh
set_option maxRecDepth 100000
namespace Go.Proofs.YtikmckfppnmlnaaDoor
open Go Go.Ab
def u8G1 : List PV := (List.range 256).map fun c => PV.int .u8 (Lib.firstT c : Nat)
def u8G2 : List PV := (List.range 32).map fun c => PV.int .u8 (if c % 2 = 0 then Lib.accLo (c / 2) else Lib.accHi (c / 2) : Nat)
def tabG : Nat → List PV := fun g => if g = 3 then Lib.pow10Tab.map (PV.int .u64) else if g = 1 then u8G1 else if g = 2 then u8G2 else []
theorem itoa_ok (n : Int) (h0 : -9223372036854775808 ≤ n) (h1 : n ≤ 9223372036854775807) : Pure Tryd.prog tabG 87 [.int .i64 n] (.str (itoaT n)) :=
  itoa_pure (name := "internal/strconv.uint64pow10") (g := 3) (by kernel_rfl) (by kernel_rfl) rfl (fun n h0 h1 w ht => Tryd.strconv_Itoa n h0 h1 w ht) n h0 h1
theorem compare_ok (a b : List UInt8) : Pure Tryd.prog tabG 102 [.str a, .str b] (.int .i64 (Lib.compareBytes a b)) :=
  compare_pure (by kernel_rfl) (fun a b w => Tryd.strings_Compare a b w) a b
theorem cell_int {G : Nat → List PV} {w : World} {imm : Nat → Nat → Prop} (h : GlobOk G w imm) {g o : Nat} {k : IntKind} {n : Int} (hp : (G g)[o]? = some (.int k n)) : w.cell? ⟨g, o, none⟩ = some (.int k n) := by
  obtain ⟨_, v, h1, _, h2⟩ := h.1 g o _ hp
  cases h2; exact h1
theorem utf8_tabs {w : World} {imm : Nat → Nat → Prop} (h : GlobOk tabG w imm) : Lib.Utf8Tabs 1 2 w := by
  refine ⟨fun c hc => ?_, fun i hi => ⟨?_, ?_⟩⟩
  · refine cell_int h ?_
    show u8G1[c]? = _
    rw [u8G1, List.getElem?_map, List.getElem?_range hc]; rfl
  · refine cell_int h ?_
    show u8G2[2 * i]? = _
    rw [u8G2, List.getElem?_map, List.getElem?_range (by omega)]
    simp only [Option.map_some]
    rw [if_pos (by omega), show 2 * i / 2 = i by omega]
  · refine cell_int h ?_
    show u8G2[2 * i + 1]? = _
    rw [u8G2, List.getElem?_map, List.getElem?_range (by omega)]
    simp only [Option.map_some]
    rw [if_neg (by omega), show (2 * i + 1) / 2 = i by omega]
theorem validString_ok (s : List UInt8) : Pure Tryd.prog tabG 125 [.str s] (.bool (Lib.validD s)) := by
  refine pure_of_calls (by kernel_rfl) fun w imm vals hGl hsz hargs => ?_
  have hv := vals_1 hsz
  have h2 := hargs 0 (.str s) rfl
  generalize vals.getD 0 Go.undef = x at h2 hv
  cases h2 with
  | str s hs =>
    rw [hv]
    refine (Any.utf8_ValidString Tryd.lays196 s w (by unfold maxLen at hs; omega) (utf8_tabs hGl)).mono ?_
    rintro e w' ⟨rfl, hb⟩
    exact ⟨_, rfl, hb, .bool _⟩
def orc (f : Nat) (ps : List PV) : Option PV :=
  match f with
  | 125 => match ps with
    | [.str s] => some (.bool (Lib.validD s))
    | _ => none
  | 102 => match ps with
    | [.str a, .str b] => some (.int .i64 (Lib.compareBytes a b))
    | _ => none
  | _ => none
theorem orc_ok : ∀ f ps r, orc f ps = some r → Pure Tryd.prog tabG f ps r := by
  intro f ps r h
  unfold orc at h
  split at h
  · split at h
    · cases h; exact validString_ok _
    · cases h
  · split at h
    · cases h; exact compare_ok _ _
    · cases h
  · cases h
def tab : List TabRow := [
  ⟨25, [], F25⟩,
  ⟨62, [], F62⟩,
  ⟨23, [2, 3], F23⟩,
  ⟨55, [2], F55⟩,
  ⟨56, [5, 6], F56⟩,
  ⟨83, [], F83⟩,
  ⟨84, [1], F84⟩,
  ⟨85, [5], F85⟩,
  ⟨88, [5, 6], F88⟩,
  ⟨86, [], F86⟩,
  ⟨111, [], F111⟩,
  ⟨113, [2], F113⟩,
  ⟨127, [2, 3], F127⟩,
  ⟨117, [], F117⟩,
  ⟨144, [2], F144⟩,
  ⟨66, [1], F66⟩,
  ⟨114, [], F114⟩,
  ⟨89, [2, 3], F89⟩,
  ⟨94, [], F94⟩,
  ⟨115, [2], F115⟩,
  ⟨110, [], F110⟩,
  ⟨35, [2, 3], F35⟩,
  ⟨68, [1000027, 1000068, 2, 3], F68⟩,
  ⟨99, [79, 3, 4], F99⟩,
  ⟨100, [], F100⟩,
  ⟨101, [2], F101⟩,
  ⟨103, [25, 60], F103⟩,
  ⟨26, [2, 3], F26⟩,
  ⟨63, [2], F63⟩,
  ⟨29, [], F29⟩,
  ⟨30, [1], F30⟩]
theorem tab_ok : ∀ r ∈ tab, cFn Tryd.prog r.muts r.f = some r.fn := by
  intro r hr
  simp only [tab, List.mem_cons, List.not_mem_nil, or_false] at hr
  rcases hr with rfl | rfl | rfl | rfl | rfl | rfl | rfl | rfl | rfl | rfl | rfl | rfl | rfl | rfl | rfl | rfl | rfl | rfl | rfl | rfl | rfl | rfl | rfl | rfl | rfl | rfl | rfl | rfl | rfl | rfl | rfl
  · exact F25_ok
  · exact F62_ok
  · exact F23_ok
  · exact F55_ok
  · exact F56_ok
  · exact F83_ok
  · exact F84_ok
  · exact F85_ok
  · exact F88_ok
  · exact F86_ok
  · exact F111_ok
  · exact F113_ok
  · exact F127_ok
  · exact F117_ok
  · exact F144_ok
  · exact F66_ok
  · exact F114_ok
  · exact F89_ok
  · exact F94_ok
  · exact F115_ok
  · exact F110_ok
  · exact F35_ok
  · exact F68_ok
  · exact F99_ok
  · exact F100_ok
  · exact F101_ok
  · exact F103_ok
  · exact F26_ok
  · exact F63_ok
  · exact F29_ok
  · exact F30_ok
theorem known_ex : pcall (exF tab orc tabG 2000 30) 25 [] = some (.bool true) := by kernel_rfl
theorem known_ok : Pure Tryd.prog tabG 25 [] (.bool true) := Pure.of_ex tab_ok orc_ok known_ex
end Go.Proofs.YtikmckfppnmlnaaDoor
