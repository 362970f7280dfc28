/- A part of the proof for DelimitedSeparatorsCardSaid. -/
import Derived.Shelf.Small.Strs
import Derived.Shelf.LaysM
import Derived.Shelf.Strconv.Itoa3
import Derived.Shelf.Strings.IndexAnyAll
import Derived.Test.YtkjopaaeeaacmaaGreatDoorProg
/-
  DERIVED: THE SHELF's CONTRACTS AT THIS DUMP, IN PLAIN WORDS (tools/lay-plain.mjs out of 'TryzShelf.lean', which tools/lay-shelf.mjs wrote): THE SAME DECLARATIONS UNDER THE SAME NAMES: 'import', 'namespace', 'open', 'def', 'theorem' AND NOTHING ELSE: no command of the shelf's: FOR A HAND-IN. Each laying: the table of numbers ('.._ren') and one theorem, a field a fact of the dump's own or the kernel's comparison; each contract: ONE APPLICATION.
-/
namespace Go.Proofs
open Go.Shelf
def Tryz.lays106_ren : Go.Shelf.Ren := ⟨fun | 106 => 49 | 213 => 86 | 265 => 127 | n => n, fun | 9 => 9 | 3 => 3 | n => n, fun | n => n⟩
theorem Tryz.lays106 : Go.Proofs.Lays.n106 Tryz.prog Tryz.lays106_ren := {
  mixed := by kernel_rfl
  f106 := Tryz.func49.trans (congrArg some (by kernel_rfl))
  f213 := Tryz.func86.trans (congrArg some (by kernel_rfl))
  f265 := Tryz.func127.trans (congrArg some (by kernel_rfl))
  t3 := Tryz.underlying3
  a3 := Tryz.isAgg3
  z3 := Tryz.sizeOf3
  v3 := Tryz.zeroValue3
  t9 := Tryz.underlying9
  a9 := Tryz.isAgg9
  z9 := Tryz.sizeOf9
  v9 := Tryz.zeroValue9 }
open Go.RowKit in
theorem Tryz.strings_Compare (a b : ByteArray) (w : World) :
    Calls Tryz.prog 49 #[.string a, .string b] w fun e w' => e = .returned (.int .i64 (Lib.compareBytes a.data.toList b.data.toList)) ∧ w' = w := Any.strings_Compare Tryz.lays106 a b w
def Tryz.laysM171_ren : Go.Shelf.Ren := ⟨fun | 171 => 59 | 243 => 94 | 246 => 137 | 283 => 171 | 284 => 172 | 285 => 173 | 286 => 174 | 129 => 126 | 317 => 199 | 318 => 200 | 319 => 201 | 320 => 202 | 337 => 208 | 338 => 209 | n => n, fun | 3 => 3 | 9 => 9 | 2 => 2 | 4 => 4 | 171 => 215 | 0 => 0 | 53 => 175 | 37 => 76 | 5 => 5 | 173 => 217 | 212 => 237 | 51 => 173 | 20 => 20 | 213 => 238 | 46 => 82 | 232 => 248 | 233 => 249 | n => n, fun | 17 => 5 | 18 => 6 | 19 => 7 | n => n⟩
theorem Tryz.laysM171 : Go.Proofs.LaysM.n171 Tryz.prog Tryz.laysM171_ren := {
  mixed := by kernel_rfl
  f129 := Tryz.func126.trans (congrArg some (by kernel_rfl))
  f171 := Tryz.func59.trans (congrArg some (by kernel_rfl))
  f243 := Tryz.func94.trans (congrArg some (by kernel_rfl))
  f246 := Tryz.func137.trans (congrArg some (by kernel_rfl))
  f283 := Tryz.func171.trans (congrArg some (by kernel_rfl))
  f284 := Tryz.func172.trans (congrArg some (by kernel_rfl))
  f285 := Tryz.func173.trans (congrArg some (by kernel_rfl))
  f286 := Tryz.func174.trans (congrArg some (by kernel_rfl))
  f317 := Tryz.func199.trans (congrArg some (by kernel_rfl))
  f318 := Tryz.func200.trans (congrArg some (by kernel_rfl))
  f319 := Tryz.func201.trans (congrArg some (by kernel_rfl))
  f320 := Tryz.func202.trans (congrArg some (by kernel_rfl))
  f337 := Tryz.func208.trans (congrArg some (by kernel_rfl))
  f338 := Tryz.func209.trans (congrArg some (by kernel_rfl))
  t0 := Tryz.underlying0
  a0 := Tryz.isAgg0
  z0 := Tryz.sizeOf0
  v0 := Tryz.zeroValue0
  t2 := Tryz.underlying2
  a2 := Tryz.isAgg2
  z2 := Tryz.sizeOf2
  v2 := Tryz.zeroValue2
  t3 := Tryz.underlying3
  a3 := Tryz.isAgg3
  z3 := Tryz.sizeOf3
  v3 := Tryz.zeroValue3
  t4 := Tryz.underlying4
  a4 := Tryz.isAgg4
  z4 := Tryz.sizeOf4
  v4 := Tryz.zeroValue4
  t5 := Tryz.underlying5
  a5 := Tryz.isAgg5
  z5 := Tryz.sizeOf5
  v5 := Tryz.zeroValue5
  t9 := Tryz.underlying9
  a9 := Tryz.isAgg9
  z9 := Tryz.sizeOf9
  v9 := Tryz.zeroValue9
  t20 := Tryz.underlying20
  a20 := Tryz.isAgg20
  z20 := Tryz.sizeOf20
  v20 := Tryz.zeroValue20
  t37 := Tryz.underlying76
  a37 := Tryz.isAgg76
  z37 := Tryz.sizeOf76
  v37 := Tryz.zeroValue76
  t46 := Tryz.underlying82
  a46 := Tryz.isAgg82
  z46 := Tryz.sizeOf82
  v46 := Tryz.zeroValue82
  t51 := Tryz.underlying173
  a51 := Tryz.isAgg173
  z51 := Tryz.sizeOf173
  v51 := Tryz.zeroValue173
  t53 := Tryz.underlying175
  a53 := Tryz.isAgg175
  z53 := Tryz.sizeOf175
  v53 := Tryz.zeroValue175
  t171 := Tryz.underlying215
  a171 := Tryz.isAgg215
  z171 := Tryz.sizeOf215
  v171 := Tryz.zeroValue215
  t173 := Tryz.underlying217
  a173 := Tryz.isAgg217
  z173 := Tryz.sizeOf217
  v173 := Tryz.zeroValue217
  t212 := Tryz.underlying237
  a212 := Tryz.isAgg237
  z212 := Tryz.sizeOf237
  v212 := Tryz.zeroValue237
  t213 := Tryz.underlying238
  a213 := Tryz.isAgg238
  z213 := Tryz.sizeOf238
  t232 := Tryz.underlying248
  a232 := Tryz.isAgg248
  z232 := Tryz.sizeOf248
  v232 := Tryz.zeroValue248
  t233 := Tryz.underlying249
  a233 := Tryz.isAgg249
  z233 := Tryz.sizeOf249
  v233 := Tryz.zeroValue249
  g17 := by kernel_rfl
  g18 := by kernel_rfl
  g19 := by kernel_rfl
  i0 := by kernel_rfl
  i2 := by kernel_rfl
  i3 := by kernel_rfl
  i4 := by kernel_rfl
  i5 := by kernel_rfl
  i9 := by kernel_rfl
  i20 := by kernel_rfl
  i37 := by kernel_rfl
  i46 := by kernel_rfl
  i51 := by kernel_rfl
  i53 := by kernel_rfl
  i171 := by kernel_rfl
  i173 := by kernel_rfl
  i212 := by kernel_rfl
  i232 := by kernel_rfl
  i233 := by kernel_rfl
  m17 := by kernel_rfl
  m18 := by kernel_rfl
  m19 := by kernel_rfl }
open Go.RowKit Go.Sort Go.Lib in
theorem Tryz.strconv_Itoa (n : Int) (h0 : -9223372036854775808 ≤ n) (h1 : n ≤ 9223372036854775807) (w : World) (htab : Lib.TabIs Tryz.prog w "internal/strconv.uint64pow10" .u64 Lib.pow10Tab) :
    Calls Tryz.prog 59 #[.int .i64 n] w fun e w' => e = .returned (.string ⟨(Lib.itoa n).toArray⟩) ∧ ∃ k os, w' = grow (w.drewN k) os := Any.strconv_Itoa Tryz.laysM171 n h0 h1 w htab
def Tryz.lays150_ren : Go.Shelf.Ren := ⟨fun | 150 => 35 | 153 => 72 | 152 => 104 | 226 => 105 | 227 => 106 | 228 => 107 | 137 => 11 | 119 => 143 | 224 => 144 | 225 => 145 | 217 => 22 | 266 => 50 | n => n, fun | 9 => 9 | 4 => 4 | 3 => 3 | 5 => 5 | 21 => 21 | 117 => 158 | 116 => 157 | 0 => 0 | 46 => 82 | 124 => 190 | n => n, fun | n => n⟩
theorem Tryz.lays150 : Go.Proofs.Lays.n150 Tryz.prog Tryz.lays150_ren := {
  mixed := by kernel_rfl
  f119 := Tryz.func143.trans (congrArg some (by kernel_rfl))
  f137 := Tryz.func11.trans (congrArg some (by kernel_rfl))
  f150 := Tryz.func35.trans (congrArg some (by kernel_rfl))
  f152 := Tryz.func104.trans (congrArg some (by kernel_rfl))
  f153 := Tryz.func72.trans (congrArg some (by kernel_rfl))
  f217 := Tryz.func22.trans (congrArg some (by kernel_rfl))
  f224 := Tryz.func144.trans (congrArg some (by kernel_rfl))
  f225 := Tryz.func145.trans (congrArg some (by kernel_rfl))
  f226 := Tryz.func105.trans (congrArg some (by kernel_rfl))
  f227 := Tryz.func106.trans (congrArg some (by kernel_rfl))
  f228 := Tryz.func107.trans (congrArg some (by kernel_rfl))
  f266 := Tryz.func50.trans (congrArg some (by kernel_rfl))
  t0 := Tryz.underlying0
  a0 := Tryz.isAgg0
  z0 := Tryz.sizeOf0
  v0 := Tryz.zeroValue0
  t3 := Tryz.underlying3
  a3 := Tryz.isAgg3
  z3 := Tryz.sizeOf3
  v3 := Tryz.zeroValue3
  t4 := Tryz.underlying4
  a4 := Tryz.isAgg4
  z4 := Tryz.sizeOf4
  v4 := Tryz.zeroValue4
  t5 := Tryz.underlying5
  a5 := Tryz.isAgg5
  z5 := Tryz.sizeOf5
  v5 := Tryz.zeroValue5
  t9 := Tryz.underlying9
  a9 := Tryz.isAgg9
  z9 := Tryz.sizeOf9
  v9 := Tryz.zeroValue9
  t21 := Tryz.underlying21
  a21 := Tryz.isAgg21
  z21 := Tryz.sizeOf21
  v21 := Tryz.zeroValue21
  t46 := Tryz.underlying82
  a46 := Tryz.isAgg82
  z46 := Tryz.sizeOf82
  v46 := Tryz.zeroValue82
  t116 := Tryz.underlying157
  a116 := Tryz.isAgg157
  z116 := Tryz.sizeOf157
  t117 := Tryz.underlying158
  a117 := Tryz.isAgg158
  z117 := Tryz.sizeOf158
  v117 := Tryz.zeroValue158
  t124 := Tryz.underlying190
  a124 := Tryz.isAgg190
  z124 := Tryz.sizeOf190
  v124 := Tryz.zeroValue190 }
open Go.RowKit Go.Lib in
theorem Tryz.strings_ContainsAny_laid (s chars : ByteArray) (w : World) (hs : s.size < 4294967281) (hcs : chars.size < 4294967281) (has : ∀ (j : Nat) b, s.data.toList[j]? = some b → b.toNat < 128) (hac : ∀ (j : Nat) b, chars.data.toList[j]? = some b → b.toNat < 128) :
    Calls Tryz.prog 35 #[.string s, .string chars] w fun e w' => e = .returned (.bool (Lib.containsAny s.data.toList chars.data.toList)) ∧ Below w.heap.size w w' := Any.strings_ContainsAny_laid Tryz.lays150 (by kernel_rfl) s chars w hs hcs has hac
end Go.Proofs
