/- A part of the proof for DelimitedValuesCardSaid. -/
import Derived.Test.YtbaaokocnegdoaaGreatDoorCore5
import Derived.Shelf.Small.Strs
import Derived.Shelf.LaysM
import Derived.Shelf.Strconv.Itoa3
import Derived.Shelf.Strings.IndexAnyAll
import Derived.Test.YtbaaokocnegdoaaGreatDoorProg
set_option linter.unusedVariables false
set_option linter.unusedSimpArgs false
namespace Go.Ab
open Go
def leapB (y : Int) : Bool := decide (y % 4 = 0) && (!decide (y % 100 = 0) || decide (y % 400 = 0))
def mdI (y m : Int) : Int := if m = 2 then (if leapB y = true then 29 else 28) else if m = 4 ∨ m = 6 ∨ m = 9 ∨ m = 11 then 30 else 31
def befI (y : Int) : Int := 365 * (y - 1) + (y - 1) / 4 - (y - 1) / 100 + (y - 1) / 400
def sumM (y : Int) : Nat → Int
 | 0 => 0
 | k + 1 => sumM y k + mdI y (k + 1 : Nat)
theorem mdI_bound (y m : Int) : 28 ≤ mdI y m ∧ mdI y m ≤ 31 := by
 unfold mdI; split
 ·split <;> omega
 ·split <;> omega
theorem leap_iff (y : Int) : leapB y = true ↔ y % 4 = 0 ∧ (¬ y % 100 = 0 ∨ y % 400 = 0) := by simp [leapB]
theorem bef_succ (y : Int) : befI (y + 1) = befI y + 365 + (if leapB y = true then 1 else 0) := by
 have h : y + 1 - 1 = y := by omega
 unfold befI
 rw [h]
 by_cases hl : leapB y = true
 ·rw [if_pos hl]
  have := (leap_iff y).1 hl
  omega
 ·rw [if_neg hl]
  have : ¬ (y % 4 = 0 ∧ (¬ y % 100 = 0 ∨ y % 400 = 0)) := fun h => hl ((leap_iff y).2 h)
  omega
theorem bef_mono : ∀ (k : Nat) (y : Int), befI y + 365 * k ≤ befI (y + k)
 | 0, y => by simp
 | k + 1, y => by
   have h1 := bef_mono k y
   have h2 := bef_succ (y + k)
   have e : y + ((k + 1 : Nat) : Int) = y + k + 1 := by omega
   rw [e, h2]
   have : (0 : Int) ≤ if leapB (y + k) = true then 1 else 0 := by split <;> omega
   omega
theorem bef_lt {y z : Int} (h : y < z) : befI (y + 1) ≤ befI z := by
 have := bef_mono (z - (y + 1)).toNat (y + 1)
 have e : y + 1 + ((z - (y + 1)).toNat : Int) = z := by omega
 rw [e] at this
 omega
theorem sum_12 (y : Int) : sumM y 12 = 365 + (if leapB y = true then 1 else 0) := by
 have e (k : Nat) : sumM y (k + 1) = sumM y k + mdI y (k + 1 : Nat) := rfl
 have z : sumM y 0 = 0 := rfl
 rw [e 11, e 10, e 9, e 8, e 7, e 6, e 5, e 4, e 3, e 2, e 1, e 0, z]
 by_cases hl : leapB y = true <;> simp [mdI, hl]
theorem sum_mono (y : Int) : ∀ (k j : Nat), sumM y j + 28 * k ≤ sumM y (j + k)
 | 0, j => by simp
 | k + 1, j => by
   have h1 := sum_mono y k j
   have h2 := mdI_bound y ((j + k : Nat) + 1 : Nat)
   have e : sumM y (j + (k + 1)) = sumM y (j + k) + mdI y (j + k + 1 : Nat) := rfl
   rw [e]
   omega
structure DateOk (y : Int) (m : Nat) (d : Int) : Prop where
 y1 : 1 ≤ y
 y2 : y ≤ 9999
 m1 : 1 ≤ m
 m2 : m ≤ 12
 d1 : 1 ≤ d
 d2 : d ≤ mdI y m
def dayN (y : Int) (m : Nat) (d : Int) : Int := befI y + sumM y (m - 1) + d - 1
theorem day_bound {y : Int} {m : Nat} {d : Int} (h : DateOk y m d) : befI y ≤ dayN y m d ∧ dayN y m d < befI (y + 1) := by
 obtain ⟨h1, h2, h3, h4, h5, h6⟩ := h
 have hs0 := sum_mono y (m - 1) 0
 have z : sumM y 0 = 0 := rfl
 simp only [Nat.zero_add] at hs0
 have hs1 : sumM y m = sumM y (m - 1) + mdI y m := by
  obtain ⟨k, rfl⟩ : ∃ k, m = k + 1 := ⟨m - 1, by omega⟩
  rfl
 have hs2 := sum_mono y (12 - m) m
 rw [show m + (12 - m) = 12 by omega, sum_12] at hs2
 have hb := bef_succ y
 unfold dayN
 omega
theorem bef_bound {y : Int} (h1 : 1 ≤ y) (h2 : y ≤ 10000) : 0 ≤ befI y ∧ befI y ≤ 3652059 := by
 unfold befI; omega
theorem day_range {y : Int} {m : Nat} {d : Int} (h : DateOk y m d) : 0 ≤ dayN y m d ∧ dayN y m d ≤ 3652058 := by
 have := day_bound h
 have h1 := bef_bound h.y1 (by have := h.y2; omega)
 have h2 := bef_bound (y := y + 1) (by have := h.y1; omega) (by have := h.y2; omega)
 omega
end Go.Ab
/-
 DERIVED: THE SHELF's CONTRACTS AT THIS DUMP, IN PLAIN WORDS (tools/lay-plain.mjs out of 'TryzShelf.lean', which tools/lay-shelf.mjs wrote): THE SAME DECLARATIONS UNDER THE SAME NAMES: 'import', 'namespace', 'open', 'def', 'theorem' AND NOTHING ELSE: no command of the shelf's: FOR A HAND-IN. Each laying: the table of numbers ('.._ren') and one theorem, a field a fact of the dump's own or the kernel's comparison; each contract: ONE APPLICATION.
-/
namespace Go.Proofs
open Go.Shelf
def Tryz.lays106_ren : Go.Shelf.Ren := ⟨fun | 106 => 114 | 213 => 164 | 265 => 220 | n => n, fun | 9 => 9 | 3 => 3 | n => n, fun | n => n⟩
theorem Tryz.lays106 : Go.Proofs.Lays.n106 Tryz.prog Tryz.lays106_ren := {
 mixed := by kernel_rfl
 f106 := Tryz.func114.trans (congrArg some (by kernel_rfl))
 f213 := Tryz.func164.trans (congrArg some (by kernel_rfl))
 f265 := Tryz.func220.trans (congrArg some (by kernel_rfl))
 t3 := Tryz.underlying3
 a3 := Tryz.isAgg3
 z3 := Tryz.sizeOf3
 v3 := Tryz.zeroValue3
 t9 := Tryz.underlying9
 a9 := Tryz.isAgg9
 z9 := Tryz.sizeOf9
 v9 := Tryz.zeroValue9 }
open Go.RowKit in
theorem Tryz.strings_Compare (a b : ByteArray) (w : World) :
  Calls Tryz.prog 114 #[.string a, .string b] w fun e w' => e = .returned (.int .i64 (Lib.compareBytes a.data.toList b.data.toList)) ∧ w' = w := Any.strings_Compare Tryz.lays106 a b w
def Tryz.laysM171_ren : Go.Shelf.Ren := ⟨fun | 171 => 87 | 243 => 138 | 246 => 183 | 283 => 234 | 284 => 235 | 285 => 236 | 286 => 237 | 129 => 219 | 317 => 264 | 318 => 265 | 319 => 266 | 320 => 267 | 337 => 292 | 338 => 293 | n => n, fun | 3 => 3 | 9 => 9 | 2 => 2 | 4 => 4 | 171 => 246 | 0 => 0 | 53 => 213 | 37 => 64 | 5 => 5 | 173 => 248 | 212 => 281 | 51 => 210 | 20 => 20 | 213 => 282 | 46 => 93 | 232 => 295 | 233 => 296 | n => n, fun | 17 => 5 | 18 => 6 | 19 => 7 | n => n⟩
theorem Tryz.laysM171 : Go.Proofs.LaysM.n171 Tryz.prog Tryz.laysM171_ren := {
 mixed := by kernel_rfl
 f129 := Tryz.func219.trans (congrArg some (by kernel_rfl))
 f171 := Tryz.func87.trans (congrArg some (by kernel_rfl))
 f243 := Tryz.func138.trans (congrArg some (by kernel_rfl))
 f246 := Tryz.func183.trans (congrArg some (by kernel_rfl))
 f283 := Tryz.func234.trans (congrArg some (by kernel_rfl))
 f284 := Tryz.func235.trans (congrArg some (by kernel_rfl))
 f285 := Tryz.func236.trans (congrArg some (by kernel_rfl))
 f286 := Tryz.func237.trans (congrArg some (by kernel_rfl))
 f317 := Tryz.func264.trans (congrArg some (by kernel_rfl))
 f318 := Tryz.func265.trans (congrArg some (by kernel_rfl))
 f319 := Tryz.func266.trans (congrArg some (by kernel_rfl))
 f320 := Tryz.func267.trans (congrArg some (by kernel_rfl))
 f337 := Tryz.func292.trans (congrArg some (by kernel_rfl))
 f338 := Tryz.func293.trans (congrArg some (by kernel_rfl))
 t0 := Tryz.underlying0
 a0 := Tryz.isAgg0
 z0 := Tryz.sizeOf0
 v0 := Tryz.zeroValue0
 t2 := Tryz.underlying2
 a2 := Tryz.isAgg2
 z2 := Tryz.sizeOf2
 v2 := Tryz.zeroValue2
 t3 := Tryz.underlying3
 a3 := Tryz.isAgg3
 z3 := Tryz.sizeOf3
 v3 := Tryz.zeroValue3
 t4 := Tryz.underlying4
 a4 := Tryz.isAgg4
 z4 := Tryz.sizeOf4
 v4 := Tryz.zeroValue4
 t5 := Tryz.underlying5
 a5 := Tryz.isAgg5
 z5 := Tryz.sizeOf5
 v5 := Tryz.zeroValue5
 t9 := Tryz.underlying9
 a9 := Tryz.isAgg9
 z9 := Tryz.sizeOf9
 v9 := Tryz.zeroValue9
 t20 := Tryz.underlying20
 a20 := Tryz.isAgg20
 z20 := Tryz.sizeOf20
 v20 := Tryz.zeroValue20
 t37 := Tryz.underlying64
 a37 := Tryz.isAgg64
 z37 := Tryz.sizeOf64
 v37 := Tryz.zeroValue64
 t46 := Tryz.underlying93
 a46 := Tryz.isAgg93
 z46 := Tryz.sizeOf93
 v46 := Tryz.zeroValue93
 t51 := Tryz.underlying210
 a51 := Tryz.isAgg210
 z51 := Tryz.sizeOf210
 v51 := Tryz.zeroValue210
 t53 := Tryz.underlying213
 a53 := Tryz.isAgg213
 z53 := Tryz.sizeOf213
 v53 := Tryz.zeroValue213
 t171 := Tryz.underlying246
 a171 := Tryz.isAgg246
 z171 := Tryz.sizeOf246
 v171 := Tryz.zeroValue246
 t173 := Tryz.underlying248
 a173 := Tryz.isAgg248
 z173 := Tryz.sizeOf248
 v173 := Tryz.zeroValue248
 t212 := Tryz.underlying281
 a212 := Tryz.isAgg281
 z212 := Tryz.sizeOf281
 v212 := Tryz.zeroValue281
 t213 := Tryz.underlying282
 a213 := Tryz.isAgg282
 z213 := Tryz.sizeOf282
 t232 := Tryz.underlying295
 a232 := Tryz.isAgg295
 z232 := Tryz.sizeOf295
 v232 := Tryz.zeroValue295
 t233 := Tryz.underlying296
 a233 := Tryz.isAgg296
 z233 := Tryz.sizeOf296
 v233 := Tryz.zeroValue296
 g17 := by kernel_rfl
 g18 := by kernel_rfl
 g19 := by kernel_rfl
 i0 := by kernel_rfl
 i2 := by kernel_rfl
 i3 := by kernel_rfl
 i4 := by kernel_rfl
 i5 := by kernel_rfl
 i9 := by kernel_rfl
 i20 := by kernel_rfl
 i37 := by kernel_rfl
 i46 := by kernel_rfl
 i51 := by kernel_rfl
 i53 := by kernel_rfl
 i171 := by kernel_rfl
 i173 := by kernel_rfl
 i212 := by kernel_rfl
 i232 := by kernel_rfl
 i233 := by kernel_rfl
 m17 := by kernel_rfl
 m18 := by kernel_rfl
 m19 := by kernel_rfl }
open Go.RowKit Go.Sort Go.Lib in
theorem Tryz.strconv_Itoa (n : Int) (h0 : -9223372036854775808 ≤ n) (h1 : n ≤ 9223372036854775807) (w : World) (htab : Lib.TabIs Tryz.prog w "internal/strconv.uint64pow10" .u64 Lib.pow10Tab) :
  Calls Tryz.prog 87 #[.int .i64 n] w fun e w' => e = .returned (.string ⟨(Lib.itoa n).toArray⟩) ∧ ∃ k os, w' = grow (w.drewN k) os := Any.strconv_Itoa Tryz.laysM171 n h0 h1 w htab
def Tryz.lays150_ren : Go.Shelf.Ren := ⟨fun | 150 => 101 | 153 => 153 | 152 => 204 | 226 => 205 | 227 => 206 | 228 => 207 | 137 => 73 | 119 => 254 | 224 => 227 | 225 => 226 | 217 => 123 | 266 => 175 | n => n, fun | 9 => 9 | 4 => 4 | 3 => 3 | 5 => 5 | 21 => 21 | 117 => 227 | 116 => 226 | 0 => 0 | 46 => 93 | 124 => 264 | n => n, fun | n => n⟩
theorem Tryz.lays150 : Go.Proofs.Lays.n150 Tryz.prog Tryz.lays150_ren := {
 mixed := by kernel_rfl
 f119 := Tryz.func254.trans (congrArg some (by kernel_rfl))
 f137 := Tryz.func73.trans (congrArg some (by kernel_rfl))
 f150 := Tryz.func101.trans (congrArg some (by kernel_rfl))
 f152 := Tryz.func204.trans (congrArg some (by kernel_rfl))
 f153 := Tryz.func153.trans (congrArg some (by kernel_rfl))
 f217 := Tryz.func123.trans (congrArg some (by kernel_rfl))
 f224 := Tryz.func227.trans (congrArg some (by kernel_rfl))
 f225 := Tryz.func226.trans (congrArg some (by kernel_rfl))
 f226 := Tryz.func205.trans (congrArg some (by kernel_rfl))
 f227 := Tryz.func206.trans (congrArg some (by kernel_rfl))
 f228 := Tryz.func207.trans (congrArg some (by kernel_rfl))
 f266 := Tryz.func175.trans (congrArg some (by kernel_rfl))
 t0 := Tryz.underlying0
 a0 := Tryz.isAgg0
 z0 := Tryz.sizeOf0
 v0 := Tryz.zeroValue0
 t3 := Tryz.underlying3
 a3 := Tryz.isAgg3
 z3 := Tryz.sizeOf3
 v3 := Tryz.zeroValue3
 t4 := Tryz.underlying4
 a4 := Tryz.isAgg4
 z4 := Tryz.sizeOf4
 v4 := Tryz.zeroValue4
 t5 := Tryz.underlying5
 a5 := Tryz.isAgg5
 z5 := Tryz.sizeOf5
 v5 := Tryz.zeroValue5
 t9 := Tryz.underlying9
 a9 := Tryz.isAgg9
 z9 := Tryz.sizeOf9
 v9 := Tryz.zeroValue9
 t21 := Tryz.underlying21
 a21 := Tryz.isAgg21
 z21 := Tryz.sizeOf21
 v21 := Tryz.zeroValue21
 t46 := Tryz.underlying93
 a46 := Tryz.isAgg93
 z46 := Tryz.sizeOf93
 v46 := Tryz.zeroValue93
 t116 := Tryz.underlying226
 a116 := Tryz.isAgg226
 z116 := Tryz.sizeOf226
 t117 := Tryz.underlying227
 a117 := Tryz.isAgg227
 z117 := Tryz.sizeOf227
 v117 := Tryz.zeroValue227
 t124 := Tryz.underlying264
 a124 := Tryz.isAgg264
 z124 := Tryz.sizeOf264
 v124 := Tryz.zeroValue264 }
open Go.RowKit Go.Lib in
theorem Tryz.strings_ContainsAny_laid (s chars : ByteArray) (w : World) (hs : s.size < 4294967281) (hcs : chars.size < 4294967281) (has : ∀ (j : Nat) b, s.data.toList[j]? = some b → b.toNat < 128) (hac : ∀ (j : Nat) b, chars.data.toList[j]? = some b → b.toNat < 128) :
  Calls Tryz.prog 101 #[.string s, .string chars] w fun e w' => e = .returned (.bool (Lib.containsAny s.data.toList chars.data.toList)) ∧ Below w.heap.size w w' := Any.strings_ContainsAny_laid Tryz.lays150 (by kernel_rfl) s chars w hs hcs has hac
end Go.Proofs
/-
 DERIVED: THE SHELF's CONTRACTS AT THIS DUMP, IN PLAIN WORDS (tools/lay-plain.mjs out of 'TryzVal.lean', which tools/lay-shelf.mjs wrote): THE SAME DECLARATIONS UNDER THE SAME NAMES: 'import', 'namespace', 'open', 'def', 'theorem' AND NOTHING ELSE: no command of the shelf's: FOR A HAND-IN. Each laying: the table of numbers ('.._ren') and one theorem, a field a fact of the dump's own or the kernel's comparison; each contract: ONE APPLICATION.
-/
namespace Go.Proofs
open Go.Shelf
def Tryz.lays196_ren : Go.Shelf.Ren := ⟨fun | 196 => 232 | 259 => 263 | n => n, fun | 9 => 9 | 4 => 4 | 3 => 3 | 5 => 5 | 12 => 12 | 119 => 270 | 0 => 0 | 46 => 93 | 139 => 273 | 138 => 272 | 53 => 213 | n => n, fun | 3 => 3 | 4 => 4 | n => n⟩
theorem Tryz.lays196 : Go.Proofs.Lays.n196 Tryz.prog Tryz.lays196_ren := {
 mixed := by kernel_rfl
 f196 := Tryz.func232.trans (congrArg some (by kernel_rfl))
 f259 := Tryz.func263.trans (congrArg some (by kernel_rfl))
 t0 := Tryz.underlying0
 a0 := Tryz.isAgg0
 z0 := Tryz.sizeOf0
 v0 := Tryz.zeroValue0
 t3 := Tryz.underlying3
 a3 := Tryz.isAgg3
 z3 := Tryz.sizeOf3
 v3 := Tryz.zeroValue3
 t4 := Tryz.underlying4
 a4 := Tryz.isAgg4
 z4 := Tryz.sizeOf4
 v4 := Tryz.zeroValue4
 t5 := Tryz.underlying5
 a5 := Tryz.isAgg5
 z5 := Tryz.sizeOf5
 v5 := Tryz.zeroValue5
 t9 := Tryz.underlying9
 a9 := Tryz.isAgg9
 z9 := Tryz.sizeOf9
 v9 := Tryz.zeroValue9
 t12 := Tryz.underlying12
 a12 := Tryz.isAgg12
 z12 := Tryz.sizeOf12
 v12 := Tryz.zeroValue12
 t46 := Tryz.underlying93
 a46 := Tryz.isAgg93
 z46 := Tryz.sizeOf93
 v46 := Tryz.zeroValue93
 t53 := Tryz.underlying213
 a53 := Tryz.isAgg213
 z53 := Tryz.sizeOf213
 v53 := Tryz.zeroValue213
 t119 := Tryz.underlying270
 a119 := Tryz.isAgg270
 z119 := Tryz.sizeOf270
 t138 := Tryz.underlying272
 a138 := Tryz.isAgg272
 z138 := Tryz.sizeOf272
 v138 := Tryz.zeroValue272
 t139 := Tryz.underlying273
 a139 := Tryz.isAgg273
 z139 := Tryz.sizeOf273
 v139 := Tryz.zeroValue273
 g3 := by kernel_rfl
 g4 := by kernel_rfl }
end Go.Proofs
