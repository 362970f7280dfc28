/- A part of the proof. -/
import Derived.Shelf.LaysM
import Derived.Shelf.Strconv.Atoi
import Derived.Shelf.Strconv.AtoiErr
import Derived.Shelf.Small.Strs
import Derived.Test.YtbojpfpliibfbaaGreatDoorProg
import Derived.Test.YtbojpfpliibfbaaGreatDoorMxRE2
/-
 DERIVED: THE SHELF's CONTRACTS AT THIS DUMP,IN PLAIN WORDS (tools/lay-plain.mjs out of 'TryzA8.lean',which tools/lay-shelf.mjs wrote): THE SAME DECLARATIONS UNDER THE SAME NAMES: 'import','namespace','open','def','theorem' AND NOTHING ELSE: no command of the shelf's: FOR A HAND-IN. Each laying: the table of numbers ('.._ren') and one theorem,a field a fact of the dump's own or the kernel's comparison;each jw: ONE APPLICATION.
-/
namespace Go.Proofs
open Go.Shelf
def Tryz.lays137_ren:Go.Shelf.Ren:=⟨fun | 137=>208 | 217=>250 | 266=>280 | n=>n,fun | 9=>9 | 5=>5 | 3=>3 | n=>n,fun | n=>n⟩
theorem Tryz.lays137:Go.Proofs.Lays.n137 Tryz.prog Tryz.lays137_ren:={
 mixed:=by kernel_rfl
 f137:=Tryz.func208.trans (congrArg some (by kernel_rfl))
 f217:=Tryz.func250.trans (congrArg some (by kernel_rfl))
 f266:=Tryz.func280.trans (congrArg some (by kernel_rfl))
 t3:=Tryz.underlying3
 a3:=Tryz.isAgg3
 z3:=Tryz.sizeOf3
 v3:=Tryz.zeroValue3
 t5:=Tryz.underlying5
 a5:=Tryz.isAgg5
 z5:=Tryz.sizeOf5
 v5:=Tryz.zeroValue5
 t9:=Tryz.underlying9
 a9:=Tryz.isAgg9
 z9:=Tryz.sizeOf9
 v9:=Tryz.zeroValue9 }
open Go.RowKit in
theorem Tryz.strings_IndexByte (s:ByteArray)(c:Int)(w:World) :
  Calls Tryz.prog 208 #[.string s,.int .u8 c] w fun e w'=>e = .returned (.int .i64 (Lib.indexByte s.data.toList c.toNat.toUInt8))/\w'=w:=Any.strings_IndexByte Tryz.lays137 s c w
def Tryz.lays172_ren:Go.Shelf.Ren:=⟨fun | 172=>248 | 244=>278 | 245=>279 | 247=>305 | 279=>306 | 280=>307 | 281=>308 | 282=>309 | 287=>315 | 316=>316 | 171=>137 | 205=>317 | 321=>320 | 322=>321 | 243=>194 | 246=>241 | 283=>270 | 284=>271 | 285=>272 | 286=>273 | 129=>224 | 317=>300 | 318=>301 | 319=>302 | 320=>303 | 337=>312 | 338=>313 | n=>n,fun | 9=>9 | 3=>3 | 75=>84 | 76=>85 | 4=>4 | 5=>5 | 167=>279 | 37=>74 | 0=>0 | 85=>280 | 2=>2 | 168=>282 | 53=>169 | 175=>287 | 46=>129 | 210=>290 | 127=>134 | 145=>299 | 143=>297 | 21=>21 | 171=>261 | 173=>263 | 212=>277 | 51=>166 | 20=>20 | 213=>278 | 232=>293 | 233=>294 | 80=>87 | n=>n,fun | 15=>4 | 16=>5 | 17=>3 | 18=>6 | 19=>7 | n=>n⟩
theorem Tryz.lays172:Go.Proofs.Lays.n172 Tryz.prog Tryz.lays172_ren:={
 mixed:=by kernel_rfl
 f129:=Tryz.func224.trans (congrArg some (by kernel_rfl))
 f171:=Tryz.func137.trans (congrArg some (by kernel_rfl))
 f172:=Tryz.func248.trans (congrArg some (by kernel_rfl))
 f205:=Tryz.func317.trans (congrArg some (by kernel_rfl))
 f243:=Tryz.func194.trans (congrArg some (by kernel_rfl))
 f244:=Tryz.func278.trans (congrArg some (by kernel_rfl))
 f245:=Tryz.func279.trans (congrArg some (by kernel_rfl))
 f246:=Tryz.func241.trans (congrArg some (by kernel_rfl))
 f247:=Tryz.func305.trans (congrArg some (by kernel_rfl))
 f279:=Tryz.func306.trans (congrArg some (by kernel_rfl))
 f280:=Tryz.func307.trans (congrArg some (by kernel_rfl))
 f281:=Tryz.func308.trans (congrArg some (by kernel_rfl))
 f282:=Tryz.func309.trans (congrArg some (by kernel_rfl))
 f283:=Tryz.func270.trans (congrArg some (by kernel_rfl))
 f284:=Tryz.func271.trans (congrArg some (by kernel_rfl))
 f285:=Tryz.func272.trans (congrArg some (by kernel_rfl))
 f286:=Tryz.func273.trans (congrArg some (by kernel_rfl))
 f287:=Tryz.func315.trans (congrArg some (by kernel_rfl))
 f316:=Tryz.func316.trans (congrArg some (by kernel_rfl))
 f317:=Tryz.func300.trans (congrArg some (by kernel_rfl))
 f318:=Tryz.func301.trans (congrArg some (by kernel_rfl))
 f319:=Tryz.func302.trans (congrArg some (by kernel_rfl))
 f320:=Tryz.func303.trans (congrArg some (by kernel_rfl))
 f321:=Tryz.func320.trans (congrArg some (by kernel_rfl))
 f322:=Tryz.func321.trans (congrArg some (by kernel_rfl))
 f337:=Tryz.func312.trans (congrArg some (by kernel_rfl))
 f338:=Tryz.func313.trans (congrArg some (by kernel_rfl))
 t0:=Tryz.underlying0
 a0:=Tryz.isAgg0
 z0:=Tryz.sizeOf0
 v0:=Tryz.zeroValue0
 t2:=Tryz.underlying2
 a2:=Tryz.isAgg2
 z2:=Tryz.sizeOf2
 v2:=Tryz.zeroValue2
 t3:=Tryz.underlying3
 a3:=Tryz.isAgg3
 z3:=Tryz.sizeOf3
 v3:=Tryz.zeroValue3
 t4:=Tryz.underlying4
 a4:=Tryz.isAgg4
 z4:=Tryz.sizeOf4
 v4:=Tryz.zeroValue4
 t5:=Tryz.underlying5
 a5:=Tryz.isAgg5
 z5:=Tryz.sizeOf5
 v5:=Tryz.zeroValue5
 t9:=Tryz.underlying9
 a9:=Tryz.isAgg9
 z9:=Tryz.sizeOf9
 v9:=Tryz.zeroValue9
 t20:=Tryz.underlying20
 a20:=Tryz.isAgg20
 z20:=Tryz.sizeOf20
 v20:=Tryz.zeroValue20
 t21:=Tryz.underlying21
 a21:=Tryz.isAgg21
 z21:=Tryz.sizeOf21
 v21:=Tryz.zeroValue21
 t37:=Tryz.underlying74
 a37:=Tryz.isAgg74
 z37:=Tryz.sizeOf74
 v37:=Tryz.zeroValue74
 t46:=Tryz.underlying129
 a46:=Tryz.isAgg129
 z46:=Tryz.sizeOf129
 v46:=Tryz.zeroValue129
 t51:=Tryz.underlying166
 a51:=Tryz.isAgg166
 z51:=Tryz.sizeOf166
 v51:=Tryz.zeroValue166
 t53:=Tryz.underlying169
 a53:=Tryz.isAgg169
 z53:=Tryz.sizeOf169
 v53:=Tryz.zeroValue169
 t75:=Tryz.underlying84
 a75:=Tryz.isAgg84
 z75:=Tryz.sizeOf84
 v75:=Tryz.zeroValue84
 t76:=Tryz.underlying85
 a76:=Tryz.isAgg85
 z76:=Tryz.sizeOf85
 v76:=Tryz.zeroValue85
 t85:=Tryz.underlying280
 a85:=Tryz.isAgg280
 z85:=Tryz.sizeOf280
 v85:=Tryz.zeroValue280
 t127:=Tryz.underlying134
 a127:=Tryz.isAgg134
 z127:=Tryz.sizeOf134
 v127:=Tryz.zeroValue134
 t143:=Tryz.underlying297
 a143:=Tryz.isAgg297
 z143:=Tryz.sizeOf297
 v143:=Tryz.zeroValue297
 t145:=Tryz.underlying299
 a145:=Tryz.isAgg299
 z145:=Tryz.sizeOf299
 v145:=Tryz.zeroValue299
 t167:=Tryz.underlying279
 a167:=Tryz.isAgg279
 z167:=Tryz.sizeOf279
 v167:=Tryz.zeroValue279
 t168:=Tryz.underlying282
 a168:=Tryz.isAgg282
 z168:=Tryz.sizeOf282
 v168:=Tryz.zeroValue282
 t171:=Tryz.underlying261
 a171:=Tryz.isAgg261
 z171:=Tryz.sizeOf261
 v171:=Tryz.zeroValue261
 t173:=Tryz.underlying263
 a173:=Tryz.isAgg263
 z173:=Tryz.sizeOf263
 v173:=Tryz.zeroValue263
 t175:=Tryz.underlying287
 a175:=Tryz.isAgg287
 z175:=Tryz.sizeOf287
 v175:=Tryz.zeroValue287
 t210:=Tryz.underlying290
 a210:=Tryz.isAgg290
 z210:=Tryz.sizeOf290
 v210:=Tryz.zeroValue290
 t212:=Tryz.underlying277
 a212:=Tryz.isAgg277
 z212:=Tryz.sizeOf277
 v212:=Tryz.zeroValue277
 t213:=Tryz.underlying278
 a213:=Tryz.isAgg278
 z213:=Tryz.sizeOf278
 t232:=Tryz.underlying293
 a232:=Tryz.isAgg293
 z232:=Tryz.sizeOf293
 v232:=Tryz.zeroValue293
 t233:=Tryz.underlying294
 a233:=Tryz.isAgg294
 z233:=Tryz.sizeOf294
 v233:=Tryz.zeroValue294
 g15:=by kernel_rfl
 g16:=by kernel_rfl
 g17:=by kernel_rfl
 g18:=by kernel_rfl
 g19:=by kernel_rfl }
open Go.RowKit in
theorem Tryz.strconv_Atoi (s:ByteArray)(n:Int)(hl:s.size<=18)(h:Lib.atoi s.data.toList=some n)(w:World) :
  Calls Tryz.prog 248 #[.string s] w fun e w'=>e = .returned (.tuple #[.int .i64 n,.nilIface])/\∃ t,w'=Lib.bytesWorld w 5 t:=Any.strconv_Atoi Tryz.lays172 s n hl h w
def Tryz.laysC172_ren:Go.Shelf.Ren:=⟨fun | 172=>248 | 244=>278 | 245=>279 | 247=>305 | 279=>306 | 280=>307 | 281=>308 | 282=>309 | 287=>315 | 316=>316 | 171=>137 | 205=>317 | 321=>320 | 322=>321 | 243=>194 | 246=>241 | 283=>270 | 284=>271 | 285=>272 | 286=>273 | 129=>224 | 317=>300 | 318=>301 | 319=>302 | 320=>303 | 337=>312 | 338=>313 | n=>n,fun | 9=>9 | 3=>3 | 75=>84 | 76=>85 | 4=>4 | 5=>5 | 167=>279 | 37=>74 | 0=>0 | 85=>280 | 2=>2 | 168=>282 | 53=>169 | 175=>287 | 46=>129 | 210=>290 | 127=>134 | 145=>299 | 143=>297 | 21=>21 | 171=>261 | 173=>263 | 212=>277 | 51=>166 | 20=>20 | 213=>278 | 232=>293 | 233=>294 | 80=>87 | n=>n,fun | 15=>4 | 16=>5 | 17=>3 | 18=>6 | 19=>7 | n=>n⟩
theorem Tryz.laysC172:Go.Proofs.LaysC.n172 Tryz.prog Tryz.laysC172_ren:={
 mixed:=by kernel_rfl
 f129:=Tryz.func224.trans (congrArg some (by kernel_rfl))
 f171:=Tryz.func137.trans (congrArg some (by kernel_rfl))
 f172:=Tryz.func248.trans (congrArg some (by kernel_rfl))
 f205:=Tryz.func317.trans (congrArg some (by kernel_rfl))
 f243:=Tryz.func194.trans (congrArg some (by kernel_rfl))
 f244:=Tryz.func278.trans (congrArg some (by kernel_rfl))
 f245:=Tryz.func279.trans (congrArg some (by kernel_rfl))
 f246:=Tryz.func241.trans (congrArg some (by kernel_rfl))
 f247:=Tryz.func305.trans (congrArg some (by kernel_rfl))
 f279:=Tryz.func306.trans (congrArg some (by kernel_rfl))
 f280:=Tryz.func307.trans (congrArg some (by kernel_rfl))
 f281:=Tryz.func308.trans (congrArg some (by kernel_rfl))
 f282:=Tryz.func309.trans (congrArg some (by kernel_rfl))
 f283:=Tryz.func270.trans (congrArg some (by kernel_rfl))
 f284:=Tryz.func271.trans (congrArg some (by kernel_rfl))
 f285:=Tryz.func272.trans (congrArg some (by kernel_rfl))
 f286:=Tryz.func273.trans (congrArg some (by kernel_rfl))
 f287:=Tryz.func315.trans (congrArg some (by kernel_rfl))
 f316:=Tryz.func316.trans (congrArg some (by kernel_rfl))
 f317:=Tryz.func300.trans (congrArg some (by kernel_rfl))
 f318:=Tryz.func301.trans (congrArg some (by kernel_rfl))
 f319:=Tryz.func302.trans (congrArg some (by kernel_rfl))
 f320:=Tryz.func303.trans (congrArg some (by kernel_rfl))
 f321:=Tryz.func320.trans (congrArg some (by kernel_rfl))
 f322:=Tryz.func321.trans (congrArg some (by kernel_rfl))
 f337:=Tryz.func312.trans (congrArg some (by kernel_rfl))
 f338:=Tryz.func313.trans (congrArg some (by kernel_rfl))
 t0:=Tryz.underlying0
 a0:=Tryz.isAgg0
 z0:=Tryz.sizeOf0
 v0:=Tryz.zeroValue0
 t2:=Tryz.underlying2
 a2:=Tryz.isAgg2
 z2:=Tryz.sizeOf2
 v2:=Tryz.zeroValue2
 t3:=Tryz.underlying3
 a3:=Tryz.isAgg3
 z3:=Tryz.sizeOf3
 v3:=Tryz.zeroValue3
 t4:=Tryz.underlying4
 a4:=Tryz.isAgg4
 z4:=Tryz.sizeOf4
 v4:=Tryz.zeroValue4
 t5:=Tryz.underlying5
 a5:=Tryz.isAgg5
 z5:=Tryz.sizeOf5
 v5:=Tryz.zeroValue5
 t9:=Tryz.underlying9
 a9:=Tryz.isAgg9
 z9:=Tryz.sizeOf9
 v9:=Tryz.zeroValue9
 t20:=Tryz.underlying20
 a20:=Tryz.isAgg20
 z20:=Tryz.sizeOf20
 v20:=Tryz.zeroValue20
 t21:=Tryz.underlying21
 a21:=Tryz.isAgg21
 z21:=Tryz.sizeOf21
 v21:=Tryz.zeroValue21
 t37:=Tryz.underlying74
 a37:=Tryz.isAgg74
 z37:=Tryz.sizeOf74
 v37:=Tryz.zeroValue74
 t46:=Tryz.underlying129
 a46:=Tryz.isAgg129
 z46:=Tryz.sizeOf129
 v46:=Tryz.zeroValue129
 t51:=Tryz.underlying166
 a51:=Tryz.isAgg166
 z51:=Tryz.sizeOf166
 v51:=Tryz.zeroValue166
 t53:=Tryz.underlying169
 a53:=Tryz.isAgg169
 z53:=Tryz.sizeOf169
 v53:=Tryz.zeroValue169
 t75:=Tryz.underlying84
 a75:=Tryz.isAgg84
 z75:=Tryz.sizeOf84
 v75:=Tryz.zeroValue84
 t76:=Tryz.underlying85
 a76:=Tryz.isAgg85
 z76:=Tryz.sizeOf85
 v76:=Tryz.zeroValue85
 t85:=Tryz.underlying280
 a85:=Tryz.isAgg280
 z85:=Tryz.sizeOf280
 v85:=Tryz.zeroValue280
 t127:=Tryz.underlying134
 a127:=Tryz.isAgg134
 z127:=Tryz.sizeOf134
 v127:=Tryz.zeroValue134
 t143:=Tryz.underlying297
 a143:=Tryz.isAgg297
 z143:=Tryz.sizeOf297
 v143:=Tryz.zeroValue297
 t145:=Tryz.underlying299
 a145:=Tryz.isAgg299
 z145:=Tryz.sizeOf299
 v145:=Tryz.zeroValue299
 t167:=Tryz.underlying279
 a167:=Tryz.isAgg279
 z167:=Tryz.sizeOf279
 v167:=Tryz.zeroValue279
 t168:=Tryz.underlying282
 a168:=Tryz.isAgg282
 z168:=Tryz.sizeOf282
 v168:=Tryz.zeroValue282
 t171:=Tryz.underlying261
 a171:=Tryz.isAgg261
 z171:=Tryz.sizeOf261
 v171:=Tryz.zeroValue261
 t173:=Tryz.underlying263
 a173:=Tryz.isAgg263
 z173:=Tryz.sizeOf263
 v173:=Tryz.zeroValue263
 t175:=Tryz.underlying287
 a175:=Tryz.isAgg287
 z175:=Tryz.sizeOf287
 v175:=Tryz.zeroValue287
 t210:=Tryz.underlying290
 a210:=Tryz.isAgg290
 z210:=Tryz.sizeOf290
 v210:=Tryz.zeroValue290
 t212:=Tryz.underlying277
 a212:=Tryz.isAgg277
 z212:=Tryz.sizeOf277
 v212:=Tryz.zeroValue277
 t213:=Tryz.underlying278
 a213:=Tryz.isAgg278
 z213:=Tryz.sizeOf278
 t232:=Tryz.underlying293
 a232:=Tryz.isAgg293
 z232:=Tryz.sizeOf293
 v232:=Tryz.zeroValue293
 t233:=Tryz.underlying294
 a233:=Tryz.isAgg294
 z233:=Tryz.sizeOf294
 v233:=Tryz.zeroValue294
 g15:=by kernel_rfl
 g16:=by kernel_rfl
 g17:=by kernel_rfl
 g18:=by kernel_rfl
 g19:=by kernel_rfl
 t80:=Tryz.underlying87
 a80:=Tryz.isAgg87
 z80:=Tryz.sizeOf87
 v80:=Tryz.zeroValue87
 i0:=by kernel_rfl
 i2:=by kernel_rfl
 i3:=by kernel_rfl
 i4:=by kernel_rfl
 i5:=by kernel_rfl
 i9:=by kernel_rfl
 i20:=by kernel_rfl
 i21:=by kernel_rfl
 i37:=by kernel_rfl
 i46:=by kernel_rfl
 i51:=by kernel_rfl
 i53:=by kernel_rfl
 i75:=by kernel_rfl
 i76:=by kernel_rfl
 i80:=by kernel_rfl
 i85:=by kernel_rfl
 i127:=by kernel_rfl
 i143:=by kernel_rfl
 i145:=by kernel_rfl
 i167:=by kernel_rfl
 i168:=by kernel_rfl
 i171:=by kernel_rfl
 i173:=by kernel_rfl
 i175:=by kernel_rfl
 i210:=by kernel_rfl
 i212:=by kernel_rfl
 i232:=by kernel_rfl
 i233:=by kernel_rfl
 m15:=by kernel_rfl
 m16:=by kernel_rfl
 m17:=by kernel_rfl
 m18:=by kernel_rfl
 m19:=by kernel_rfl
 c0:=by kernel_rfl
 c2:=by kernel_rfl
 c3:=by kernel_rfl
 c4:=by kernel_rfl
 c5:=by kernel_rfl
 c9:=by kernel_rfl
 c20:=by kernel_rfl
 c21:=by kernel_rfl
 c37:=by kernel_rfl
 c46:=by kernel_rfl
 c51:=by kernel_rfl
 c53:=by kernel_rfl
 c75:=by kernel_rfl
 c76:=by kernel_rfl
 c80:=by kernel_rfl
 c85:=by kernel_rfl
 c127:=by kernel_rfl
 c143:=by kernel_rfl
 c145:=by kernel_rfl
 c167:=by kernel_rfl
 c168:=by kernel_rfl
 c171:=by kernel_rfl
 c173:=by kernel_rfl
 c175:=by kernel_rfl
 c210:=by kernel_rfl
 c212:=by kernel_rfl
 c213:=by kernel_rfl
 c232:=by kernel_rfl
 c233:=by kernel_rfl }
open Go.RowKit in
theorem Tryz.strconv_Atoi_err (s:ByteArray)(hl:s.size<=18)(h:Lib.atoi s.data.toList=none)(ev:Value)(w:World)(hv:w.cell? ⟨4,0,none⟩=some ev)(hev:ev = .nilIface\/∃ te pe,ev = .iface te pe) :
  Calls Tryz.prog 248 #[.string s] w fun e w'=>∃ N,e = .returned (.tuple #[.int .i64 0,.iface 282 (.pointer (some ⟨N,0,none⟩))])/\w.heap.size<=N/\w'.heap[N]? = some (.cells #[.string ⟨#[65,116,111,105]⟩,.string s,ev] 290 (0,0))/\Below w.heap.size w w':=Any.strconv_Atoi_err Tryz.laysC172 s hl h ev w hv hev
end Go.Proofs
set_option maxRecDepth 100000
set_option linter.unusedVariables false
set_option linter.unusedSimpArgs false
namespace Go.Proofs.YtbojpfpliibfbaaGreatDoor
open Go Go.Ab
attribute [local irreducible] vc
def bR (T:Nat)(p:PV):Nat->List PV:=fun g=>if g=4 then [.iface T p] else aq g
theorem Pd {T:Nat}{p:PV}{w:World}{imm:Nat->Nat->Prop}(h:bV (bR T p) w imm):bV aq w imm:=by
 have key:∀ g,aq g≠[]->bR T p g=aq g:=by
  intro g hg
  unfold bR
  by_cases h0:g=4
  ·subst h0;exact absurd rfl hg
  ·rw[if_neg h0]
 refine⟨fun g o p hp=>h.1 g o p ?_,fun g hg=>?_⟩
 ·rw[key g (by intro e;rw[e] at hp;simp at hp)];exact hp
 ·rw[<- key g hg]
  exact h.2 g (by rw[key g hg];exact hg)
theorem toE {T:Nat}{p:PV}{f:Nat}{args:List PV}{r:PV}(h:ag Tryz.prog aq f args r):ag Tryz.prog (bR T p) f args r:=
 ⟨h.1,fun w imm vals hG=>h.2 w imm vals (Pd hG)⟩
def En:PV:=.iface 282 (.eptr [.str [65,116,111,105]] 0 0)
def MM:Option Int->PV
 | some n=>.tup [.int .i64 n,.nili]
 | none=>.tup [.int .i64 0,En]
theorem Qu {T:Nat}{p:PV}(s:List UInt8)(hl:s.length<=18):ag Tryz.prog (bR T p) 248 [.str s] (MM (Lib.atoi s)):=by
 refine⟨by kernel_rfl,fun w imm vals hG hlt hsz hargs=>?_⟩
 have hv:=zw hsz
 obtain⟨h1,_⟩:=jM (hargs 0 (.str s) rfl)
 rw[hv,h1]
 have hbl:(⟨s.toArray⟩:ByteArray).size<=18:=by show s.toArray.size<=18;simpa using hl
 have hbd:(⟨s.toArray⟩:ByteArray).data.toList=s:=rfl
 cases ha:Lib.atoi s with
 | some n=>
   refine (Any.strconv_Atoi Tryz.lays172 ⟨s.toArray⟩ n hbl (by rw[hbd];exact ha) w).mono ?_
   rintro e w' ⟨rfl,t,rfl⟩
   have hb:=Lib.bytesWorld_below w (Tryz.lays172_ren.t 5) t
   refine⟨_,imm,rfl,hb,fun _ _ h=>h,fun _ _ h=>.inl h,fun b o h=>Nat.lt_of_lt_of_le (hlt b o h) hb.size,?_⟩
   refine PRel.tup _ _ rfl fun i x hx=>?_
   match i,hx with
   | 0,hx=>cases hx;exact .int _ _
   | 1,hx=>cases hx;exact .nili
   | i+2,hx=>simp at hx
 | none=>
   obtain⟨_,ev,hev,_,hrel⟩:=hG.1 4 0 (.iface T p) rfl
   have hev2:ev = .nilIface\/∃ te pe,ev = .iface te pe:=by cases hrel;exact .inr ⟨_,_,rfl⟩
   refine (Tryz.strconv_Atoi_err ⟨s.toArray⟩ hbl (by rw[hbd];exact ha) ev w hev hev2).mono ?_
   rintro e w' ⟨N,rfl,hN,hcells,hb⟩
   have hNl:N<w'.heap.size:=(Array.getElem?_eq_some_iff.1 hcells).1
   refine⟨_,fun b o=>imm b o\/b=N,rfl,hb,fun _ _ h=>.inl h,fun b o h=>h.elim .inl fun e=>.inr (e▸hN),fun b o h=>h.elim (fun h=>Nat.lt_of_lt_of_le (hlt b o h) hb.size) fun e=>e▸hNl,?_⟩
   refine PRel.tup _ _ rfl fun i x hx=>?_
   match i,hx with
   | 0,hx=>cases hx;exact .int _ _
   | 1,hx=>
     cases hx
     refine .iface _ _ _ ?_
     refine PRel.eptr [.str [65,116,111,105]] N 0 1 1 (fun _ _=>.string ⟨#[65,116,111,105]⟩) 0 0 (by simp) (by unfold maxLen;omega) ?_ ?_ ?_ (by simp)
     ·intro i x hx
      match i,hx with
      | 0,hx=>cases hx;rfl
      | i+1,hx=>simp at hx
     ·intro i x j y hx hy
      match i,hx with
      | 0,hx=>
        cases hx
        match j,hy with
        | 0,hy=>
          refine⟨.inr rfl,?_,rfl⟩
          have:=cell_of_row w' N 0 _ _ _ hcells
          simpa using this
        | j+1,hy=>simp[PV.cells] at hy
      | i+1,hx=>simp at hx
     ·intro i x j y hx hy
      match i,hx with
      | 0,hx=>
        cases hx
        match j,hy with
        | 0,hy=>
          cases hy
          exact PRel.str ⟨#[65,116,111,105]⟩ (by unfold maxLen;decide)
        | j+1,hy=>simp[PV.cells] at hy
      | i+1,hx=>simp at hx
   | i+2,hx=>simp at hx
theorem tN (s:List UInt8)(c:Int):ag Tryz.prog aq 250 [.str s,.int .u8 c] (.int .i64 (nq c.toNat.toUInt8 s 0)):=by
 generalize hq:nq c.toNat.toUInt8 s 0=q
 refine ag.intro M9 (by simp[TF]) ?_
 simp(disch:=try exact dI) only[TF,nY,oC,hq,push_cast,seval]
theorem LV (s:List UInt8)(c:Int):ag Tryz.prog aq 208 [.str s,.int .u8 c] (.int .i64 (nq c.toNat.toUInt8 s 0)):=by
 have h22:=tN s c
 generalize nq c.toNat.toUInt8 s 0=q at *
 refine ag.intro Tf.2 (by simp[Tf]) ?_
 simp(disch:=try exact dI) only[Tf,push_cast,seval]
 refine ab.pure h22 rfl ?_
 exact qsZ
def mt:List UInt8->Option (List UInt8×List UInt8)
 | []=>none
 | c::r=>if c=46 then some ([],r) else (mt r).map fun q=>(c::q.1,q.2)
theorem pM:∀ {s:List UInt8} (k:Nat),mt s=none->nq 46 s k = -1
 | [],k,_=>rfl
 | c::r,k,h=>by
   rw[mt] at h
   split at h
   ·cases h
   ·rename_i hc
    rw[nq,if_neg (by simpa using hc)]
    exact pM (k+1) (by simpa using h)
theorem kR:∀ {s a b:List UInt8} (k:Nat),mt s=some (a,b)->nq 46 s k=(k:Int)+a.length/\s=a++46::b
 | [],a,b,k,h=>by simp[mt] at h
 | c::r,a,b,k,h=>by
   rw[mt] at h
   split at h
   ·rename_i hc
    cases h
    subst hc
    rw[nq,if_pos (by simp)]
    exact⟨by simp,rfl⟩
   ·rename_i hc
    simp only[Option.map_eq_some_iff] at h
    obtain⟨q,hq,he⟩:=h
    cases he
    have ih:=kR (k+1) hq
    rw[nq,if_neg (by simpa using hc),ih.1]
    refine⟨by simp;omega,?_⟩
    conv=>lhs;rw[ih.2]
    rfl
def No (s:List UInt8):PV:=
 match mt s with
 | some (a,b)=>.tup [.str a,.str b,.bool true]
 | none=>.tup [.str s,.str [],.bool false]
theorem Hl (s:List UInt8):ag Tryz.prog aq 304 [.str s,.str [46]] (.int .i64 (nq 46 s 0)):=by
 by_cases h:s=[46]
 ·subst h
  refine ag.intro Nr.2 (by simp[Nr]) ?_
  rw[show nq 46 [46] 0=0 from rfl]
  simp(disch:=try exact dI) only[Nr,push_cast,seval]
 ·have hi:=tN s 46
  rw[show (46:Int).toNat.toUInt8=46 from rfl] at hi
  have hb:decide ([46]=s)=false:=decide_eq_false fun e=>h e.symm
  generalize nq 46 s 0=q at *
  refine ag.intro Nr.2 (by simp[Nr]) ?_
  have e46:(((46:UInt8).toNat:Nat):Int)=46:=rfl
  simp(disch:=try exact dI) only[Nr,hb,push_cast,seval]
  refine ab.pure hi rfl ?_
  exact qsZ
theorem PK (s:List UInt8)(hl:s.length<=100000):ag Tryz.prog aq 277 [.str s,.str [46]] (No s):=by
 have hi:=Hl s
 unfold No
 cases hc:mt s with
 | none=>
   rw[pM 0 hc] at hi
   refine ag.intro Nt.2 (by simp[Nt]) ?_
   simp(disch:=try exact dI) only[Nt,push_cast,seval]
   refine ab.pure hi rfl ?_
   exact qsZ
 | some q=>
   obtain⟨a,b⟩:=q
   obtain⟨h1,h2⟩:=kR 0 hc
   rw[h1] at hi
   have hsl:s.length=a.length+(b.length+1):=by rw[h2];simp
   have t1:s.take a.length=a:=by rw[h2];simp
   have t2:s.drop (a.length+1)=b:=by rw[h2];simp
   have ez:((0:Nat):Int)+(a.length:Int)=(a.length:Int):=by omega
   rw[ez] at hi
   have e1:((a.length:Int)).toNat=a.length:=by omega
   have e2:((a.length:Int)+1).toNat=a.length+1:=by omega
   refine ag.intro Nt.2 (by simp[Nt]) ?_
   simp(disch:=try exact dI) only[Nt,push_cast,seval]
   refine ab.pure hi rfl ?_
   simp(disch:=try exact dI) only[t1,t2,e1,e2,List.take_length,push_cast,seval]
theorem So (s:List UInt8)(hl:s.length<=100000):ag Tryz.prog aq 247 [.str s,.str [46]] (No s):=by
 have h:=PK s hl
 unfold No at h ⊢
 cases hc:mt s with
 | none=>
   rw[hc] at h
   refine ag.intro Nu.2 (by simp[Nu]) ?_
   simp(disch:=try exact dI) only[Nu,push_cast,seval]
   refine ab.pure h rfl ?_
   exact qsZ
 | some q=>
   obtain⟨a,b⟩:=q
   rw[hc] at h
   refine ag.intro Nu.2 (by simp[Nu]) ?_
   simp(disch:=try exact dI) only[Nu,push_cast,seval]
   refine ab.pure h rfl ?_
   exact qsZ
end Go.Proofs.YtbojpfpliibfbaaGreatDoor
