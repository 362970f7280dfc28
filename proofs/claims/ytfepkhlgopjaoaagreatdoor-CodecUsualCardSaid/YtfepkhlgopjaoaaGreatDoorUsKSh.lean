/- A part of the proof for CodecUsualCardSaid. -/
import Derived.Shelf.Strings.OnBuilder
import Derived.Shelf.Small.Strs
import Derived.Shelf.LaysM
import Derived.Shelf.Strconv.Itoa3
import Derived.Shelf.Strings.Repeat
import Derived.Shelf.Strings.Builder1
import Derived.Test.YtfepkhlgopjaoaaGreatDoorProg
import Derived.Shelf.Unicode.ValidAny
import Derived.KernelRfl
import Derived.Test.YtfepkhlgopjaoaaGreatDoorUsCore6
set_option linter.unusedVariables false
set_option linter.unusedSimpArgs false
/-
 DERIVED: THE SHELF's CONTRACTS AT THIS DUMP,IN PLAIN WORDS (tools/lay-plain.mjs out of 'TryzC11.lean',which tools/lay-shelf.mjs wrote): THE SAME DECLARATIONS UNDER THE SAME NAMES: 'import','namespace','open','def','theorem' AND NOTHING ELSE: no command of the shelf's: FOR A HAND-IN. Each laying: the table of numbers ('.._ren') and one theorem,a field a fact of the dump's own or the kernel's comparison;each pl: ONE APPLICATION.
-/
namespace Go.Proofs
open Go.Shelf
def Tryz.lays156_ren:Go.Shelf.Ren:=⟨fun | 156=>230 | 165=>131 | 166=>72 | 169=>73 | 240=>132 | 241=>210 | 276=>211 | 277=>305 | n=>n,fun | 31=>25 | 9=>9 | 3=>3 | 4=>4 | 0=>0 | 20=>20 | 72=>116 | 76=>123 | 70=>114 | 37=>105 | 75=>122 | 127=>193 | 164=>255 | 5=>5 | 80=>125 | n=>n,fun | n=>n⟩
theorem Tryz.lays156:Go.Proofs.Lays.n156 Tryz.prog Tryz.lays156_ren:={
 mixed:=by kernel_rfl
 f156:=Tryz.func230.trans (congrArg some (by kernel_rfl))
 f165:=Tryz.func131.trans (congrArg some (by kernel_rfl))
 f166:=Tryz.func72.trans (congrArg some (by kernel_rfl))
 f169:=Tryz.func73.trans (congrArg some (by kernel_rfl))
 f240:=Tryz.func132.trans (congrArg some (by kernel_rfl))
 f241:=Tryz.func210.trans (congrArg some (by kernel_rfl))
 f276:=Tryz.func211.trans (congrArg some (by kernel_rfl))
 f277:=Tryz.func305.trans (congrArg some (by kernel_rfl))
 t0:=Tryz.underlying0
 a0:=Tryz.isAgg0
 z0:=Tryz.sizeOf0
 v0:=Tryz.zeroValue0
 t3:=Tryz.underlying3
 a3:=Tryz.isAgg3
 z3:=Tryz.sizeOf3
 v3:=Tryz.zeroValue3
 t4:=Tryz.underlying4
 a4:=Tryz.isAgg4
 z4:=Tryz.sizeOf4
 v4:=Tryz.zeroValue4
 t9:=Tryz.underlying9
 a9:=Tryz.isAgg9
 z9:=Tryz.sizeOf9
 v9:=Tryz.zeroValue9
 t20:=Tryz.underlying20
 a20:=Tryz.isAgg20
 z20:=Tryz.sizeOf20
 v20:=Tryz.zeroValue20
 t31:=Tryz.underlying25
 a31:=Tryz.isAgg25
 z31:=Tryz.sizeOf25
 v31:=Tryz.zeroValue25
 t37:=Tryz.underlying105
 a37:=Tryz.isAgg105
 z37:=Tryz.sizeOf105
 v37:=Tryz.zeroValue105
 t70:=Tryz.underlying114
 a70:=Tryz.isAgg114
 z70:=Tryz.sizeOf114
 v70:=Tryz.zeroValue114
 t72:=Tryz.underlying116
 a72:=Tryz.isAgg116
 z72:=Tryz.sizeOf116
 v72:=Tryz.zeroValue116
 t75:=Tryz.underlying122
 a75:=Tryz.isAgg122
 z75:=Tryz.sizeOf122
 v75:=Tryz.zeroValue122
 t76:=Tryz.underlying123
 a76:=Tryz.isAgg123
 z76:=Tryz.sizeOf123
 v76:=Tryz.zeroValue123
 t127:=Tryz.underlying193
 a127:=Tryz.isAgg193
 z127:=Tryz.sizeOf193
 v127:=Tryz.zeroValue193
 t164:=Tryz.underlying255
 a164:=Tryz.isAgg255
 z164:=Tryz.sizeOf255
 v164:=Tryz.zeroValue255 }
theorem Tryz.Builder_Extra_156:Builder.Extra Tryz.prog Tryz.lays156_ren:={
 sizeBuilder:=by kernel_rfl
 liesBuilder:=by kernel_rfl
 t5:=Tryz.underlying5
 a5:=Tryz.isAgg5
 z5:=Tryz.sizeOf5
 v5:=Tryz.zeroValue5
 infoByte:=by kernel_rfl
 cellsByte:=by kernel_rfl
 sizeByte:=by kernel_rfl
 neB5:=by decide }
open Go.RowKit in
theorem Tryz.strings_Join_none (a:Option Addr)(c:Nat)(sep:ByteArray)(w:World) :
  Calls Tryz.prog 230 #[.slice a 0 c,.string sep] w fun e w'=>e = .returned (.string ⟨#[]⟩)∧w'=w:=Any.strings_Join_none Tryz.lays156 Tryz.Builder_Extra_156 a c sep w
open Go.RowKit in
theorem Tryz.strings_Join (bk o c:Nat)(xs:List ByteArray)(sep:ByteArray)(w:World)(hcells:∀ (j:Nat) x,xs[j]? = some x→w.cell? ⟨bk,o+j,none⟩=some (.string x))(hbk:bk<w.heap.size)(hN:xs.length≤140737488355328)(hcap:xs.length≤c)(hlen:(Lib.join (xs.map (·.data.toList)) sep.data.toList).length≤140737488355328) :
  Calls Tryz.prog 230 #[.slice (some ⟨bk,o,none⟩) xs.length c,.string sep] w fun e w'=>e = .returned (.string ⟨(Lib.join (xs.map (·.data.toList)) sep.data.toList).toArray⟩)∧Below w.heap.size w w':=Any.strings_Join Tryz.lays156 Tryz.Builder_Extra_156 bk o c xs sep w hcells hbk hN hcap hlen
def Tryz.lays106_ren:Go.Shelf.Ren:=⟨fun | 106=>98 | 213=>178 | 265=>290 | n=>n,fun | 9=>9 | 3=>3 | n=>n,fun | n=>n⟩
theorem Tryz.lays106:Go.Proofs.Lays.n106 Tryz.prog Tryz.lays106_ren:={
 mixed:=by kernel_rfl
 f106:=Tryz.func98.trans (congrArg some (by kernel_rfl))
 f213:=Tryz.func178.trans (congrArg some (by kernel_rfl))
 f265:=Tryz.func290.trans (congrArg some (by kernel_rfl))
 t3:=Tryz.underlying3
 a3:=Tryz.isAgg3
 z3:=Tryz.sizeOf3
 v3:=Tryz.zeroValue3
 t9:=Tryz.underlying9
 a9:=Tryz.isAgg9
 z9:=Tryz.sizeOf9
 v9:=Tryz.zeroValue9 }
open Go.RowKit in
theorem Tryz.strings_Compare (a b:ByteArray)(w:World) :
  Calls Tryz.prog 98 #[.string a,.string b] w fun e w'=>e = .returned (.int .i64 (Lib.compareBytes a.data.toList b.data.toList))∧w'=w:=Any.strings_Compare Tryz.lays106 a b w
def Tryz.laysM171_ren:Go.Shelf.Ren:=⟨fun | 171=>136 | 243=>228 | 246=>308 | 283=>350 | 284=>351 | 285=>352 | 286=>353 | 129=>332 | 317=>381 | 318=>382 | 319=>383 | 320=>384 | 337=>396 | 338=>397 | n=>n,fun | 3=>3 | 9=>9 | 2=>2 | 4=>4 | 171=>341 | 0=>0 | 53=>252 | 37=>105 | 5=>5 | 173=>343 | 212=>364 | 51=>249 | 20=>20 | 213=>365 | 46=>186 | 232=>383 | 233=>384 | n=>n,fun | 17=>3 | 18=>6 | 19=>7 | n=>n⟩
theorem Tryz.laysM171:Go.Proofs.LaysM.n171 Tryz.prog Tryz.laysM171_ren:={
 mixed:=by kernel_rfl
 f129:=Tryz.func332.trans (congrArg some (by kernel_rfl))
 f171:=Tryz.func136.trans (congrArg some (by kernel_rfl))
 f243:=Tryz.func228.trans (congrArg some (by kernel_rfl))
 f246:=Tryz.func308.trans (congrArg some (by kernel_rfl))
 f283:=Tryz.func350.trans (congrArg some (by kernel_rfl))
 f284:=Tryz.func351.trans (congrArg some (by kernel_rfl))
 f285:=Tryz.func352.trans (congrArg some (by kernel_rfl))
 f286:=Tryz.func353.trans (congrArg some (by kernel_rfl))
 f317:=Tryz.func381.trans (congrArg some (by kernel_rfl))
 f318:=Tryz.func382.trans (congrArg some (by kernel_rfl))
 f319:=Tryz.func383.trans (congrArg some (by kernel_rfl))
 f320:=Tryz.func384.trans (congrArg some (by kernel_rfl))
 f337:=Tryz.func396.trans (congrArg some (by kernel_rfl))
 f338:=Tryz.func397.trans (congrArg some (by kernel_rfl))
 t0:=Tryz.underlying0
 a0:=Tryz.isAgg0
 z0:=Tryz.sizeOf0
 v0:=Tryz.zeroValue0
 t2:=Tryz.underlying2
 a2:=Tryz.isAgg2
 z2:=Tryz.sizeOf2
 v2:=Tryz.zeroValue2
 t3:=Tryz.underlying3
 a3:=Tryz.isAgg3
 z3:=Tryz.sizeOf3
 v3:=Tryz.zeroValue3
 t4:=Tryz.underlying4
 a4:=Tryz.isAgg4
 z4:=Tryz.sizeOf4
 v4:=Tryz.zeroValue4
 t5:=Tryz.underlying5
 a5:=Tryz.isAgg5
 z5:=Tryz.sizeOf5
 v5:=Tryz.zeroValue5
 t9:=Tryz.underlying9
 a9:=Tryz.isAgg9
 z9:=Tryz.sizeOf9
 v9:=Tryz.zeroValue9
 t20:=Tryz.underlying20
 a20:=Tryz.isAgg20
 z20:=Tryz.sizeOf20
 v20:=Tryz.zeroValue20
 t37:=Tryz.underlying105
 a37:=Tryz.isAgg105
 z37:=Tryz.sizeOf105
 v37:=Tryz.zeroValue105
 t46:=Tryz.underlying186
 a46:=Tryz.isAgg186
 z46:=Tryz.sizeOf186
 v46:=Tryz.zeroValue186
 t51:=Tryz.underlying249
 a51:=Tryz.isAgg249
 z51:=Tryz.sizeOf249
 v51:=Tryz.zeroValue249
 t53:=Tryz.underlying252
 a53:=Tryz.isAgg252
 z53:=Tryz.sizeOf252
 v53:=Tryz.zeroValue252
 t171:=Tryz.underlying341
 a171:=Tryz.isAgg341
 z171:=Tryz.sizeOf341
 v171:=Tryz.zeroValue341
 t173:=Tryz.underlying343
 a173:=Tryz.isAgg343
 z173:=Tryz.sizeOf343
 v173:=Tryz.zeroValue343
 t212:=Tryz.underlying364
 a212:=Tryz.isAgg364
 z212:=Tryz.sizeOf364
 v212:=Tryz.zeroValue364
 t213:=Tryz.underlying365
 a213:=Tryz.isAgg365
 z213:=Tryz.sizeOf365
 t232:=Tryz.underlying383
 a232:=Tryz.isAgg383
 z232:=Tryz.sizeOf383
 v232:=Tryz.zeroValue383
 t233:=Tryz.underlying384
 a233:=Tryz.isAgg384
 z233:=Tryz.sizeOf384
 v233:=Tryz.zeroValue384
 g17:=by kernel_rfl
 g18:=by kernel_rfl
 g19:=by kernel_rfl
 i0:=by kernel_rfl
 i2:=by kernel_rfl
 i3:=by kernel_rfl
 i4:=by kernel_rfl
 i5:=by kernel_rfl
 i9:=by kernel_rfl
 i20:=by kernel_rfl
 i37:=by kernel_rfl
 i46:=by kernel_rfl
 i51:=by kernel_rfl
 i53:=by kernel_rfl
 i171:=by kernel_rfl
 i173:=by kernel_rfl
 i212:=by kernel_rfl
 i232:=by kernel_rfl
 i233:=by kernel_rfl
 m17:=by kernel_rfl
 m18:=by kernel_rfl
 m19:=by kernel_rfl }
open Go.RowKit Go.Sort Go.Lib in
theorem Tryz.strconv_Itoa (n:Int)(h0:-9223372036854775808≤n)(h1:n≤9223372036854775807)(w:World)(htab:Lib.TabIs Tryz.prog w "internal/strconv.uint64pow10" .u64 Lib.pow10Tab) :
  Calls Tryz.prog 136 #[.int .i64 n] w fun e w'=>e = .returned (.string ⟨(Lib.itoa n).toArray⟩)∧∃ k os,w'=grow (w.drewN k) os:=Any.strconv_Itoa Tryz.laysM171 n h0 h1 w htab
def Tryz.lays105_ren:Go.Shelf.Ren:=⟨fun | 105=>71 | 212=>129 | 99=>130 | 165=>131 | 166=>72 | 170=>122 | 169=>73 | 263=>207 | 264=>208 | 206=>209 | 240=>132 | 241=>210 | 276=>211 | 277=>305 | n=>n,fun | 9=>9 | 3=>3 | 4=>4 | 20=>20 | 0=>0 | 46=>186 | 109=>190 | 5=>5 | 72=>116 | 76=>123 | 51=>249 | 146=>250 | 53=>252 | 148=>253 | 70=>114 | 37=>105 | 75=>122 | 127=>193 | 164=>255 | 80=>125 | n=>n,fun | n=>n⟩
theorem Tryz.lays105:Go.Proofs.Lays.n105 Tryz.prog Tryz.lays105_ren:={
 mixed:=by kernel_rfl
 f99:=Tryz.func130.trans (congrArg some (by kernel_rfl))
 f105:=Tryz.func71.trans (congrArg some (by kernel_rfl))
 f165:=Tryz.func131.trans (congrArg some (by kernel_rfl))
 f166:=Tryz.func72.trans (congrArg some (by kernel_rfl))
 f169:=Tryz.func73.trans (congrArg some (by kernel_rfl))
 f170:=Tryz.func122.trans (congrArg some (by kernel_rfl))
 f206:=Tryz.func209.trans (congrArg some (by kernel_rfl))
 f212:=Tryz.func129.trans (congrArg some (by kernel_rfl))
 f240:=Tryz.func132.trans (congrArg some (by kernel_rfl))
 f241:=Tryz.func210.trans (congrArg some (by kernel_rfl))
 f263:=Tryz.func207.trans (congrArg some (by kernel_rfl))
 f264:=Tryz.func208.trans (congrArg some (by kernel_rfl))
 f276:=Tryz.func211.trans (congrArg some (by kernel_rfl))
 f277:=Tryz.func305.trans (congrArg some (by kernel_rfl))
 t0:=Tryz.underlying0
 a0:=Tryz.isAgg0
 z0:=Tryz.sizeOf0
 v0:=Tryz.zeroValue0
 t3:=Tryz.underlying3
 a3:=Tryz.isAgg3
 z3:=Tryz.sizeOf3
 v3:=Tryz.zeroValue3
 t4:=Tryz.underlying4
 a4:=Tryz.isAgg4
 z4:=Tryz.sizeOf4
 v4:=Tryz.zeroValue4
 t5:=Tryz.underlying5
 a5:=Tryz.isAgg5
 z5:=Tryz.sizeOf5
 v5:=Tryz.zeroValue5
 t9:=Tryz.underlying9
 a9:=Tryz.isAgg9
 z9:=Tryz.sizeOf9
 v9:=Tryz.zeroValue9
 t20:=Tryz.underlying20
 a20:=Tryz.isAgg20
 z20:=Tryz.sizeOf20
 v20:=Tryz.zeroValue20
 t37:=Tryz.underlying105
 a37:=Tryz.isAgg105
 z37:=Tryz.sizeOf105
 v37:=Tryz.zeroValue105
 t46:=Tryz.underlying186
 a46:=Tryz.isAgg186
 z46:=Tryz.sizeOf186
 v46:=Tryz.zeroValue186
 t51:=Tryz.underlying249
 a51:=Tryz.isAgg249
 z51:=Tryz.sizeOf249
 v51:=Tryz.zeroValue249
 t53:=Tryz.underlying252
 a53:=Tryz.isAgg252
 z53:=Tryz.sizeOf252
 v53:=Tryz.zeroValue252
 t70:=Tryz.underlying114
 a70:=Tryz.isAgg114
 z70:=Tryz.sizeOf114
 v70:=Tryz.zeroValue114
 t72:=Tryz.underlying116
 a72:=Tryz.isAgg116
 z72:=Tryz.sizeOf116
 v72:=Tryz.zeroValue116
 t75:=Tryz.underlying122
 a75:=Tryz.isAgg122
 z75:=Tryz.sizeOf122
 v75:=Tryz.zeroValue122
 t76:=Tryz.underlying123
 a76:=Tryz.isAgg123
 z76:=Tryz.sizeOf123
 v76:=Tryz.zeroValue123
 t109:=Tryz.underlying190
 a109:=Tryz.isAgg190
 z109:=Tryz.sizeOf190
 v109:=Tryz.zeroValue190
 t127:=Tryz.underlying193
 a127:=Tryz.isAgg193
 z127:=Tryz.sizeOf193
 v127:=Tryz.zeroValue193
 t146:=Tryz.underlying250
 a146:=Tryz.isAgg250
 z146:=Tryz.sizeOf250
 v146:=Tryz.zeroValue250
 t148:=Tryz.underlying253
 a148:=Tryz.isAgg253
 z148:=Tryz.sizeOf253
 v148:=Tryz.zeroValue253
 t164:=Tryz.underlying255
 a164:=Tryz.isAgg255
 z164:=Tryz.sizeOf255
 v164:=Tryz.zeroValue255 }
theorem Tryz.Builder_Extra_105:Builder.Extra Tryz.prog Tryz.lays105_ren:={
 sizeBuilder:=by kernel_rfl
 liesBuilder:=by kernel_rfl
 t5:=Tryz.underlying5
 a5:=Tryz.isAgg5
 z5:=Tryz.sizeOf5
 v5:=Tryz.zeroValue5
 infoByte:=by kernel_rfl
 cellsByte:=by kernel_rfl
 sizeByte:=by kernel_rfl
 neB5:=by decide }
open Go.RowKit Go.Lib in
theorem Tryz.strings_Repeat (s:ByteArray)(c:Nat)(w:World)(hc:c≤9223372036854775807)(hlen:s.size*c≤140737488355328) :
  Calls Tryz.prog 71 #[.string s,.int .i64 c] w fun e w'=>e = .returned (.string ⟨(Lib.repeatL s.data.toList c).toArray⟩)∧Below w.heap.size w w':=Any.strings_Repeat Tryz.lays105 Tryz.Builder_Extra_105 s c w hc hlen
def Tryz.lays196_ren:Go.Shelf.Ren:=⟨fun | 196=>219 | 259=>306 | n=>n,fun | 9=>9 | 4=>4 | 3=>3 | 5=>5 | 12=>12 | 119=>311 | 0=>0 | 46=>186 | 139=>314 | 138=>313 | 53=>252 | n=>n,fun | 3=>1 | 4=>2 | n=>n⟩
theorem Tryz.lays196:Go.Proofs.Lays.n196 Tryz.prog Tryz.lays196_ren:={
 mixed:=by kernel_rfl
 f196:=Tryz.func219.trans (congrArg some (by kernel_rfl))
 f259:=Tryz.func306.trans (congrArg some (by kernel_rfl))
 t0:=Tryz.underlying0
 a0:=Tryz.isAgg0
 z0:=Tryz.sizeOf0
 v0:=Tryz.zeroValue0
 t3:=Tryz.underlying3
 a3:=Tryz.isAgg3
 z3:=Tryz.sizeOf3
 v3:=Tryz.zeroValue3
 t4:=Tryz.underlying4
 a4:=Tryz.isAgg4
 z4:=Tryz.sizeOf4
 v4:=Tryz.zeroValue4
 t5:=Tryz.underlying5
 a5:=Tryz.isAgg5
 z5:=Tryz.sizeOf5
 v5:=Tryz.zeroValue5
 t9:=Tryz.underlying9
 a9:=Tryz.isAgg9
 z9:=Tryz.sizeOf9
 v9:=Tryz.zeroValue9
 t12:=Tryz.underlying12
 a12:=Tryz.isAgg12
 z12:=Tryz.sizeOf12
 v12:=Tryz.zeroValue12
 t46:=Tryz.underlying186
 a46:=Tryz.isAgg186
 z46:=Tryz.sizeOf186
 v46:=Tryz.zeroValue186
 t53:=Tryz.underlying252
 a53:=Tryz.isAgg252
 z53:=Tryz.sizeOf252
 v53:=Tryz.zeroValue252
 t119:=Tryz.underlying311
 a119:=Tryz.isAgg311
 z119:=Tryz.sizeOf311
 t138:=Tryz.underlying313
 a138:=Tryz.isAgg313
 z138:=Tryz.sizeOf313
 v138:=Tryz.zeroValue313
 t139:=Tryz.underlying314
 a139:=Tryz.isAgg314
 z139:=Tryz.sizeOf314
 v139:=Tryz.zeroValue314
 g3:=by kernel_rfl
 g4:=by kernel_rfl }
end Go.Proofs
set_option maxRecDepth 100000
namespace Go.Proofs.YtfepkhlgopjaoaaGreatDoor
open Go Go.Ab
def LQ:List PV:=(List.range 256).map fun c=>PV.int .u8 (Lib.firstT c:Nat)
def Io:List PV:=(List.range 32).map fun c=>PV.int .u8 (if c % 2=0 then Lib.accLo (c / 2) else Lib.accHi (c / 2):Nat)
def az:Nat→List PV:=fun g=>if g=3 then Lib.pow10Tab.map (PV.int .u64) else if g=1 then LQ else if g=2 then Io else []
theorem wT (n:Int)(h0:-9223372036854775808≤n)(h1:n≤9223372036854775807):ap Tryz.prog az 136 [.int .i64 n] (.str (jG n)):=
 wS (name:= "internal/strconv.uint64pow10") (g:=3) (by kernel_rfl) (by kernel_rfl) rfl (fun n h0 h1 w ht=>Tryz.strconv_Itoa n h0 h1 w ht) n h0 h1
theorem sr (a b:List UInt8):ap Tryz.prog az 98 [.str a,.str b] (.int .i64 (Lib.compareBytes a b)):=
 lM (by kernel_rfl) (fun a b w=>Tryz.strings_Compare a b w) a b
theorem GA (l:List (List UInt8))(sep:List UInt8)(hN:l.length≤140737488355328)(hlen:(fS sep l).length≤140737488355328):ap Tryz.prog az 230 [.list (l.map .str),.str sep] (.str (fS sep l)):=
 wR (by kernel_rfl) (fun a c sep w=>Tryz.strings_Join_none a c sep w) (fun bk o c xs sep w h1 h2 h3 h4 h5=>Tryz.strings_Join bk o c xs sep w h1 h2 h3 h4 h5) l sep hN hlen
theorem kv (a:List UInt8)(n:Int)(h0:0≤n)(h1:n≤9223372036854775807)(h2:a.length*n.toNat≤140737488355328):ap Tryz.prog az 71 [.str a,.int .i64 n] (.str (Lib.repeatL a n.toNat)):=by
 refine bl (by kernel_rfl) fun w imm vals hGl hsz hargs=>?_
 have hv:=tI hsz
 obtain⟨ha,_⟩:=gw (hargs 0 (.str a) rfl)
 have hn:=hargs 1 (.int .i64 n) rfl
 rw[hv,ha]
 generalize vals.getD 1 Go.undef=u at hn
 cases hn
 have hnn:n=((n.toNat:Nat):Int):=by omega
 have:=Tryz.strings_Repeat ⟨a.toArray⟩ n.toNat w (by omega) (by simpa[ByteArray.size] using h2)
 rw[← hnn] at this
 refine this.mono ?_
 rintro e w' ⟨rfl,hb⟩
 exact⟨_,rfl,hb,bM (by rw[Lib.repeatL_length,Nat.mul_comm];unfold maxLen;omega)⟩
theorem jS {G:Nat→List PV}{w:World}{imm:Nat→Nat→Prop}(h:bZ G w imm){g o:Nat}{k:IntKind}{n:Int}(hp:(G g)[o]? = some (.int k n)):w.cell? ⟨g,o,none⟩=some (.int k n):=by
 obtain⟨_,v,h1,_,h2⟩:=h.1 g o _ hp
 cases h2;exact h1
theorem tL {w:World}{imm:Nat→Nat→Prop}(h:bZ az w imm):Lib.Utf8Tabs 1 2 w:=by
 refine⟨fun c hc=>?_,fun i hi=>⟨?_,?_⟩⟩
 ·refine jS h ?_
  show LQ[c]? = _
  rw[LQ,List.getElem?_map,List.getElem?_range hc];rfl
 ·refine jS h ?_
  show Io[2*i]? = _
  rw[Io,List.getElem?_map,List.getElem?_range (by omega)]
  simp only[Option.map_some]
  rw[if_pos (by omega),show 2*i / 2=i by omega]
 ·refine jS h ?_
  show Io[2*i+1]? = _
  rw[Io,List.getElem?_map,List.getElem?_range (by omega)]
  simp only[Option.map_some]
  rw[if_neg (by omega),show (2*i+1) / 2=i by omega]
theorem dX (s:List UInt8):ap Tryz.prog az 219 [.str s] (.bool (Lib.validD s)):=by
 refine bl (by kernel_rfl) fun w imm vals hGl hsz hargs=>?_
 have hv:=DJ hsz
 have h2:=hargs 0 (.str s) rfl
 generalize vals.getD 0 Go.undef=x at h2 hv
 cases h2 with
 | str s hs=>
   rw[hv]
   refine (Any.utf8_ValidString Tryz.lays196 s w (by unfold maxLen at hs;omega) (tL hGl)).mono ?_
   rintro e w' ⟨rfl,hb⟩
   exact⟨_,rfl,hb,.bool _⟩
end Go.Proofs.YtfepkhlgopjaoaaGreatDoor
namespace Go.Proofs.YtfepkhlgopjaoaaGreatDoor
open Go Go.Ab
attribute [local irreducible] vc
theorem dI {P:Prop}(h:P:=by first | exact Ha | (unfold Chk;decide +kernel) | omega | exact Kn (by with_unfolding_all rfl) | (simp[ag]<;>omega) | fail):P:=h
theorem qsZ{P:Prop}(h:P:=by simp(maxSteps:=9^7) (disch:=try exact dI) only[push_cast,seval]):P:=h
theorem Cs {t:TypeId}{p:PV}{k:IntKind}(h:HasT Tryz.prog t p)(hu:Tryz.prog.underlying t=some (.int k)):∃ n:Int,p = .int k n∧(Lit.int k n).wf=true:=by
 cases h with
 | int _ k' n hk hw=>rw[hu] at hk;cases hk;exact⟨n,rfl,hw⟩
 | bool _ b hb=>rw[hu] at hb;cases hb
 | str _ s hb=>rw[hu] at hb;cases hb
 | list _ e l hb=>rw[hu] at hb;cases hb
 | agg _ fs cs hb=>rw[hu] at hb;cases hb
 | arr _ e n cs hb=>rw[hu] at hb;cases hb
end Go.Proofs.YtfepkhlgopjaoaaGreatDoor
