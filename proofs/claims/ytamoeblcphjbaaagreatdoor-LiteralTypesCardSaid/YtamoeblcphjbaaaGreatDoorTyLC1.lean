/- A part. -/
import Derived.Shelf.Strings.OnBuilder
import Derived.Shelf.Small.Strs
import Derived.Shelf.LaysM
import Derived.Shelf.Strconv.Itoa3
import Derived.Shelf.Strings.Repeat
import Derived.Test.YtamoeblcphjbaaaGreatDoorProg
import Derived.Shelf.Unicode.ValidAny
import Derived.KernelRfl
import Derived.Lib.TrailingZeros
import Derived.Test.YtamoeblcphjbaaaGreatDoorTyCore6
set_option linter.unusedVariables false
set_option linter.unusedSimpArgs false
open List renaming range->Xq,getElem?_map->WW
namespace Go.Ab
open Go
def j4 (y:Int):Bool:=decide (y % 4=0)&&(!decide (y % 100=0)||decide (y % 400=0))
def mdI (y m:Int):Int:=if m=2 then (if j4 y=true then 29 else 28) else if m=4\/m=6\/m=9\/m=11 then 30 else 31
def fe (y:Int):Int:=365*(y - 1)+(y - 1) / 4 - (y - 1) / 100+(y - 1) / 400
def eJ (y:Int):Nat->Int
 | 0=>0
 | k+1=>eJ y k+mdI y (k+1:Nat)
theorem eS (y m:Int):28<=mdI y m/\mdI y m<=31:=by
 unfold mdI;split
 ·split<;>omega
 ·split<;>omega
theorem wU (y:Int):j4 y=true↔y % 4=0/\(¬ y % 100=0\/y % 400=0):=by simp[j4]
theorem qn (y:Int):fe (y+1)=fe y+365+(if j4 y=true then 1 else 0):=by
 have h:y+1 - 1=y:=by omega
 unfold fe
 rw[h]
 by_cases hl:j4 y=true
 ·rw[if_pos hl]
  have:=(wU y).1 hl
  omega
 ·rw[if_neg hl]
  have:¬ (y % 4=0/\(¬ y % 100=0\/y % 400=0)):=fun h=>hl ((wU y).2 h)
  omega
theorem x8:∀ (k:Nat) (y:Int),fe y+365*k<=fe (y+k)
 | 0,y=>by simp
 | k+1,y=>by
   have h1:=x8 k y
   have h2:=qn (y+k)
   have e:y+((k+1:Nat):Int)=y+k+1:=by omega
   rw[e,h2]
   have:(0:Int)<=if j4 (y+k)=true then 1 else 0:=by split<;>omega
   omega
theorem SH {y z:Int}(h:y<z):fe (y+1)<=fe z:=by
 have:=x8 (z - (y+1)).toNat (y+1)
 have e:y+1+((z - (y+1)).toNat:Int)=z:=by omega
 rw[e] at this
 omega
theorem KV (y:Int):eJ y 12=365+(if j4 y=true then 1 else 0):=by
 have e (k:Nat):eJ y (k+1)=eJ y k+mdI y (k+1:Nat):=rfl
 have z:eJ y 0=0:=rfl
 rw[e 11,e 10,e 9,e 8,e 7,e 6,e 5,e 4,e 3,e 2,e 1,e 0,z]
 by_cases hl:j4 y=true<;>simp[mdI,hl]
theorem dJ (y:Int):∀ (k j:Nat),eJ y j+28*k<=eJ y (j+k)
 | 0,j=>by simp
 | k+1,j=>by
   have h1:=dJ y k j
   have h2:=eS y ((j+k:Nat)+1:Nat)
   have e:eJ y (j+(k+1))=eJ y (j+k)+mdI y (j+k+1:Nat):=rfl
   rw[e]
   omega
structure DateOk (y:Int)(m:Nat)(d:Int):Prop where
 y1:1<=y
 y2:y<=9999
 m1:1<=m
 m2:m<=12
 d1:1<=d
 d2:d<=mdI y m
def kh (y:Int)(m:Nat)(d:Int):Int:=fe y+eJ y (m - 1)+d - 1
theorem sx {y:Int}{m:Nat}{d:Int}(h:DateOk y m d):fe y<=kh y m d/\kh y m d<fe (y+1):=by
 obtain⟨h1,h2,h3,h4,h5,h6⟩:=h
 have hs0:=dJ y (m - 1) 0
 have z:eJ y 0=0:=rfl
 simp only[Nat.zero_add] at hs0
 have hs1:eJ y m=eJ y (m - 1)+mdI y m:=by
  obtain⟨k,rfl⟩:∃ k,m=k+1:=⟨m - 1,by omega⟩
  rfl
 have hs2:=dJ y (12 - m) m
 rw[show m+(12 - m)=12 by omega,KV] at hs2
 have hb:=qn y
 unfold kh
 omega
theorem jE {y:Int}(h1:1<=y)(h2:y<=10000):0<=fe y/\fe y<=3652059:=by
 unfold fe;omega
theorem gI {y:Int}{m:Nat}{d:Int}(h:DateOk y m d):0<=kh y m d/\kh y m d<=3652058:=by
 have:=sx h
 have h1:=jE h.y1 (by have:=h.y2;omega)
 have h2:=jE (y:=y+1) (by have:=h.y1;omega) (by have:=h.y2;omega)
 omega
end Go.Ab
/-
 DERIVED: THE SHELF's CONTRACTS AT THIS DUMP,IN PLAIN WORDS (tools/lay-plain.mjs out of 'TryzC7.lean',which tools/lay-shelf.mjs wrote): THE SAME DECLARATIONS UNDER THE SAME NAMES: 'import','namespace','open','def','theorem' AND NOTHING ELSE: no command of the shelf's: FOR A HAND-IN. Each laying: the table of numbers ('.._ren') and one theorem,a field a fact of the dump's own or the kernel's comparison;each ly: ONE APPLICATION.
-/
namespace Go.Proofs
open Go.Shelf
def Tryz.lays156_ren:Go.Shelf.Ren:=⟨fun | 156=>141 | 165=>152 | 166=>50 | 169=>52 | 240=>107 | 241=>204 | 276=>175 | 277=>233 | n=>n,fun | 31=>42 | 9=>9 | 3=>3 | 4=>4 | 0=>0 | 20=>20 | 72=>83 | 76=>87 | 70=>81 | 37=>37 | 75=>85 | 127=>131 | 164=>178 | 5=>5 | 80=>90 | n=>n,fun | n=>n⟩
theorem Wv:Go.Proofs.Lays.n156 Tryz.prog Tryz.lays156_ren:={
 mixed:=by kernel_rfl
 f156:=Tryz.func141.trans (congrArg some (by kernel_rfl))
 f165:=Tryz.func152.trans (congrArg some (by kernel_rfl))
 f166:=Tryz.func50.trans (congrArg some (by kernel_rfl))
 f169:=Tryz.func52.trans (congrArg some (by kernel_rfl))
 f240:=Tryz.func107.trans (congrArg some (by kernel_rfl))
 f241:=Tryz.func204.trans (congrArg some (by kernel_rfl))
 f276:=Tryz.func175.trans (congrArg some (by kernel_rfl))
 f277:=Tryz.func233.trans (congrArg some (by kernel_rfl))
 t0:=Tryz.underlying0
 a0:=Tryz.isAgg0
 z0:=Tryz.sizeOf0
 v0:=Tryz.zeroValue0
 t3:=Tryz.underlying3
 a3:=Tryz.isAgg3
 z3:=Tryz.sizeOf3
 v3:=Tryz.zeroValue3
 t4:=Tryz.underlying4
 a4:=Tryz.isAgg4
 z4:=Tryz.sizeOf4
 v4:=Tryz.zeroValue4
 t9:=Tryz.underlying9
 a9:=Tryz.isAgg9
 z9:=Tryz.sizeOf9
 v9:=Tryz.zeroValue9
 t20:=Tryz.underlying20
 a20:=Tryz.isAgg20
 z20:=Tryz.sizeOf20
 v20:=Tryz.zeroValue20
 t31:=Tryz.underlying42
 a31:=Tryz.isAgg42
 z31:=Tryz.sizeOf42
 v31:=Tryz.zeroValue42
 t37:=Tryz.underlying37
 a37:=Tryz.isAgg37
 z37:=Tryz.sizeOf37
 v37:=Tryz.zeroValue37
 t70:=Tryz.underlying81
 a70:=Tryz.isAgg81
 z70:=Tryz.sizeOf81
 v70:=Tryz.zeroValue81
 t72:=Tryz.underlying83
 a72:=Tryz.isAgg83
 z72:=Tryz.sizeOf83
 v72:=Tryz.zeroValue83
 t75:=Tryz.underlying85
 a75:=Tryz.isAgg85
 z75:=Tryz.sizeOf85
 v75:=Tryz.zeroValue85
 t76:=Tryz.underlying87
 a76:=Tryz.isAgg87
 z76:=Tryz.sizeOf87
 v76:=Tryz.zeroValue87
 t127:=Tryz.underlying131
 a127:=Tryz.isAgg131
 z127:=Tryz.sizeOf131
 v127:=Tryz.zeroValue131
 t164:=Tryz.underlying178
 a164:=Tryz.isAgg178
 z164:=Tryz.sizeOf178
 v164:=Tryz.zeroValue178 }
theorem Wu:Builder.Extra Tryz.prog Tryz.lays156_ren:={
 sizeBuilder:=by kernel_rfl
 liesBuilder:=by kernel_rfl
 t5:=Tryz.underlying5
 a5:=Tryz.isAgg5
 z5:=Tryz.sizeOf5
 v5:=Tryz.zeroValue5
 infoByte:=by kernel_rfl
 cellsByte:=by kernel_rfl
 sizeByte:=by kernel_rfl
 neB5:=by decide }
open Go.RowKit in
theorem Tryz.strings_Join_none (a:Option Addr)(c:Nat)(sep:ByteArray)(w:World) :
  Calls Tryz.prog 141 #[.slice a 0 c,.string sep] w fun e w'=>e = .returned (.string ⟨#[]⟩)/\w'=w:=Any.strings_Join_none Wv Wu a c sep w
open Go.RowKit in
theorem Tryz.strings_Join (bk o c:Nat)(xs:List ByteArray)(sep:ByteArray)(w:World)(hcells:∀ (j:Nat) x,xs[j]? = some x->w.cell? ⟨bk,o+j,none⟩=some (.string x))(hbk:bk<w.heap.size)(hN:xs.length<=140737488355328)(hcap:xs.length<=c)(hlen:(Lib.join (xs.map (·.data.toList)) sep.data.toList).length<=140737488355328) :
  Calls Tryz.prog 141 #[.slice (some ⟨bk,o,none⟩) xs.length c,.string sep] w fun e w'=>e = .returned (.string ⟨(Lib.join (xs.map (·.data.toList)) sep.data.toList).toArray⟩)/\Below w.heap.size w w':=Any.strings_Join Wv Wu bk o c xs sep w hcells hbk hN hcap hlen
def Tryz.lays106_ren:Go.Shelf.Ren:=⟨fun | 106=>103 | 213=>174 | 265=>213 | n=>n,fun | 9=>9 | 3=>3 | n=>n,fun | n=>n⟩
theorem Tryz.lays106:Go.Proofs.Lays.n106 Tryz.prog Tryz.lays106_ren:={
 mixed:=by kernel_rfl
 f106:=Tryz.func103.trans (congrArg some (by kernel_rfl))
 f213:=Tryz.func174.trans (congrArg some (by kernel_rfl))
 f265:=Tryz.func213.trans (congrArg some (by kernel_rfl))
 t3:=Tryz.underlying3
 a3:=Tryz.isAgg3
 z3:=Tryz.sizeOf3
 v3:=Tryz.zeroValue3
 t9:=Tryz.underlying9
 a9:=Tryz.isAgg9
 z9:=Tryz.sizeOf9
 v9:=Tryz.zeroValue9 }
open Go.RowKit in
theorem Wz (a b:ByteArray)(w:World) :
  Calls Tryz.prog 103 #[.string a,.string b] w fun e w'=>e = .returned (.int .i64 (Lib.compareBytes a.data.toList b.data.toList))/\w'=w:=Any.strings_Compare Tryz.lays106 a b w
def Tryz.laysM171_ren:Go.Shelf.Ren:=⟨fun | 171=>66 | 243=>147 | 246=>108 | 283=>176 | 284=>177 | 285=>178 | 286=>179 | 129=>215 | 317=>214 | 318=>216 | 319=>217 | 320=>218 | 337=>246 | 338=>247 | n=>n,fun | 3=>3 | 9=>9 | 2=>2 | 4=>4 | 171=>180 | 0=>0 | 53=>181 | 37=>37 | 5=>5 | 173=>184 | 212=>219 | 51=>206 | 20=>20 | 213=>220 | 46=>163 | 232=>256 | 233=>257 | n=>n,fun | 17=>3 | 18=>4 | 19=>5 | n=>n⟩
theorem Tryz.laysM171:Go.Proofs.LaysM.n171 Tryz.prog Tryz.laysM171_ren:={
 mixed:=by kernel_rfl
 f129:=Tryz.func215.trans (congrArg some (by kernel_rfl))
 f171:=Tryz.func66.trans (congrArg some (by kernel_rfl))
 f243:=Tryz.func147.trans (congrArg some (by kernel_rfl))
 f246:=Tryz.func108.trans (congrArg some (by kernel_rfl))
 f283:=Tryz.func176.trans (congrArg some (by kernel_rfl))
 f284:=Tryz.func177.trans (congrArg some (by kernel_rfl))
 f285:=Tryz.func178.trans (congrArg some (by kernel_rfl))
 f286:=Tryz.func179.trans (congrArg some (by kernel_rfl))
 f317:=Tryz.func214.trans (congrArg some (by kernel_rfl))
 f318:=Tryz.func216.trans (congrArg some (by kernel_rfl))
 f319:=Tryz.func217.trans (congrArg some (by kernel_rfl))
 f320:=Tryz.func218.trans (congrArg some (by kernel_rfl))
 f337:=Tryz.func246.trans (congrArg some (by kernel_rfl))
 f338:=Tryz.func247.trans (congrArg some (by kernel_rfl))
 t0:=Tryz.underlying0
 a0:=Tryz.isAgg0
 z0:=Tryz.sizeOf0
 v0:=Tryz.zeroValue0
 t2:=Tryz.underlying2
 a2:=Tryz.isAgg2
 z2:=Tryz.sizeOf2
 v2:=Tryz.zeroValue2
 t3:=Tryz.underlying3
 a3:=Tryz.isAgg3
 z3:=Tryz.sizeOf3
 v3:=Tryz.zeroValue3
 t4:=Tryz.underlying4
 a4:=Tryz.isAgg4
 z4:=Tryz.sizeOf4
 v4:=Tryz.zeroValue4
 t5:=Tryz.underlying5
 a5:=Tryz.isAgg5
 z5:=Tryz.sizeOf5
 v5:=Tryz.zeroValue5
 t9:=Tryz.underlying9
 a9:=Tryz.isAgg9
 z9:=Tryz.sizeOf9
 v9:=Tryz.zeroValue9
 t20:=Tryz.underlying20
 a20:=Tryz.isAgg20
 z20:=Tryz.sizeOf20
 v20:=Tryz.zeroValue20
 t37:=Tryz.underlying37
 a37:=Tryz.isAgg37
 z37:=Tryz.sizeOf37
 v37:=Tryz.zeroValue37
 t46:=Tryz.underlying163
 a46:=Tryz.isAgg163
 z46:=Tryz.sizeOf163
 v46:=Tryz.zeroValue163
 t51:=Tryz.underlying206
 a51:=Tryz.isAgg206
 z51:=Tryz.sizeOf206
 v51:=Tryz.zeroValue206
 t53:=Tryz.underlying181
 a53:=Tryz.isAgg181
 z53:=Tryz.sizeOf181
 v53:=Tryz.zeroValue181
 t171:=Tryz.underlying180
 a171:=Tryz.isAgg180
 z171:=Tryz.sizeOf180
 v171:=Tryz.zeroValue180
 t173:=Tryz.underlying184
 a173:=Tryz.isAgg184
 z173:=Tryz.sizeOf184
 v173:=Tryz.zeroValue184
 t212:=Tryz.underlying219
 a212:=Tryz.isAgg219
 z212:=Tryz.sizeOf219
 v212:=Tryz.zeroValue219
 t213:=Tryz.underlying220
 a213:=Tryz.isAgg220
 z213:=Tryz.sizeOf220
 t232:=Tryz.underlying256
 a232:=Tryz.isAgg256
 z232:=Tryz.sizeOf256
 v232:=Tryz.zeroValue256
 t233:=Tryz.underlying257
 a233:=Tryz.isAgg257
 z233:=Tryz.sizeOf257
 v233:=Tryz.zeroValue257
 g17:=by kernel_rfl
 g18:=by kernel_rfl
 g19:=by kernel_rfl
 i0:=by kernel_rfl
 i2:=by kernel_rfl
 i3:=by kernel_rfl
 i4:=by kernel_rfl
 i5:=by kernel_rfl
 i9:=by kernel_rfl
 i20:=by kernel_rfl
 i37:=by kernel_rfl
 i46:=by kernel_rfl
 i51:=by kernel_rfl
 i53:=by kernel_rfl
 i171:=by kernel_rfl
 i173:=by kernel_rfl
 i212:=by kernel_rfl
 i232:=by kernel_rfl
 i233:=by kernel_rfl
 m17:=by kernel_rfl
 m18:=by kernel_rfl
 m19:=by kernel_rfl }
open Go.RowKit Go.Sort Go.Lib in
theorem Tryz.strconv_Itoa (n:Int)(h0:-9223372036854775808<=n)(h1:n<=9223372036854775807)(w:World)(htab:Lib.TabIs Tryz.prog w "internal/strconv.uint64pow10" .u64 Lib.pow10Tab) :
  Calls Tryz.prog 66 #[.int .i64 n] w fun e w'=>e = .returned (.string ⟨(Lib.itoa n).toArray⟩)/\∃ k os,w'=grow (w.drewN k) os:=Any.strconv_Itoa Tryz.laysM171 n h0 h1 w htab
def Tryz.lays105_ren:Go.Shelf.Ren:=⟨fun | 105=>88 | 212=>150 | 99=>151 | 165=>152 | 166=>50 | 170=>153 | 169=>52 | 263=>201 | 264=>202 | 206=>203 | 240=>107 | 241=>204 | 276=>175 | 277=>233 | n=>n,fun | 9=>9 | 3=>3 | 4=>4 | 20=>20 | 0=>0 | 46=>163 | 109=>165 | 5=>5 | 72=>83 | 76=>87 | 51=>206 | 146=>207 | 53=>181 | 148=>209 | 70=>81 | 37=>37 | 75=>85 | 127=>131 | 164=>178 | 80=>90 | n=>n,fun | n=>n⟩
theorem Tryz.lays105:Go.Proofs.Lays.n105 Tryz.prog Tryz.lays105_ren:={
 mixed:=by kernel_rfl
 f99:=Tryz.func151.trans (congrArg some (by kernel_rfl))
 f105:=Tryz.func88.trans (congrArg some (by kernel_rfl))
 f165:=Tryz.func152.trans (congrArg some (by kernel_rfl))
 f166:=Tryz.func50.trans (congrArg some (by kernel_rfl))
 f169:=Tryz.func52.trans (congrArg some (by kernel_rfl))
 f170:=Tryz.func153.trans (congrArg some (by kernel_rfl))
 f206:=Tryz.func203.trans (congrArg some (by kernel_rfl))
 f212:=Tryz.func150.trans (congrArg some (by kernel_rfl))
 f240:=Tryz.func107.trans (congrArg some (by kernel_rfl))
 f241:=Tryz.func204.trans (congrArg some (by kernel_rfl))
 f263:=Tryz.func201.trans (congrArg some (by kernel_rfl))
 f264:=Tryz.func202.trans (congrArg some (by kernel_rfl))
 f276:=Tryz.func175.trans (congrArg some (by kernel_rfl))
 f277:=Tryz.func233.trans (congrArg some (by kernel_rfl))
 t0:=Tryz.underlying0
 a0:=Tryz.isAgg0
 z0:=Tryz.sizeOf0
 v0:=Tryz.zeroValue0
 t3:=Tryz.underlying3
 a3:=Tryz.isAgg3
 z3:=Tryz.sizeOf3
 v3:=Tryz.zeroValue3
 t4:=Tryz.underlying4
 a4:=Tryz.isAgg4
 z4:=Tryz.sizeOf4
 v4:=Tryz.zeroValue4
 t5:=Tryz.underlying5
 a5:=Tryz.isAgg5
 z5:=Tryz.sizeOf5
 v5:=Tryz.zeroValue5
 t9:=Tryz.underlying9
 a9:=Tryz.isAgg9
 z9:=Tryz.sizeOf9
 v9:=Tryz.zeroValue9
 t20:=Tryz.underlying20
 a20:=Tryz.isAgg20
 z20:=Tryz.sizeOf20
 v20:=Tryz.zeroValue20
 t37:=Tryz.underlying37
 a37:=Tryz.isAgg37
 z37:=Tryz.sizeOf37
 v37:=Tryz.zeroValue37
 t46:=Tryz.underlying163
 a46:=Tryz.isAgg163
 z46:=Tryz.sizeOf163
 v46:=Tryz.zeroValue163
 t51:=Tryz.underlying206
 a51:=Tryz.isAgg206
 z51:=Tryz.sizeOf206
 v51:=Tryz.zeroValue206
 t53:=Tryz.underlying181
 a53:=Tryz.isAgg181
 z53:=Tryz.sizeOf181
 v53:=Tryz.zeroValue181
 t70:=Tryz.underlying81
 a70:=Tryz.isAgg81
 z70:=Tryz.sizeOf81
 v70:=Tryz.zeroValue81
 t72:=Tryz.underlying83
 a72:=Tryz.isAgg83
 z72:=Tryz.sizeOf83
 v72:=Tryz.zeroValue83
 t75:=Tryz.underlying85
 a75:=Tryz.isAgg85
 z75:=Tryz.sizeOf85
 v75:=Tryz.zeroValue85
 t76:=Tryz.underlying87
 a76:=Tryz.isAgg87
 z76:=Tryz.sizeOf87
 v76:=Tryz.zeroValue87
 t109:=Tryz.underlying165
 a109:=Tryz.isAgg165
 z109:=Tryz.sizeOf165
 v109:=Tryz.zeroValue165
 t127:=Tryz.underlying131
 a127:=Tryz.isAgg131
 z127:=Tryz.sizeOf131
 v127:=Tryz.zeroValue131
 t146:=Tryz.underlying207
 a146:=Tryz.isAgg207
 z146:=Tryz.sizeOf207
 v146:=Tryz.zeroValue207
 t148:=Tryz.underlying209
 a148:=Tryz.isAgg209
 z148:=Tryz.sizeOf209
 v148:=Tryz.zeroValue209
 t164:=Tryz.underlying178
 a164:=Tryz.isAgg178
 z164:=Tryz.sizeOf178
 v164:=Tryz.zeroValue178 }
theorem Tryz.Builder_Extra_105:Builder.Extra Tryz.prog Tryz.lays105_ren:={
 sizeBuilder:=by kernel_rfl
 liesBuilder:=by kernel_rfl
 t5:=Tryz.underlying5
 a5:=Tryz.isAgg5
 z5:=Tryz.sizeOf5
 v5:=Tryz.zeroValue5
 infoByte:=by kernel_rfl
 cellsByte:=by kernel_rfl
 sizeByte:=by kernel_rfl
 neB5:=by decide }
open Go.RowKit Go.Lib in
theorem Tryz.strings_Repeat (s:ByteArray)(c:Nat)(w:World)(hc:c<=9223372036854775807)(hlen:s.size*c<=140737488355328) :
  Calls Tryz.prog 88 #[.string s,.int .i64 c] w fun e w'=>e = .returned (.string ⟨(Lib.repeatL s.data.toList c).toArray⟩)/\Below w.heap.size w w':=Any.strings_Repeat Tryz.lays105 Tryz.Builder_Extra_105 s c w hc hlen
def Tryz.lays196_ren:Go.Shelf.Ren:=⟨fun | 196=>76 | 259=>148 | n=>n,fun | 9=>9 | 4=>4 | 3=>3 | 5=>5 | 12=>12 | 119=>159 | 0=>0 | 46=>163 | 139=>162 | 138=>161 | 53=>181 | n=>n,fun | 3=>0 | 4=>1 | n=>n⟩
theorem Ww:Go.Proofs.Lays.n196 Tryz.prog Tryz.lays196_ren:={
 mixed:=by kernel_rfl
 f196:=Tryz.func76.trans (congrArg some (by kernel_rfl))
 f259:=Tryz.func148.trans (congrArg some (by kernel_rfl))
 t0:=Tryz.underlying0
 a0:=Tryz.isAgg0
 z0:=Tryz.sizeOf0
 v0:=Tryz.zeroValue0
 t3:=Tryz.underlying3
 a3:=Tryz.isAgg3
 z3:=Tryz.sizeOf3
 v3:=Tryz.zeroValue3
 t4:=Tryz.underlying4
 a4:=Tryz.isAgg4
 z4:=Tryz.sizeOf4
 v4:=Tryz.zeroValue4
 t5:=Tryz.underlying5
 a5:=Tryz.isAgg5
 z5:=Tryz.sizeOf5
 v5:=Tryz.zeroValue5
 t9:=Tryz.underlying9
 a9:=Tryz.isAgg9
 z9:=Tryz.sizeOf9
 v9:=Tryz.zeroValue9
 t12:=Tryz.underlying12
 a12:=Tryz.isAgg12
 z12:=Tryz.sizeOf12
 v12:=Tryz.zeroValue12
 t46:=Tryz.underlying163
 a46:=Tryz.isAgg163
 z46:=Tryz.sizeOf163
 v46:=Tryz.zeroValue163
 t53:=Tryz.underlying181
 a53:=Tryz.isAgg181
 z53:=Tryz.sizeOf181
 v53:=Tryz.zeroValue181
 t119:=Tryz.underlying159
 a119:=Tryz.isAgg159
 z119:=Tryz.sizeOf159
 t138:=Tryz.underlying161
 a138:=Tryz.isAgg161
 z138:=Tryz.sizeOf161
 v138:=Tryz.zeroValue161
 t139:=Tryz.underlying162
 a139:=Tryz.isAgg162
 z139:=Tryz.sizeOf162
 v139:=Tryz.zeroValue162
 g3:=by kernel_rfl
 g4:=by kernel_rfl }
end Go.Proofs
set_option maxRecDepth 100000
namespace Go.Proofs.YtamoeblcphjbaaaGreatDoor
open Go Go.Ab
def Tb:List PV:=(Xq 256).map fun c=>PV.int .u8 (Lib.firstT c:Nat)
def PH:List PV:=(Xq 32).map fun c=>PV.int .u8 (if c % 2=0 then Lib.accLo (c / 2) else Lib.accHi (c / 2):Nat)
def aC:Nat->List PV:=fun g=>if g=3 then Lib.pow10Tab.map (PV.int .u64) else if g=0 then Tb else if g=1 then PH else if g=5 then Lib.deBruijn64tab.map (fun n:Nat=>PV.int .u8 (n:Int)) else []
theorem eF (n:Int)(h0:-9223372036854775808<=n)(h1:n<=9223372036854775807):am Tryz.prog aC 66 [.int .i64 n] (.str (aN n)):=
 Ef (name:= "internal/strconv.uint64pow10") (g:=3) (by kernel_rfl) (by kernel_rfl) rfl (fun n h0 h1 w ht=>Tryz.strconv_Itoa n h0 h1 w ht) n h0 h1
theorem pJ (l:List (List UInt8))(sep:List UInt8)(hN:l.length<=140737488355328)(hlen:(aM sep l).length<=140737488355328):am Tryz.prog aC 141 [.list (l.map .str),.str sep] (.str (aM sep l)):=
 Ee (by kernel_rfl) (fun a c sep w=>Tryz.strings_Join_none a c sep w) (fun bk o c xs sep w h1 h2 h3 h4 h5=>Tryz.strings_Join bk o c xs sep w h1 h2 h3 h4 h5) l sep hN hlen
theorem kj (a b:List UInt8):am Tryz.prog aC 103 [.str a,.str b] (.int .i64 (Lib.compareBytes a b)):=
 sC (by kernel_rfl) (fun a b w=>Wz a b w) a b
theorem qS (a:List UInt8)(n:Int)(h0:0<=n)(h1:n<=9223372036854775807)(h2:a.length*n.toNat<=140737488355328):am Tryz.prog aC 88 [.str a,.int .i64 n] (.str (Lib.repeatL a n.toNat)):=by
 refine cS (by kernel_rfl) fun w imm vals hGl hsz hargs=>?_
 have hv:=vD hsz
 obtain⟨ha,_⟩:=jK (hargs 0 (.str a) rfl)
 have hn:=hargs 1 (.int .i64 n) rfl
 rw[hv,ha]
 generalize vals.getD 1 Go.undef=u at hn
 cases hn
 have hnn:n=((n.toNat:Nat):Int):=by omega
 have:=Tryz.strings_Repeat ⟨a.toArray⟩ n.toNat w (by omega) (by simpa[ByteArray.size] using h2)
 rw[<- hnn] at this
 refine this.mono ?_
 rintro e w' ⟨rfl,hb⟩
 exact⟨_,rfl,hb,dV (by rw[Lib.repeatL_length,Nat.mul_comm];unfold maxLen;omega)⟩
theorem ql {G:Nat->List PV}{w:World}{imm:Nat->Nat->Prop}(h:dd G w imm){g o:Nat}{k:IntKind}{n:Int}(hp:(G g)[o]? = some (.int k n)):w.cell? ⟨g,o,none⟩=some (.int k n):=by
 obtain⟨_,v,h1,_,h2⟩:=h.1 g o _ hp
 cases h2;exact h1
theorem BK {w:World}{imm:Nat->Nat->Prop}(h:dd aC w imm):Lib.Utf8Tabs 0 1 w:=by
 refine⟨fun c hc=>?_,fun i hi=>⟨?_,?_⟩⟩
 ·refine ql h ?_
  show Tb[c]? = _
  rw[Tb,WW,List.getElem?_range hc];rfl
 ·refine ql h ?_
  show PH[2*i]? = _
  rw[PH,WW,List.getElem?_range (by omega)]
  simp only[Option.map_some]
  rw[if_pos (by omega),show 2*i / 2=i by omega]
 ·refine ql h ?_
  show PH[2*i+1]? = _
  rw[PH,WW,List.getElem?_range (by omega)]
  simp only[Option.map_some]
  rw[if_neg (by omega),show (2*i+1) / 2=i by omega]
theorem ic (s:List UInt8):am Tryz.prog aC 76 [.str s] (.bool (Lib.validD s)):=by
 refine cS (by kernel_rfl) fun w imm vals hGl hsz hargs=>?_
 have hv:=BF hsz
 have h2:=hargs 0 (.str s) rfl
 generalize vals.getD 0 Go.undef=x at h2 hv
 cases h2 with
 | str s hs=>
   rw[hv]
   refine (Any.utf8_ValidString Ww s w (by unfold maxLen at hs;omega) (BK hGl)).mono ?_
   rintro e w' ⟨rfl,hb⟩
   exact⟨_,rfl,hb,.bool _⟩
attribute [local irreducible] vc
theorem dI {P:Prop}(h:P:=by first | exact O5 | (unfold Chk;decide +kernel) | omega | exact Sh (by with_unfolding_all rfl) | (simp[ap]<;>omega) | fail):P:=h
theorem qsZ{P:Prop}(h:P:=by simp(disch:=try exact dI) only[push_cast,seval]):P:=h
theorem zgZ{P Q:Prop}(h:Q)(e:P=Q:=by simp(disch:=try exact dI) only[push_cast,seval];rfl):P:=e.mpr h
