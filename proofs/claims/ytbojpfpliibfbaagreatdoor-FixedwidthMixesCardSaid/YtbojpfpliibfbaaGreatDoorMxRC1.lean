/- A part of the proof. -/
import Derived.Test.YtbojpfpliibfbaaGreatDoorMxCore5
import Derived.Shelf.Strings.OnBuilder
import Derived.Shelf.Small.Strs
import Derived.Shelf.LaysM
import Derived.Shelf.Strconv.Itoa3
import Derived.Shelf.Strings.Repeat
import Derived.Shelf.Strings.Builder1
import Derived.Test.YtbojpfpliibfbaaGreatDoorProg
import Derived.Shelf.Unicode.ValidAny
import Derived.KernelRfl
set_option linter.unusedVariables false
set_option linter.unusedSimpArgs false
namespace Go.Ab
open Go
def ix (y:Int):Bool:=decide (y % 4=0)&&(!decide (y % 100=0)||decide (y % 400=0))
def mdI (y m:Int):Int:=if m=2 then (if ix y=true then 29 else 28) else if m=4\/m=6\/m=9\/m=11 then 30 else 31
def dZ (y:Int):Int:=365*(y - 1)+(y - 1) / 4 - (y - 1) / 100+(y - 1) / 400
def dE (y:Int):Nat->Int
 | 0=>0
 | k+1=>dE y k+mdI y (k+1:Nat)
theorem dQ (y m:Int):28<=mdI y m/\mdI y m<=31:=by
 unfold mdI;split
 ·split<;>omega
 ·split<;>omega
theorem tL (y:Int):ix y=true↔y % 4=0/\(¬ y % 100=0\/y % 400=0):=by simp[ix]
theorem nG (y:Int):dZ (y+1)=dZ y+365+(if ix y=true then 1 else 0):=by
 have h:y+1 - 1=y:=by omega
 unfold dZ
 rw[h]
 by_cases hl:ix y=true
 ·rw[if_pos hl]
  have:=(tL y).1 hl
  omega
 ·rw[if_neg hl]
  have:¬ (y % 4=0/\(¬ y % 100=0\/y % 400=0)):=fun h=>hl ((tL y).2 h)
  omega
theorem uE:∀ (k:Nat) (y:Int),dZ y+365*k<=dZ (y+k)
 | 0,y=>by simp
 | k+1,y=>by
   have h1:=uE k y
   have h2:=nG (y+k)
   have e:y+((k+1:Nat):Int)=y+k+1:=by omega
   rw[e,h2]
   have:(0:Int)<=if ix (y+k)=true then 1 else 0:=by split<;>omega
   omega
theorem Qq {y z:Int}(h:y<z):dZ (y+1)<=dZ z:=by
 have:=uE (z - (y+1)).toNat (y+1)
 have e:y+1+((z - (y+1)).toNat:Int)=z:=by omega
 rw[e] at this
 omega
theorem IR (y:Int):dE y 12=365+(if ix y=true then 1 else 0):=by
 have e (k:Nat):dE y (k+1)=dE y k+mdI y (k+1:Nat):=rfl
 have z:dE y 0=0:=rfl
 rw[e 11,e 10,e 9,e 8,e 7,e 6,e 5,e 4,e 3,e 2,e 1,e 0,z]
 by_cases hl:ix y=true<;>simp[mdI,hl]
theorem cG (y:Int):∀ (k j:Nat),dE y j+28*k<=dE y (j+k)
 | 0,j=>by simp
 | k+1,j=>by
   have h1:=cG y k j
   have h2:=dQ y ((j+k:Nat)+1:Nat)
   have e:dE y (j+(k+1))=dE y (j+k)+mdI y (j+k+1:Nat):=rfl
   rw[e]
   omega
structure DateOk (y:Int)(m:Nat)(d:Int):Prop where
 y1:1<=y
 y2:y<=9999
 m1:1<=m
 m2:m<=12
 d1:1<=d
 d2:d<=mdI y m
def jg (y:Int)(m:Nat)(d:Int):Int:=dZ y+dE y (m - 1)+d - 1
theorem pK {y:Int}{m:Nat}{d:Int}(h:DateOk y m d):dZ y<=jg y m d/\jg y m d<dZ (y+1):=by
 obtain⟨h1,h2,h3,h4,h5,h6⟩:=h
 have hs0:=cG y (m - 1) 0
 have z:dE y 0=0:=rfl
 simp only[Nat.zero_add] at hs0
 have hs1:dE y m=dE y (m - 1)+mdI y m:=by
  obtain⟨k,rfl⟩:∃ k,m=k+1:=⟨m - 1,by omega⟩
  rfl
 have hs2:=cG y (12 - m) m
 rw[show m+(12 - m)=12 by omega,IR] at hs2
 have hb:=nG y
 unfold jg
 omega
theorem gP {y:Int}(h1:1<=y)(h2:y<=10000):0<=dZ y/\dZ y<=3652059:=by
 unfold dZ;omega
theorem fi {y:Int}{m:Nat}{d:Int}(h:DateOk y m d):0<=jg y m d/\jg y m d<=3652058:=by
 have:=pK h
 have h1:=gP h.y1 (by have:=h.y2;omega)
 have h2:=gP (y:=y+1) (by have:=h.y1;omega) (by have:=h.y2;omega)
 omega
end Go.Ab
/-
 DERIVED: THE SHELF's CONTRACTS AT THIS DUMP,IN PLAIN WORDS (tools/lay-plain.mjs out of 'TryzShelf.lean',which tools/lay-shelf.mjs wrote): THE SAME DECLARATIONS UNDER THE SAME NAMES: 'import','namespace','open','def','theorem' AND NOTHING ELSE: no command of the shelf's: FOR A HAND-IN. Each laying: the table of numbers ('.._ren') and one theorem,a field a fact of the dump's own or the kernel's comparison;each jw: ONE APPLICATION.
-/
namespace Go.Proofs
open Go.Shelf
def Tryz.lays106_ren:Go.Shelf.Ren:=⟨fun | 106=>113 | 213=>172 | 265=>225 | n=>n,fun | 9=>9 | 3=>3 | n=>n,fun | n=>n⟩
theorem Tryz.lays106:Go.Proofs.Lays.n106 Tryz.prog Tryz.lays106_ren:={
 mixed:=by kernel_rfl
 f106:=Tryz.func113.trans (congrArg some (by kernel_rfl))
 f213:=Tryz.func172.trans (congrArg some (by kernel_rfl))
 f265:=Tryz.func225.trans (congrArg some (by kernel_rfl))
 t3:=Tryz.underlying3
 a3:=Tryz.isAgg3
 z3:=Tryz.sizeOf3
 v3:=Tryz.zeroValue3
 t9:=Tryz.underlying9
 a9:=Tryz.isAgg9
 z9:=Tryz.sizeOf9
 v9:=Tryz.zeroValue9 }
open Go.RowKit in
theorem Tryz.strings_Compare (a b:ByteArray)(w:World) :
  Calls Tryz.prog 113 #[.string a,.string b] w fun e w'=>e = .returned (.int .i64 (Lib.compareBytes a.data.toList b.data.toList))/\w'=w:=Any.strings_Compare Tryz.lays106 a b w
def Tryz.laysM171_ren:Go.Shelf.Ren:=⟨fun | 171=>137 | 243=>194 | 246=>241 | 283=>270 | 284=>271 | 285=>272 | 286=>273 | 129=>224 | 317=>300 | 318=>301 | 319=>302 | 320=>303 | 337=>312 | 338=>313 | n=>n,fun | 3=>3 | 9=>9 | 2=>2 | 4=>4 | 171=>261 | 0=>0 | 53=>169 | 37=>74 | 5=>5 | 173=>263 | 212=>277 | 51=>166 | 20=>20 | 213=>278 | 46=>129 | 232=>293 | 233=>294 | n=>n,fun | 17=>3 | 18=>6 | 19=>7 | n=>n⟩
theorem Tryz.laysM171:Go.Proofs.LaysM.n171 Tryz.prog Tryz.laysM171_ren:={
 mixed:=by kernel_rfl
 f129:=Tryz.func224.trans (congrArg some (by kernel_rfl))
 f171:=Tryz.func137.trans (congrArg some (by kernel_rfl))
 f243:=Tryz.func194.trans (congrArg some (by kernel_rfl))
 f246:=Tryz.func241.trans (congrArg some (by kernel_rfl))
 f283:=Tryz.func270.trans (congrArg some (by kernel_rfl))
 f284:=Tryz.func271.trans (congrArg some (by kernel_rfl))
 f285:=Tryz.func272.trans (congrArg some (by kernel_rfl))
 f286:=Tryz.func273.trans (congrArg some (by kernel_rfl))
 f317:=Tryz.func300.trans (congrArg some (by kernel_rfl))
 f318:=Tryz.func301.trans (congrArg some (by kernel_rfl))
 f319:=Tryz.func302.trans (congrArg some (by kernel_rfl))
 f320:=Tryz.func303.trans (congrArg some (by kernel_rfl))
 f337:=Tryz.func312.trans (congrArg some (by kernel_rfl))
 f338:=Tryz.func313.trans (congrArg some (by kernel_rfl))
 t0:=Tryz.underlying0
 a0:=Tryz.isAgg0
 z0:=Tryz.sizeOf0
 v0:=Tryz.zeroValue0
 t2:=Tryz.underlying2
 a2:=Tryz.isAgg2
 z2:=Tryz.sizeOf2
 v2:=Tryz.zeroValue2
 t3:=Tryz.underlying3
 a3:=Tryz.isAgg3
 z3:=Tryz.sizeOf3
 v3:=Tryz.zeroValue3
 t4:=Tryz.underlying4
 a4:=Tryz.isAgg4
 z4:=Tryz.sizeOf4
 v4:=Tryz.zeroValue4
 t5:=Tryz.underlying5
 a5:=Tryz.isAgg5
 z5:=Tryz.sizeOf5
 v5:=Tryz.zeroValue5
 t9:=Tryz.underlying9
 a9:=Tryz.isAgg9
 z9:=Tryz.sizeOf9
 v9:=Tryz.zeroValue9
 t20:=Tryz.underlying20
 a20:=Tryz.isAgg20
 z20:=Tryz.sizeOf20
 v20:=Tryz.zeroValue20
 t37:=Tryz.underlying74
 a37:=Tryz.isAgg74
 z37:=Tryz.sizeOf74
 v37:=Tryz.zeroValue74
 t46:=Tryz.underlying129
 a46:=Tryz.isAgg129
 z46:=Tryz.sizeOf129
 v46:=Tryz.zeroValue129
 t51:=Tryz.underlying166
 a51:=Tryz.isAgg166
 z51:=Tryz.sizeOf166
 v51:=Tryz.zeroValue166
 t53:=Tryz.underlying169
 a53:=Tryz.isAgg169
 z53:=Tryz.sizeOf169
 v53:=Tryz.zeroValue169
 t171:=Tryz.underlying261
 a171:=Tryz.isAgg261
 z171:=Tryz.sizeOf261
 v171:=Tryz.zeroValue261
 t173:=Tryz.underlying263
 a173:=Tryz.isAgg263
 z173:=Tryz.sizeOf263
 v173:=Tryz.zeroValue263
 t212:=Tryz.underlying277
 a212:=Tryz.isAgg277
 z212:=Tryz.sizeOf277
 v212:=Tryz.zeroValue277
 t213:=Tryz.underlying278
 a213:=Tryz.isAgg278
 z213:=Tryz.sizeOf278
 t232:=Tryz.underlying293
 a232:=Tryz.isAgg293
 z232:=Tryz.sizeOf293
 v232:=Tryz.zeroValue293
 t233:=Tryz.underlying294
 a233:=Tryz.isAgg294
 z233:=Tryz.sizeOf294
 v233:=Tryz.zeroValue294
 g17:=by kernel_rfl
 g18:=by kernel_rfl
 g19:=by kernel_rfl
 i0:=by kernel_rfl
 i2:=by kernel_rfl
 i3:=by kernel_rfl
 i4:=by kernel_rfl
 i5:=by kernel_rfl
 i9:=by kernel_rfl
 i20:=by kernel_rfl
 i37:=by kernel_rfl
 i46:=by kernel_rfl
 i51:=by kernel_rfl
 i53:=by kernel_rfl
 i171:=by kernel_rfl
 i173:=by kernel_rfl
 i212:=by kernel_rfl
 i232:=by kernel_rfl
 i233:=by kernel_rfl
 m17:=by kernel_rfl
 m18:=by kernel_rfl
 m19:=by kernel_rfl }
open Go.RowKit Go.Sort Go.Lib in
theorem Tryz.strconv_Itoa (n:Int)(h0:-9223372036854775808<=n)(h1:n<=9223372036854775807)(w:World)(htab:Lib.TabIs Tryz.prog w "internal/strconv.uint64pow10" .u64 Lib.pow10Tab) :
  Calls Tryz.prog 137 #[.int .i64 n] w fun e w'=>e = .returned (.string ⟨(Lib.itoa n).toArray⟩)/\∃ k os,w'=grow (w.drewN k) os:=Any.strconv_Itoa Tryz.laysM171 n h0 h1 w htab
def Tryz.lays105_ren:Go.Shelf.Ren:=⟨fun | 105=>45 | 212=>93 | 99=>94 | 165=>95 | 166=>46 | 170=>96 | 169=>47 | 263=>147 | 264=>148 | 206=>149 | 240=>97 | 241=>150 | 276=>151 | 277=>200 | n=>n,fun | 9=>9 | 3=>3 | 4=>4 | 20=>20 | 0=>0 | 46=>129 | 109=>130 | 5=>5 | 72=>76 | 76=>85 | 51=>166 | 146=>167 | 53=>169 | 148=>170 | 70=>73 | 37=>74 | 75=>84 | 127=>134 | 164=>172 | 80=>87 | n=>n,fun | n=>n⟩
theorem Tryz.lays105:Go.Proofs.Lays.n105 Tryz.prog Tryz.lays105_ren:={
 mixed:=by kernel_rfl
 f99:=Tryz.func94.trans (congrArg some (by kernel_rfl))
 f105:=Tryz.func45.trans (congrArg some (by kernel_rfl))
 f165:=Tryz.func95.trans (congrArg some (by kernel_rfl))
 f166:=Tryz.func46.trans (congrArg some (by kernel_rfl))
 f169:=Tryz.func47.trans (congrArg some (by kernel_rfl))
 f170:=Tryz.func96.trans (congrArg some (by kernel_rfl))
 f206:=Tryz.func149.trans (congrArg some (by kernel_rfl))
 f212:=Tryz.func93.trans (congrArg some (by kernel_rfl))
 f240:=Tryz.func97.trans (congrArg some (by kernel_rfl))
 f241:=Tryz.func150.trans (congrArg some (by kernel_rfl))
 f263:=Tryz.func147.trans (congrArg some (by kernel_rfl))
 f264:=Tryz.func148.trans (congrArg some (by kernel_rfl))
 f276:=Tryz.func151.trans (congrArg some (by kernel_rfl))
 f277:=Tryz.func200.trans (congrArg some (by kernel_rfl))
 t0:=Tryz.underlying0
 a0:=Tryz.isAgg0
 z0:=Tryz.sizeOf0
 v0:=Tryz.zeroValue0
 t3:=Tryz.underlying3
 a3:=Tryz.isAgg3
 z3:=Tryz.sizeOf3
 v3:=Tryz.zeroValue3
 t4:=Tryz.underlying4
 a4:=Tryz.isAgg4
 z4:=Tryz.sizeOf4
 v4:=Tryz.zeroValue4
 t5:=Tryz.underlying5
 a5:=Tryz.isAgg5
 z5:=Tryz.sizeOf5
 v5:=Tryz.zeroValue5
 t9:=Tryz.underlying9
 a9:=Tryz.isAgg9
 z9:=Tryz.sizeOf9
 v9:=Tryz.zeroValue9
 t20:=Tryz.underlying20
 a20:=Tryz.isAgg20
 z20:=Tryz.sizeOf20
 v20:=Tryz.zeroValue20
 t37:=Tryz.underlying74
 a37:=Tryz.isAgg74
 z37:=Tryz.sizeOf74
 v37:=Tryz.zeroValue74
 t46:=Tryz.underlying129
 a46:=Tryz.isAgg129
 z46:=Tryz.sizeOf129
 v46:=Tryz.zeroValue129
 t51:=Tryz.underlying166
 a51:=Tryz.isAgg166
 z51:=Tryz.sizeOf166
 v51:=Tryz.zeroValue166
 t53:=Tryz.underlying169
 a53:=Tryz.isAgg169
 z53:=Tryz.sizeOf169
 v53:=Tryz.zeroValue169
 t70:=Tryz.underlying73
 a70:=Tryz.isAgg73
 z70:=Tryz.sizeOf73
 v70:=Tryz.zeroValue73
 t72:=Tryz.underlying76
 a72:=Tryz.isAgg76
 z72:=Tryz.sizeOf76
 v72:=Tryz.zeroValue76
 t75:=Tryz.underlying84
 a75:=Tryz.isAgg84
 z75:=Tryz.sizeOf84
 v75:=Tryz.zeroValue84
 t76:=Tryz.underlying85
 a76:=Tryz.isAgg85
 z76:=Tryz.sizeOf85
 v76:=Tryz.zeroValue85
 t109:=Tryz.underlying130
 a109:=Tryz.isAgg130
 z109:=Tryz.sizeOf130
 v109:=Tryz.zeroValue130
 t127:=Tryz.underlying134
 a127:=Tryz.isAgg134
 z127:=Tryz.sizeOf134
 v127:=Tryz.zeroValue134
 t146:=Tryz.underlying167
 a146:=Tryz.isAgg167
 z146:=Tryz.sizeOf167
 v146:=Tryz.zeroValue167
 t148:=Tryz.underlying170
 a148:=Tryz.isAgg170
 z148:=Tryz.sizeOf170
 v148:=Tryz.zeroValue170
 t164:=Tryz.underlying172
 a164:=Tryz.isAgg172
 z164:=Tryz.sizeOf172
 v164:=Tryz.zeroValue172 }
theorem Tryz.Builder_Extra_105:Builder.Extra Tryz.prog Tryz.lays105_ren:={
 sizeBuilder:=by kernel_rfl
 liesBuilder:=by kernel_rfl
 t5:=Tryz.underlying5
 a5:=Tryz.isAgg5
 z5:=Tryz.sizeOf5
 v5:=Tryz.zeroValue5
 infoByte:=by kernel_rfl
 cellsByte:=by kernel_rfl
 sizeByte:=by kernel_rfl
 neB5:=by decide }
open Go.RowKit Go.Lib in
theorem Tryz.strings_Repeat (s:ByteArray)(c:Nat)(w:World)(hc:c<=9223372036854775807)(hlen:s.size*c<=140737488355328) :
  Calls Tryz.prog 45 #[.string s,.int .i64 c] w fun e w'=>e = .returned (.string ⟨(Lib.repeatL s.data.toList c).toArray⟩)/\Below w.heap.size w w':=Any.strings_Repeat Tryz.lays105 Tryz.Builder_Extra_105 s c w hc hlen
def Tryz.lays196_ren:Go.Shelf.Ren:=⟨fun | 196=>207 | 259=>249 | n=>n,fun | 9=>9 | 4=>4 | 3=>3 | 5=>5 | 12=>12 | 119=>245 | 0=>0 | 46=>129 | 139=>248 | 138=>247 | 53=>169 | n=>n,fun | 3=>1 | 4=>2 | n=>n⟩
theorem Tryz.lays196:Go.Proofs.Lays.n196 Tryz.prog Tryz.lays196_ren:={
 mixed:=by kernel_rfl
 f196:=Tryz.func207.trans (congrArg some (by kernel_rfl))
 f259:=Tryz.func249.trans (congrArg some (by kernel_rfl))
 t0:=Tryz.underlying0
 a0:=Tryz.isAgg0
 z0:=Tryz.sizeOf0
 v0:=Tryz.zeroValue0
 t3:=Tryz.underlying3
 a3:=Tryz.isAgg3
 z3:=Tryz.sizeOf3
 v3:=Tryz.zeroValue3
 t4:=Tryz.underlying4
 a4:=Tryz.isAgg4
 z4:=Tryz.sizeOf4
 v4:=Tryz.zeroValue4
 t5:=Tryz.underlying5
 a5:=Tryz.isAgg5
 z5:=Tryz.sizeOf5
 v5:=Tryz.zeroValue5
 t9:=Tryz.underlying9
 a9:=Tryz.isAgg9
 z9:=Tryz.sizeOf9
 v9:=Tryz.zeroValue9
 t12:=Tryz.underlying12
 a12:=Tryz.isAgg12
 z12:=Tryz.sizeOf12
 v12:=Tryz.zeroValue12
 t46:=Tryz.underlying129
 a46:=Tryz.isAgg129
 z46:=Tryz.sizeOf129
 v46:=Tryz.zeroValue129
 t53:=Tryz.underlying169
 a53:=Tryz.isAgg169
 z53:=Tryz.sizeOf169
 v53:=Tryz.zeroValue169
 t119:=Tryz.underlying245
 a119:=Tryz.isAgg245
 z119:=Tryz.sizeOf245
 t138:=Tryz.underlying247
 a138:=Tryz.isAgg247
 z138:=Tryz.sizeOf247
 v138:=Tryz.zeroValue247
 t139:=Tryz.underlying248
 a139:=Tryz.isAgg248
 z139:=Tryz.sizeOf248
 v139:=Tryz.zeroValue248
 g3:=by kernel_rfl
 g4:=by kernel_rfl }
end Go.Proofs
set_option maxRecDepth 100000
namespace Go.Proofs.YtbojpfpliibfbaaGreatDoor
open Go Go.Ab
def QX:List PV:=(List.range 256).map fun c=>PV.int .u8 (Lib.firstT c:Nat)
def Nc:List PV:=(List.range 32).map fun c=>PV.int .u8 (if c % 2=0 then Lib.accLo (c / 2) else Lib.accHi (c / 2):Nat)
def aq:Nat->List PV:=fun g=>if g=3 then Lib.pow10Tab.map (PV.int .u64) else if g=1 then QX else if g=2 then Nc else []
theorem r6 (n:Int)(h0:-9223372036854775808<=n)(h1:n<=9223372036854775807):ag Tryz.prog aq 137 [.int .i64 n] (.str (fX n)):=
 Cw (name:= "internal/strconv.uint64pow10") (g:=3) (by kernel_rfl) (by kernel_rfl) rfl (fun n h0 h1 w ht=>Tryz.strconv_Itoa n h0 h1 w ht) n h0 h1
theorem xJ (a b:List UInt8):ag Tryz.prog aq 113 [.str a,.str b] (.int .i64 (Lib.compareBytes a b)):=
 pN (by kernel_rfl) (fun a b w=>Tryz.strings_Compare a b w) a b
theorem jU (a:List UInt8)(n:Int)(h0:0<=n)(h1:n<=9223372036854775807)(h2:a.length*n.toNat<=140737488355328):ag Tryz.prog aq 45 [.str a,.int .i64 n] (.str (Lib.repeatL a n.toNat)):=by
 refine cI (by kernel_rfl) fun w imm vals hGl hsz hargs=>?_
 have hv:=zu hsz
 obtain⟨ha,_⟩:=jM (hargs 0 (.str a) rfl)
 have hn:=hargs 1 (.int .i64 n) rfl
 rw[hv,ha]
 generalize vals.getD 1 Go.undef=u at hn
 cases hn
 have hnn:n=((n.toNat:Nat):Int):=by omega
 have:=Tryz.strings_Repeat ⟨a.toArray⟩ n.toNat w (by omega) (by simpa[ByteArray.size] using h2)
 rw[<- hnn] at this
 refine this.mono ?_
 rintro e w' ⟨rfl,hb⟩
 exact⟨_,rfl,hb,jN (by rw[Lib.repeatL_length,Nat.mul_comm];unfold maxLen;omega)⟩
theorem nF {G:Nat->List PV}{w:World}{imm:Nat->Nat->Prop}(h:bV G w imm){g o:Nat}{k:IntKind}{n:Int}(hp:(G g)[o]? = some (.int k n)):w.cell? ⟨g,o,none⟩=some (.int k n):=by
 obtain⟨_,v,h1,_,h2⟩:=h.1 g o _ hp
 cases h2;exact h1
theorem zz {w:World}{imm:Nat->Nat->Prop}(h:bV aq w imm):Lib.Utf8Tabs 1 2 w:=by
 refine⟨fun c hc=>?_,fun i hi=>⟨?_,?_⟩⟩
 ·refine nF h ?_
  show QX[c]? = _
  rw[QX,List.getElem?_map,List.getElem?_range hc];rfl
 ·refine nF h ?_
  show Nc[2*i]? = _
  rw[Nc,List.getElem?_map,List.getElem?_range (by omega)]
  simp only[Option.map_some]
  rw[if_pos (by omega),show 2*i / 2=i by omega]
 ·refine nF h ?_
  show Nc[2*i+1]? = _
  rw[Nc,List.getElem?_map,List.getElem?_range (by omega)]
  simp only[Option.map_some]
  rw[if_neg (by omega),show (2*i+1) / 2=i by omega]
theorem dv (s:List UInt8):ag Tryz.prog aq 207 [.str s] (.bool (Lib.validD s)):=by
 refine cI (by kernel_rfl) fun w imm vals hGl hsz hargs=>?_
 have hv:=zw hsz
 have h2:=hargs 0 (.str s) rfl
 generalize vals.getD 0 Go.undef=x at h2 hv
 cases h2 with
 | str s hs=>
   rw[hv]
   refine (Any.utf8_ValidString Tryz.lays196 s w (by unfold maxLen at hs;omega) (zz hGl)).mono ?_
   rintro e w' ⟨rfl,hb⟩
   exact⟨_,rfl,hb,.bool _⟩
attribute [local irreducible] vc
theorem dI {P:Prop}(h:P:=by first | exact MA | (unfold Chk;decide +kernel) | omega | exact PS (by with_unfolding_all rfl) | (simp[ae]<;>omega) | fail):P:=h
theorem qsZ{P:Prop}(h:P:=by simp(disch:=try exact dI) only[push_cast,seval]):P:=h
theorem zgZ{P Q:Prop}(h:Q)(e:P=Q:=by simp(disch:=try exact dI) only[push_cast,seval];rfl):P:=e.mpr h
theorem tS {t:TypeId}{p:PV}{k:IntKind}(h:HasT Tryz.prog t p)(hu:Tryz.prog.underlying t=some (.int k)):∃ n:Int,p = .int k n/\(Lit.int k n).wf=true:=by
 cases h with
 | int _ k' n hk hw=>rw[hu] at hk;cases hk;exact⟨n,rfl,hw⟩
 | bool _ b hb=>rw[hu] at hb;cases hb
 | str _ s hb=>rw[hu] at hb;cases hb
 | list _ e l hb=>rw[hu] at hb;cases hb
 | agg _ fs cs hb=>rw[hu] at hb;cases hb
 | arr _ e n cs hb=>rw[hu] at hb;cases hb
end Go.Proofs.YtbojpfpliibfbaaGreatDoor
