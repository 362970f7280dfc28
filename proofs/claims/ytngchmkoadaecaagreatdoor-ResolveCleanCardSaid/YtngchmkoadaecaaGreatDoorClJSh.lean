/- A part. -/
import Derived.Shelf.Strings.OnBuilder
import Derived.Shelf.Small.Strs
import Derived.Shelf.LaysM
import Derived.Shelf.Strconv.Itoa3
import Derived.Shelf.Strings.Builder1
import Derived.Test.YtngchmkoadaecaaGreatDoorProg
import Derived.Shelf.Unicode.ValidAny
import Derived.KernelRfl
import Derived.Test.YtngchmkoadaecaaGreatDoorClCore6
/-
 DERIVED: THE SHELF's CONTRACTS AT THIS DUMP,IN PLAIN WORDS (tools/lay-plain.mjs out of 'TryzC10.lean',which tools/lay-shelf.mjs wrote): THE SAME DECLARATIONS UNDER THE SAME NAMES: 'import','namespace','open','def','theorem' AND NOTHING ELSE: no command of the shelf's: FOR A HAND-IN. Each laying: the table of numbers ('.._ren') and one theorem,a field a fact of the dump's own or the kernel's comparison;each tl: ONE APPLICATION.
-/
open List renaming range->U1,getElem?_map->UE
namespace Go.Proofs
open Go.Shelf
def Tryz.lays156_ren:Go.Shelf.Ren:=⟨fun | 156=>100 | 165=>123 | 166=>124 | 169=>125 | 240=>136 | 241=>137 | 276=>151 | 277=>152 | n=>n,fun | 31=>66 | 9=>9 | 3=>3 | 4=>4 | 0=>0 | 20=>20 | 72=>169 | 76=>173 | 70=>167 | 37=>150 | 75=>172 | 127=>185 | 164=>207 | 5=>5 | 80=>175 | n=>n,fun | n=>n⟩
theorem Uj:Go.Proofs.Lays.n156 Tryz.prog Tryz.lays156_ren:={
 mixed:=by kernel_rfl
 f156:=Tryz.func100.trans (congrArg some (by kernel_rfl))
 f165:=Tryz.func123.trans (congrArg some (by kernel_rfl))
 f166:=Tryz.func124.trans (congrArg some (by kernel_rfl))
 f169:=Tryz.func125.trans (congrArg some (by kernel_rfl))
 f240:=Tryz.func136.trans (congrArg some (by kernel_rfl))
 f241:=Tryz.func137.trans (congrArg some (by kernel_rfl))
 f276:=Tryz.func151.trans (congrArg some (by kernel_rfl))
 f277:=Tryz.func152.trans (congrArg some (by kernel_rfl))
 t0:=Tryz.underlying0
 a0:=Tryz.isAgg0
 z0:=Tryz.sizeOf0
 v0:=Tryz.zeroValue0
 t3:=Tryz.underlying3
 a3:=Tryz.isAgg3
 z3:=Tryz.sizeOf3
 v3:=Tryz.zeroValue3
 t4:=Tryz.underlying4
 a4:=Tryz.isAgg4
 z4:=Tryz.sizeOf4
 v4:=Tryz.zeroValue4
 t9:=Tryz.underlying9
 a9:=Tryz.isAgg9
 z9:=Tryz.sizeOf9
 v9:=Tryz.zeroValue9
 t20:=Tryz.underlying20
 a20:=Tryz.isAgg20
 z20:=Tryz.sizeOf20
 v20:=Tryz.zeroValue20
 t31:=Tryz.underlying66
 a31:=Tryz.isAgg66
 z31:=Tryz.sizeOf66
 v31:=Tryz.zeroValue66
 t37:=Tryz.underlying150
 a37:=Tryz.isAgg150
 z37:=Tryz.sizeOf150
 v37:=Tryz.zeroValue150
 t70:=Tryz.underlying167
 a70:=Tryz.isAgg167
 z70:=Tryz.sizeOf167
 v70:=Tryz.zeroValue167
 t72:=Tryz.underlying169
 a72:=Tryz.isAgg169
 z72:=Tryz.sizeOf169
 v72:=Tryz.zeroValue169
 t75:=Tryz.underlying172
 a75:=Tryz.isAgg172
 z75:=Tryz.sizeOf172
 v75:=Tryz.zeroValue172
 t76:=Tryz.underlying173
 a76:=Tryz.isAgg173
 z76:=Tryz.sizeOf173
 v76:=Tryz.zeroValue173
 t127:=Tryz.underlying185
 a127:=Tryz.isAgg185
 z127:=Tryz.sizeOf185
 v127:=Tryz.zeroValue185
 t164:=Tryz.underlying207
 a164:=Tryz.isAgg207
 z164:=Tryz.sizeOf207
 v164:=Tryz.zeroValue207 }
theorem Ui:Builder.Extra Tryz.prog Tryz.lays156_ren:={
 sizeBuilder:=by kernel_rfl
 liesBuilder:=by kernel_rfl
 t5:=Tryz.underlying5
 a5:=Tryz.isAgg5
 z5:=Tryz.sizeOf5
 v5:=Tryz.zeroValue5
 infoByte:=by kernel_rfl
 cellsByte:=by kernel_rfl
 sizeByte:=by kernel_rfl
 neB5:=by decide }
open Go.RowKit in
theorem Tryz.strings_Join_none (a:Option Addr)(c:Nat)(sep:ByteArray)(w:World) :
  Calls Tryz.prog 100 #[.slice a 0 c,.string sep] w fun e w'=>e = .returned (.string ⟨#[]⟩)/\w'=w:=Any.strings_Join_none Uj Ui a c sep w
open Go.RowKit in
theorem Tryz.strings_Join (bk o c:Nat)(xs:List ByteArray)(sep:ByteArray)(w:World)(hcells:∀ (j:Nat) x,xs[j]? = some x->w.cell? ⟨bk,o+j,none⟩=some (.string x))(hbk:bk<w.heap.size)(hN:xs.length<=140737488355328)(hcap:xs.length<=c)(hlen:(Lib.join (xs.map (·.data.toList)) sep.data.toList).length<=140737488355328) :
  Calls Tryz.prog 100 #[.slice (some ⟨bk,o,none⟩) xs.length c,.string sep] w fun e w'=>e = .returned (.string ⟨(Lib.join (xs.map (·.data.toList)) sep.data.toList).toArray⟩)/\Below w.heap.size w w':=Any.strings_Join Uj Ui bk o c xs sep w hcells hbk hN hcap hlen
def Tryz.laysM171_ren:Go.Shelf.Ren:=⟨fun | 171=>99 | 243=>122 | 246=>135 | 283=>147 | 284=>148 | 285=>149 | 286=>150 | 129=>167 | 317=>166 | 318=>168 | 319=>169 | 320=>170 | 337=>192 | 338=>193 | n=>n,fun | 3=>3 | 9=>9 | 2=>2 | 4=>4 | 171=>201 | 0=>0 | 53=>202 | 37=>150 | 5=>5 | 173=>205 | 212=>227 | 51=>228 | 20=>20 | 213=>229 | 46=>191 | 232=>248 | 233=>249 | n=>n,fun | 17=>2 | 18=>4 | 19=>5 | n=>n⟩
theorem Tryz.laysM171:Go.Proofs.LaysM.n171 Tryz.prog Tryz.laysM171_ren:={
 mixed:=by kernel_rfl
 f129:=Tryz.func167.trans (congrArg some (by kernel_rfl))
 f171:=Tryz.func99.trans (congrArg some (by kernel_rfl))
 f243:=Tryz.func122.trans (congrArg some (by kernel_rfl))
 f246:=Tryz.func135.trans (congrArg some (by kernel_rfl))
 f283:=Tryz.func147.trans (congrArg some (by kernel_rfl))
 f284:=Tryz.func148.trans (congrArg some (by kernel_rfl))
 f285:=Tryz.func149.trans (congrArg some (by kernel_rfl))
 f286:=Tryz.func150.trans (congrArg some (by kernel_rfl))
 f317:=Tryz.func166.trans (congrArg some (by kernel_rfl))
 f318:=Tryz.func168.trans (congrArg some (by kernel_rfl))
 f319:=Tryz.func169.trans (congrArg some (by kernel_rfl))
 f320:=Tryz.func170.trans (congrArg some (by kernel_rfl))
 f337:=Tryz.func192.trans (congrArg some (by kernel_rfl))
 f338:=Tryz.func193.trans (congrArg some (by kernel_rfl))
 t0:=Tryz.underlying0
 a0:=Tryz.isAgg0
 z0:=Tryz.sizeOf0
 v0:=Tryz.zeroValue0
 t2:=Tryz.underlying2
 a2:=Tryz.isAgg2
 z2:=Tryz.sizeOf2
 v2:=Tryz.zeroValue2
 t3:=Tryz.underlying3
 a3:=Tryz.isAgg3
 z3:=Tryz.sizeOf3
 v3:=Tryz.zeroValue3
 t4:=Tryz.underlying4
 a4:=Tryz.isAgg4
 z4:=Tryz.sizeOf4
 v4:=Tryz.zeroValue4
 t5:=Tryz.underlying5
 a5:=Tryz.isAgg5
 z5:=Tryz.sizeOf5
 v5:=Tryz.zeroValue5
 t9:=Tryz.underlying9
 a9:=Tryz.isAgg9
 z9:=Tryz.sizeOf9
 v9:=Tryz.zeroValue9
 t20:=Tryz.underlying20
 a20:=Tryz.isAgg20
 z20:=Tryz.sizeOf20
 v20:=Tryz.zeroValue20
 t37:=Tryz.underlying150
 a37:=Tryz.isAgg150
 z37:=Tryz.sizeOf150
 v37:=Tryz.zeroValue150
 t46:=Tryz.underlying191
 a46:=Tryz.isAgg191
 z46:=Tryz.sizeOf191
 v46:=Tryz.zeroValue191
 t51:=Tryz.underlying228
 a51:=Tryz.isAgg228
 z51:=Tryz.sizeOf228
 v51:=Tryz.zeroValue228
 t53:=Tryz.underlying202
 a53:=Tryz.isAgg202
 z53:=Tryz.sizeOf202
 v53:=Tryz.zeroValue202
 t171:=Tryz.underlying201
 a171:=Tryz.isAgg201
 z171:=Tryz.sizeOf201
 v171:=Tryz.zeroValue201
 t173:=Tryz.underlying205
 a173:=Tryz.isAgg205
 z173:=Tryz.sizeOf205
 v173:=Tryz.zeroValue205
 t212:=Tryz.underlying227
 a212:=Tryz.isAgg227
 z212:=Tryz.sizeOf227
 v212:=Tryz.zeroValue227
 t213:=Tryz.underlying229
 a213:=Tryz.isAgg229
 z213:=Tryz.sizeOf229
 t232:=Tryz.underlying248
 a232:=Tryz.isAgg248
 z232:=Tryz.sizeOf248
 v232:=Tryz.zeroValue248
 t233:=Tryz.underlying249
 a233:=Tryz.isAgg249
 z233:=Tryz.sizeOf249
 v233:=Tryz.zeroValue249
 g17:=by kernel_rfl
 g18:=by kernel_rfl
 g19:=by kernel_rfl
 i0:=by kernel_rfl
 i2:=by kernel_rfl
 i3:=by kernel_rfl
 i4:=by kernel_rfl
 i5:=by kernel_rfl
 i9:=by kernel_rfl
 i20:=by kernel_rfl
 i37:=by kernel_rfl
 i46:=by kernel_rfl
 i51:=by kernel_rfl
 i53:=by kernel_rfl
 i171:=by kernel_rfl
 i173:=by kernel_rfl
 i212:=by kernel_rfl
 i232:=by kernel_rfl
 i233:=by kernel_rfl
 m17:=by kernel_rfl
 m18:=by kernel_rfl
 m19:=by kernel_rfl }
open Go.RowKit Go.Sort Go.Lib in
theorem Tryz.strconv_Itoa (n:Int)(h0:-9223372036854775808<=n)(h1:n<=9223372036854775807)(w:World)(htab:Lib.TabIs Tryz.prog w "internal/strconv.uint64pow10" .u64 Lib.pow10Tab) :
  Calls Tryz.prog 99 #[.int .i64 n] w fun e w'=>e = .returned (.string ⟨(Lib.itoa n).toArray⟩)/\∃ k os,w'=grow (w.drewN k) os:=Any.strconv_Itoa Tryz.laysM171 n h0 h1 w htab
def Tryz.lays196_ren:Go.Shelf.Ren:=⟨fun | 196=>127 | 259=>138 | n=>n,fun | 9=>9 | 4=>4 | 3=>3 | 5=>5 | 12=>12 | 119=>187 | 0=>0 | 46=>191 | 139=>190 | 138=>189 | 53=>202 | n=>n,fun | 3=>0 | 4=>1 | n=>n⟩
theorem Uk:Go.Proofs.Lays.n196 Tryz.prog Tryz.lays196_ren:={
 mixed:=by kernel_rfl
 f196:=Tryz.func127.trans (congrArg some (by kernel_rfl))
 f259:=Tryz.func138.trans (congrArg some (by kernel_rfl))
 t0:=Tryz.underlying0
 a0:=Tryz.isAgg0
 z0:=Tryz.sizeOf0
 v0:=Tryz.zeroValue0
 t3:=Tryz.underlying3
 a3:=Tryz.isAgg3
 z3:=Tryz.sizeOf3
 v3:=Tryz.zeroValue3
 t4:=Tryz.underlying4
 a4:=Tryz.isAgg4
 z4:=Tryz.sizeOf4
 v4:=Tryz.zeroValue4
 t5:=Tryz.underlying5
 a5:=Tryz.isAgg5
 z5:=Tryz.sizeOf5
 v5:=Tryz.zeroValue5
 t9:=Tryz.underlying9
 a9:=Tryz.isAgg9
 z9:=Tryz.sizeOf9
 v9:=Tryz.zeroValue9
 t12:=Tryz.underlying12
 a12:=Tryz.isAgg12
 z12:=Tryz.sizeOf12
 v12:=Tryz.zeroValue12
 t46:=Tryz.underlying191
 a46:=Tryz.isAgg191
 z46:=Tryz.sizeOf191
 v46:=Tryz.zeroValue191
 t53:=Tryz.underlying202
 a53:=Tryz.isAgg202
 z53:=Tryz.sizeOf202
 v53:=Tryz.zeroValue202
 t119:=Tryz.underlying187
 a119:=Tryz.isAgg187
 z119:=Tryz.sizeOf187
 t138:=Tryz.underlying189
 a138:=Tryz.isAgg189
 z138:=Tryz.sizeOf189
 v138:=Tryz.zeroValue189
 t139:=Tryz.underlying190
 a139:=Tryz.isAgg190
 z139:=Tryz.sizeOf190
 v139:=Tryz.zeroValue190
 g3:=by kernel_rfl
 g4:=by kernel_rfl }
end Go.Proofs
set_option maxRecDepth 100000
namespace Go.Proofs.YtngchmkoadaecaaGreatDoor
open Go Go.Ab
def QY:List PV:=(U1 256).map fun c=>PV.int .u8 (Lib.firstT c:Nat)
def M7:List PV:=(U1 32).map fun c=>PV.int .u8 (if c % 2=0 then Lib.accLo (c / 2) else Lib.accHi (c / 2):Nat)
def aB:Nat->List PV:=fun g=>if g=2 then Lib.pow10Tab.map (PV.int .u64) else if g=0 then QY else if g=1 then M7 else []
theorem B3 (n:Int)(h0:-9223372036854775808<=n)(h1:n<=9223372036854775807):ap Tryz.prog aB 99 [.int .i64 n] (.str (dQ n)):=
 B1 (name:= "internal/strconv.uint64pow10") (g:=2) (by kernel_rfl) (by kernel_rfl) rfl (fun n h0 h1 w ht=>Tryz.strconv_Itoa n h0 h1 w ht) n h0 h1
theorem BZ (l:List (List UInt8))(sep:List UInt8)(hN:l.length<=140737488355328)(hlen:(dj sep l).length<=140737488355328):ap Tryz.prog aB 100 [.list (l.map .str),.str sep] (.str (dj sep l)):=
 BY (by kernel_rfl) (fun a c sep w=>Tryz.strings_Join_none a c sep w) (fun bk o c xs sep w h1 h2 h3 h4 h5=>Tryz.strings_Join bk o c xs sep w h1 h2 h3 h4 h5) l sep hN hlen
theorem mJ {G:Nat->List PV}{w:World}{imm:Nat->Nat->Prop}(h:du G w imm){g o:Nat}{k:IntKind}{n:Int}(hp:(G g)[o]? = some (.int k n)):w.cell? ⟨g,o,none⟩=some (.int k n):=by
 obtain⟨_,v,h1,_,h2⟩:=h.1 g o _ hp
 cases h2;exact h1
theorem yH {w:World}{imm:Nat->Nat->Prop}(h:du aB w imm):Lib.Utf8Tabs 0 1 w:=by
 refine⟨fun c hc=>?_,fun i hi=>⟨?_,?_⟩⟩
 ·refine mJ h ?_
  show QY[c]? = _
  rw[QY,UE,List.getElem?_range hc];rfl
 ·refine mJ h ?_
  show M7[2*i]? = _
  rw[M7,UE,List.getElem?_range (by omega)]
  simp only[Option.map_some]
  rw[if_pos (by omega),show 2*i / 2=i by omega]
 ·refine mJ h ?_
  show M7[2*i+1]? = _
  rw[M7,UE,List.getElem?_range (by omega)]
  simp only[Option.map_some]
  rw[if_neg (by omega),show (2*i+1) / 2=i by omega]
theorem fF (s:List UInt8):ap Tryz.prog aB 127 [.str s] (.bool (Lib.validD s)):=by
 refine eh (by kernel_rfl) fun w imm vals hGl hsz hargs=>?_
 have hv:=Iq hsz
 have h2:=hargs 0 (.str s) rfl
 generalize vals.getD 0 Go.undef=x at h2 hv
 cases h2 with
 | str s hs=>
   rw[hv]
   refine (Any.utf8_ValidString Uk s w (by unfold maxLen at hs;omega) (yH hGl)).mono ?_
   rintro e w' ⟨rfl,hb⟩
   exact⟨_,rfl,hb,.bool _⟩
