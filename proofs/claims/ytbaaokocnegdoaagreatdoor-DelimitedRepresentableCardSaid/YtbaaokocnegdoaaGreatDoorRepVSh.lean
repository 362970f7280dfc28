/- A part of the proof for DelimitedRepresentableCardSaid. -/
import Derived.Shelf.Small.Strs
import Derived.Shelf.LaysM
import Derived.Shelf.Strconv.Itoa3
import Derived.Shelf.Strings.IndexAnyAll
import Derived.Test.YtbaaokocnegdoaaGreatDoorProg
import Derived.Shelf.Unicode.ValidAny
import Derived.Test.YtbaaokocnegdoaaGreatDoorRepF
import Derived.Test.YtbaaokocnegdoaaGreatDoorCore5
import Derived.Test.YtbaaokocnegdoaaGreatDoorCore6
/-
 DERIVED: THE SHELF's CONTRACTS AT THIS DUMP,IN PLAIN WORDS (tools/lay-plain.mjs out of 'TryzShelf.lean',which tools/lay-shelf.mjs wrote): THE SAME DECLARATIONS UNDER THE SAME NAMES: 'import','namespace','open','def','theorem' AND NOTHING ELSE: no command of the shelf's: FOR A HAND-IN. Each laying: the table of numbers ('.._ren') and one theorem,a field a fact of the dump's own or the kernel's comparison;each kN: ONE APPLICATION.
-/
namespace Go.Proofs
open Go.Shelf
def Tryz.lays106_ren:Go.Shelf.Ren:=⟨fun | 106=>114 | 213=>164 | 265=>220 | n=>n,fun | 9=>9 | 3=>3 | n=>n,fun | n=>n⟩
theorem Tryz.lays106:Go.Proofs.Lays.n106 Tryz.prog Tryz.lays106_ren:={
 mixed:=by kernel_rfl
 f106:=Tryz.func114.trans (congrArg some (by kernel_rfl))
 f213:=Tryz.func164.trans (congrArg some (by kernel_rfl))
 f265:=Tryz.func220.trans (congrArg some (by kernel_rfl))
 t3:=Tryz.underlying3
 a3:=Tryz.isAgg3
 z3:=Tryz.sizeOf3
 v3:=Tryz.zeroValue3
 t9:=Tryz.underlying9
 a9:=Tryz.isAgg9
 z9:=Tryz.sizeOf9
 v9:=Tryz.zeroValue9 }
open Go.RowKit in
theorem Tryz.strings_Compare (a b:ByteArray)(w:World) :
  Calls Tryz.prog 114 #[.string a,.string b] w fun e w'=>e = .returned (.int .i64 (Lib.compareBytes a.data.toList b.data.toList))∧w'=w:=Any.strings_Compare Tryz.lays106 a b w
def Tryz.laysM171_ren:Go.Shelf.Ren:=⟨fun | 171=>87 | 243=>138 | 246=>183 | 283=>234 | 284=>235 | 285=>236 | 286=>237 | 129=>219 | 317=>264 | 318=>265 | 319=>266 | 320=>267 | 337=>292 | 338=>293 | n=>n,fun | 3=>3 | 9=>9 | 2=>2 | 4=>4 | 171=>246 | 0=>0 | 53=>213 | 37=>64 | 5=>5 | 173=>248 | 212=>281 | 51=>210 | 20=>20 | 213=>282 | 46=>93 | 232=>295 | 233=>296 | n=>n,fun | 17=>5 | 18=>6 | 19=>7 | n=>n⟩
theorem Tryz.laysM171:Go.Proofs.LaysM.n171 Tryz.prog Tryz.laysM171_ren:={
 mixed:=by kernel_rfl
 f129:=Tryz.func219.trans (congrArg some (by kernel_rfl))
 f171:=Tryz.func87.trans (congrArg some (by kernel_rfl))
 f243:=Tryz.func138.trans (congrArg some (by kernel_rfl))
 f246:=Tryz.func183.trans (congrArg some (by kernel_rfl))
 f283:=Tryz.func234.trans (congrArg some (by kernel_rfl))
 f284:=Tryz.func235.trans (congrArg some (by kernel_rfl))
 f285:=Tryz.func236.trans (congrArg some (by kernel_rfl))
 f286:=Tryz.func237.trans (congrArg some (by kernel_rfl))
 f317:=Tryz.func264.trans (congrArg some (by kernel_rfl))
 f318:=Tryz.func265.trans (congrArg some (by kernel_rfl))
 f319:=Tryz.func266.trans (congrArg some (by kernel_rfl))
 f320:=Tryz.func267.trans (congrArg some (by kernel_rfl))
 f337:=Tryz.func292.trans (congrArg some (by kernel_rfl))
 f338:=Tryz.func293.trans (congrArg some (by kernel_rfl))
 t0:=Tryz.underlying0
 a0:=Tryz.isAgg0
 z0:=Tryz.sizeOf0
 v0:=Tryz.zeroValue0
 t2:=Tryz.underlying2
 a2:=Tryz.isAgg2
 z2:=Tryz.sizeOf2
 v2:=Tryz.zeroValue2
 t3:=Tryz.underlying3
 a3:=Tryz.isAgg3
 z3:=Tryz.sizeOf3
 v3:=Tryz.zeroValue3
 t4:=Tryz.underlying4
 a4:=Tryz.isAgg4
 z4:=Tryz.sizeOf4
 v4:=Tryz.zeroValue4
 t5:=Tryz.underlying5
 a5:=Tryz.isAgg5
 z5:=Tryz.sizeOf5
 v5:=Tryz.zeroValue5
 t9:=Tryz.underlying9
 a9:=Tryz.isAgg9
 z9:=Tryz.sizeOf9
 v9:=Tryz.zeroValue9
 t20:=Tryz.underlying20
 a20:=Tryz.isAgg20
 z20:=Tryz.sizeOf20
 v20:=Tryz.zeroValue20
 t37:=Tryz.underlying64
 a37:=Tryz.isAgg64
 z37:=Tryz.sizeOf64
 v37:=Tryz.zeroValue64
 t46:=Tryz.underlying93
 a46:=Tryz.isAgg93
 z46:=Tryz.sizeOf93
 v46:=Tryz.zeroValue93
 t51:=Tryz.underlying210
 a51:=Tryz.isAgg210
 z51:=Tryz.sizeOf210
 v51:=Tryz.zeroValue210
 t53:=Tryz.underlying213
 a53:=Tryz.isAgg213
 z53:=Tryz.sizeOf213
 v53:=Tryz.zeroValue213
 t171:=Tryz.underlying246
 a171:=Tryz.isAgg246
 z171:=Tryz.sizeOf246
 v171:=Tryz.zeroValue246
 t173:=Tryz.underlying248
 a173:=Tryz.isAgg248
 z173:=Tryz.sizeOf248
 v173:=Tryz.zeroValue248
 t212:=Tryz.underlying281
 a212:=Tryz.isAgg281
 z212:=Tryz.sizeOf281
 v212:=Tryz.zeroValue281
 t213:=Tryz.underlying282
 a213:=Tryz.isAgg282
 z213:=Tryz.sizeOf282
 t232:=Tryz.underlying295
 a232:=Tryz.isAgg295
 z232:=Tryz.sizeOf295
 v232:=Tryz.zeroValue295
 t233:=Tryz.underlying296
 a233:=Tryz.isAgg296
 z233:=Tryz.sizeOf296
 v233:=Tryz.zeroValue296
 g17:=by kernel_rfl
 g18:=by kernel_rfl
 g19:=by kernel_rfl
 i0:=by kernel_rfl
 i2:=by kernel_rfl
 i3:=by kernel_rfl
 i4:=by kernel_rfl
 i5:=by kernel_rfl
 i9:=by kernel_rfl
 i20:=by kernel_rfl
 i37:=by kernel_rfl
 i46:=by kernel_rfl
 i51:=by kernel_rfl
 i53:=by kernel_rfl
 i171:=by kernel_rfl
 i173:=by kernel_rfl
 i212:=by kernel_rfl
 i232:=by kernel_rfl
 i233:=by kernel_rfl
 m17:=by kernel_rfl
 m18:=by kernel_rfl
 m19:=by kernel_rfl }
open Go.RowKit Go.Sort Go.Lib in
theorem Tryz.strconv_Itoa (n:Int)(h0:-9223372036854775808≤n)(h1:n≤9223372036854775807)(w:World)(htab:Lib.TabIs Tryz.prog w "internal/strconv.uint64pow10" .u64 Lib.pow10Tab) :
  Calls Tryz.prog 87 #[.int .i64 n] w fun e w'=>e = .returned (.string ⟨(Lib.itoa n).toArray⟩)∧∃ k os,w'=grow (w.drewN k) os:=Any.strconv_Itoa Tryz.laysM171 n h0 h1 w htab
def Tryz.lays150_ren:Go.Shelf.Ren:=⟨fun | 150=>101 | 153=>153 | 152=>204 | 226=>205 | 227=>206 | 228=>207 | 137=>73 | 119=>254 | 224=>227 | 225=>226 | 217=>123 | 266=>175 | n=>n,fun | 9=>9 | 4=>4 | 3=>3 | 5=>5 | 21=>21 | 117=>227 | 116=>226 | 0=>0 | 46=>93 | 124=>264 | n=>n,fun | n=>n⟩
theorem Tryz.lays150:Go.Proofs.Lays.n150 Tryz.prog Tryz.lays150_ren:={
 mixed:=by kernel_rfl
 f119:=Tryz.func254.trans (congrArg some (by kernel_rfl))
 f137:=Tryz.func73.trans (congrArg some (by kernel_rfl))
 f150:=Tryz.func101.trans (congrArg some (by kernel_rfl))
 f152:=Tryz.func204.trans (congrArg some (by kernel_rfl))
 f153:=Tryz.func153.trans (congrArg some (by kernel_rfl))
 f217:=Tryz.func123.trans (congrArg some (by kernel_rfl))
 f224:=Tryz.func227.trans (congrArg some (by kernel_rfl))
 f225:=Tryz.func226.trans (congrArg some (by kernel_rfl))
 f226:=Tryz.func205.trans (congrArg some (by kernel_rfl))
 f227:=Tryz.func206.trans (congrArg some (by kernel_rfl))
 f228:=Tryz.func207.trans (congrArg some (by kernel_rfl))
 f266:=Tryz.func175.trans (congrArg some (by kernel_rfl))
 t0:=Tryz.underlying0
 a0:=Tryz.isAgg0
 z0:=Tryz.sizeOf0
 v0:=Tryz.zeroValue0
 t3:=Tryz.underlying3
 a3:=Tryz.isAgg3
 z3:=Tryz.sizeOf3
 v3:=Tryz.zeroValue3
 t4:=Tryz.underlying4
 a4:=Tryz.isAgg4
 z4:=Tryz.sizeOf4
 v4:=Tryz.zeroValue4
 t5:=Tryz.underlying5
 a5:=Tryz.isAgg5
 z5:=Tryz.sizeOf5
 v5:=Tryz.zeroValue5
 t9:=Tryz.underlying9
 a9:=Tryz.isAgg9
 z9:=Tryz.sizeOf9
 v9:=Tryz.zeroValue9
 t21:=Tryz.underlying21
 a21:=Tryz.isAgg21
 z21:=Tryz.sizeOf21
 v21:=Tryz.zeroValue21
 t46:=Tryz.underlying93
 a46:=Tryz.isAgg93
 z46:=Tryz.sizeOf93
 v46:=Tryz.zeroValue93
 t116:=Tryz.underlying226
 a116:=Tryz.isAgg226
 z116:=Tryz.sizeOf226
 t117:=Tryz.underlying227
 a117:=Tryz.isAgg227
 z117:=Tryz.sizeOf227
 v117:=Tryz.zeroValue227
 t124:=Tryz.underlying264
 a124:=Tryz.isAgg264
 z124:=Tryz.sizeOf264
 v124:=Tryz.zeroValue264 }
open Go.RowKit Go.Lib in
theorem Tryz.strings_ContainsAny_laid (s chars:ByteArray)(w:World)(hs:s.size<4294967281)(hcs:chars.size<4294967281)(has:∀ (j:Nat) b,s.data.toList[j]? = some b→b.toNat<128)(hac:∀ (j:Nat) b,chars.data.toList[j]? = some b→b.toNat<128) :
  Calls Tryz.prog 101 #[.string s,.string chars] w fun e w'=>e = .returned (.bool (Lib.containsAny s.data.toList chars.data.toList))∧Below w.heap.size w w':=Any.strings_ContainsAny_laid Tryz.lays150 (by kernel_rfl) s chars w hs hcs has hac
end Go.Proofs
/-
 DERIVED: THE SHELF's CONTRACTS AT THIS DUMP,IN PLAIN WORDS (tools/lay-plain.mjs out of 'TryzVal.lean',which tools/lay-shelf.mjs wrote): THE SAME DECLARATIONS UNDER THE SAME NAMES: 'import','namespace','open','def','theorem' AND NOTHING ELSE: no command of the shelf's: FOR A HAND-IN. Each laying: the table of numbers ('.._ren') and one theorem,a field a fact of the dump's own or the kernel's comparison;each kN: ONE APPLICATION.
-/
namespace Go.Proofs
open Go.Shelf
def Tryz.lays196_ren:Go.Shelf.Ren:=⟨fun | 196=>232 | 259=>263 | n=>n,fun | 9=>9 | 4=>4 | 3=>3 | 5=>5 | 12=>12 | 119=>270 | 0=>0 | 46=>93 | 139=>273 | 138=>272 | 53=>213 | n=>n,fun | 3=>3 | 4=>4 | n=>n⟩
theorem Tryz.lays196:Go.Proofs.Lays.n196 Tryz.prog Tryz.lays196_ren:={
 mixed:=by kernel_rfl
 f196:=Tryz.func232.trans (congrArg some (by kernel_rfl))
 f259:=Tryz.func263.trans (congrArg some (by kernel_rfl))
 t0:=Tryz.underlying0
 a0:=Tryz.isAgg0
 z0:=Tryz.sizeOf0
 v0:=Tryz.zeroValue0
 t3:=Tryz.underlying3
 a3:=Tryz.isAgg3
 z3:=Tryz.sizeOf3
 v3:=Tryz.zeroValue3
 t4:=Tryz.underlying4
 a4:=Tryz.isAgg4
 z4:=Tryz.sizeOf4
 v4:=Tryz.zeroValue4
 t5:=Tryz.underlying5
 a5:=Tryz.isAgg5
 z5:=Tryz.sizeOf5
 v5:=Tryz.zeroValue5
 t9:=Tryz.underlying9
 a9:=Tryz.isAgg9
 z9:=Tryz.sizeOf9
 v9:=Tryz.zeroValue9
 t12:=Tryz.underlying12
 a12:=Tryz.isAgg12
 z12:=Tryz.sizeOf12
 v12:=Tryz.zeroValue12
 t46:=Tryz.underlying93
 a46:=Tryz.isAgg93
 z46:=Tryz.sizeOf93
 v46:=Tryz.zeroValue93
 t53:=Tryz.underlying213
 a53:=Tryz.isAgg213
 z53:=Tryz.sizeOf213
 v53:=Tryz.zeroValue213
 t119:=Tryz.underlying270
 a119:=Tryz.isAgg270
 z119:=Tryz.sizeOf270
 t138:=Tryz.underlying272
 a138:=Tryz.isAgg272
 z138:=Tryz.sizeOf272
 v138:=Tryz.zeroValue272
 t139:=Tryz.underlying273
 a139:=Tryz.isAgg273
 z139:=Tryz.sizeOf273
 v139:=Tryz.zeroValue273
 g3:=by kernel_rfl
 g4:=by kernel_rfl }
end Go.Proofs
set_option maxRecDepth 100000
namespace Go.Proofs.YtbaaokocnegdoaaGreatDoor
open Go Go.Ab
def Mk:List PV:=(List.range 256).map fun c=>PV.int .u8 (Lib.firstT c:Nat)
def Jl:List PV:=(List.range 32).map fun c=>PV.int .u8 (if c % 2=0 then Lib.accLo (c / 2) else Lib.accHi (c / 2):Nat)
def aD:Nat→List PV:=fun g=>if g=5 then Lib.pow10Tab.map (PV.int .u64) else if g=3 then Mk else if g=4 then Jl else []
theorem Ht (n:Int)(h0:-9223372036854775808≤n)(h1:n≤9223372036854775807):ak Tryz.prog aD 87 [.int .i64 n] (.str (oU n)):=
 x9 (name:= "internal/strconv.uint64pow10") (g:=5) (by kernel_rfl) (by kernel_rfl) rfl (fun n h0 h1 w ht=>Tryz.strconv_Itoa n h0 h1 w ht) n h0 h1
theorem tF (a b:List UInt8):ak Tryz.prog aD 114 [.str a,.str b] (.int .i64 (Lib.compareBytes a b)):=
 mM (by kernel_rfl) (fun a b w=>Tryz.strings_Compare a b w) a b
theorem pc (a b:List UInt8)(ha:a.length<4294967281)(hb:b.length<4294967281)(ha1:a.all (fun c=>decide (c.toNat<128))=true)(hb1:b.all (fun c=>decide (c.toNat<128))=true) :
  ak Tryz.prog aD 101 [.str a,.str b] (.bool (Lib.containsAny a b)):=by
 refine cy (by kernel_rfl) fun w imm vals hGl hsz hargs=>?_
 have hv:=EQ hsz
 obtain⟨h1,_⟩:=kj (hargs 0 (.str a) rfl)
 obtain⟨h2,_⟩:=kj (hargs 1 (.str b) rfl)
 rw[hv,h1,h2]
 have asc:∀ {l:List UInt8},l.all (fun c=>decide (c.toNat<128))=true→∀ (j:Nat) c,(⟨l.toArray⟩:ByteArray).data.toList[j]? = some c→c.toNat<128:=by
  intro l hl j c hc
  have:=List.all_eq_true.1 hl c (List.mem_of_getElem? hc)
  simpa using this
 refine (Tryz.strings_ContainsAny_laid ⟨a.toArray⟩ ⟨b.toArray⟩ w (by simpa[ByteArray.size] using ha) (by simpa[ByteArray.size] using hb) (asc ha1) (asc hb1)).mono ?_
 rintro e w' ⟨rfl,hB⟩
 exact⟨_,rfl,hB,by simpa using PRel.bool (w:=w') (imm:=imm) (Lib.containsAny a b)⟩
theorem kO {G:Nat→List PV}{w:World}{imm:Nat→Nat→Prop}(h:cU G w imm){g o:Nat}{k:IntKind}{n:Int}(hp:(G g)[o]? = some (.int k n)):w.cell? ⟨g,o,none⟩=some (.int k n):=by
 obtain⟨_,v,h1,_,h2⟩:=h.1 g o _ hp
 cases h2;exact h1
theorem uQ {w:World}{imm:Nat→Nat→Prop}(h:cU aD w imm):Lib.Utf8Tabs 3 4 w:=by
 refine⟨fun c hc=>?_,fun i hi=>⟨?_,?_⟩⟩
 ·refine kO h ?_
  show Mk[c]? = _
  rw[Mk,List.getElem?_map,List.getElem?_range hc];rfl
 ·refine kO h ?_
  show Jl[2*i]? = _
  rw[Jl,List.getElem?_map,List.getElem?_range (by omega)]
  simp only[Option.map_some]
  rw[if_pos (by omega),show 2*i / 2=i by omega]
 ·refine kO h ?_
  show Jl[2*i+1]? = _
  rw[Jl,List.getElem?_map,List.getElem?_range (by omega)]
  simp only[Option.map_some]
  rw[if_neg (by omega),show (2*i+1) / 2=i by omega]
theorem eT (s:List UInt8):ak Tryz.prog aD 232 [.str s] (.bool (Lib.validD s)):=by
 refine cy (by kernel_rfl) fun w imm vals hGl hsz hargs=>?_
 have hv:=ER hsz
 have h2:=hargs 0 (.str s) rfl
 generalize vals.getD 0 Go.undef=x at h2 hv
 cases h2 with
 | str s hs=>
   rw[hv]
   refine (Any.utf8_ValidString Tryz.lays196 s w (by unfold maxLen at hs;omega) (uQ hGl)).mono ?_
   rintro e w' ⟨rfl,hb⟩
   exact⟨_,rfl,hb,.bool _⟩
def orc (f:Nat)(ps:List PV):Option PV:=
 match f with
 | 87=>match ps with
   | [.int .i64 n]=>if -9223372036854775808≤n∧n≤9223372036854775807 then some (.str (oU n)) else none
   | _=>none
 | 114=>match ps with
   | [.str a,.str b]=>some (.int .i64 (Lib.compareBytes a b))
   | _=>none
 | 101=>match ps with
   | [.str a,.str b]=>if a.length<4294967281∧b.length<4294967281∧a.all (fun c=>decide (c.toNat<128))=true∧b.all (fun c=>decide (c.toNat<128))=true then some (.bool (Lib.containsAny a b)) else none
   | _=>none
 | _=>none
theorem Kn:∀ f ps r,orc f ps=some r→ak Tryz.prog aD f ps r:=by
 intro f ps r h
 unfold orc at h
 split at h
 ·split at h
  ·split at h
   ·rename_i hh;cases h;exact Ht _ hh.1 hh.2
   ·cases h
  ·cases h
 ·split at h
  ·cases h;exact tF _ _
  ·cases h
 ·split at h
  ·split at h
   ·rename_i hh;cases h;exact pc _ _ hh.1 hh.2.1 hh.2.2.1 hh.2.2.2
   ·cases h
  ·cases h
 ·cases h
noncomputable def tab:List TabRow:=[
 ⟨14,[],gF Tryz.prog 14 []⟩,
 ⟨47,[],F47⟩,
 ⟨20,[],gF Tryz.prog 20 []⟩,
 ⟨40,[],gF Tryz.prog 40 []⟩,
 ⟨22,[],gF Tryz.prog 22 []⟩,
 ⟨15,[2,3],gF Tryz.prog 15 [2,3]⟩,
 ⟨73,[],F73⟩,
 ⟨17,[],F17⟩,
 ⟨37,[2,3],gF Tryz.prog 37 [2,3]⟩,
 ⟨52,[2],F52⟩,
 ⟨16,[],gF Tryz.prog 16 []⟩,
 ⟨53,[],gF Tryz.prog 53 []⟩,
 ⟨26,[],gF Tryz.prog 26 []⟩,
 ⟨57,[24],gF Tryz.prog 57 [24]⟩,
 ⟨12,[],gF Tryz.prog 12 []⟩,
 ⟨58,[],gF Tryz.prog 58 []⟩,
 ⟨59,[33],gF Tryz.prog 59 [33]⟩,
 ⟨123,[],MB⟩,
 ⟨48,[],gF Tryz.prog 48 []⟩,
 ⟨49,[1],F49⟩,
 ⟨80,[5,6],gF Tryz.prog 80 [5,6]⟩,
 ⟨100,[2,3],MC⟩,
 ⟨32,[],gF Tryz.prog 32 []⟩,
 ⟨42,[],gF Tryz.prog 42 []⟩,
 ⟨43,[14],gF Tryz.prog 43 [14]⟩,
 ⟨44,[],gF Tryz.prog 44 []⟩,
 ⟨45,[],gF Tryz.prog 45 []⟩,
 ⟨66,[14],gF Tryz.prog 66 [14]⟩,
 ⟨68,[],gF Tryz.prog 68 []⟩,
 ⟨108,[],gF Tryz.prog 108 []⟩,
 ⟨33,[44],gF Tryz.prog 33 [44]⟩,
 ⟨35,[],gF Tryz.prog 35 []⟩,
 ⟨109,[],gF Tryz.prog 109 []⟩,
 ⟨110,[],gF Tryz.prog 110 []⟩,
 ⟨111,[],gF Tryz.prog 111 []⟩,
 ⟨112,[],gF Tryz.prog 112 []⟩,
 ⟨113,[],gF Tryz.prog 113 []⟩,
 ⟨94,[],gF Tryz.prog 94 []⟩,
 ⟨95,[],F95⟩,
 ⟨96,[],F96⟩,
 ⟨97,[1],F97⟩,
 ⟨130,[1],gF Tryz.prog 130 [1]⟩,
 ⟨131,[5],gF Tryz.prog 131 [5]⟩,
 ⟨133,[5,6],gF Tryz.prog 133 [5,6]⟩,
 ⟨134,[2,3],gF Tryz.prog 134 [2,3]⟩,
 ⟨151,[],Mz⟩,
 ⟨152,[2],My⟩,
 ⟨86,[],gF Tryz.prog 86 []⟩,
 ⟨88,[],gF Tryz.prog 88 []⟩,
 ⟨89,[],gF Tryz.prog 89 []⟩,
 ⟨90,[19],gF Tryz.prog 90 [19]⟩,
 ⟨91,[],gF Tryz.prog 91 []⟩,
 ⟨92,[],gF Tryz.prog 92 []⟩,
 ⟨161,[],gF Tryz.prog 161 []⟩,
 ⟨71,[],gF Tryz.prog 71 []⟩,
 ⟨72,[12],gF Tryz.prog 72 [12]⟩,
 ⟨74,[],gF Tryz.prog 74 []⟩,
 ⟨75,[],gF Tryz.prog 75 []⟩,
 ⟨76,[],gF Tryz.prog 76 []⟩,
 ⟨77,[],gF Tryz.prog 77 []⟩,
 ⟨162,[],gF Tryz.prog 162 []⟩,
 ⟨163,[],gF Tryz.prog 163 []⟩,
 ⟨143,[],ia⟩,
 ⟨144,[],FB⟩,
 ⟨146,[],FA⟩,
 ⟨147,[],JB⟩,
 ⟨180,[],gF Tryz.prog 180 []⟩,
 ⟨181,[2],gF Tryz.prog 181 [2]⟩,
 ⟨125,[],gF Tryz.prog 125 []⟩,
 ⟨126,[],gF Tryz.prog 126 []⟩,
 ⟨127,[],gF Tryz.prog 127 []⟩,
 ⟨209,[],gF Tryz.prog 209 []⟩,
 ⟨120,[],gF Tryz.prog 120 []⟩,
 ⟨121,[],gF Tryz.prog 121 []⟩,
 ⟨124,[],gF Tryz.prog 124 []⟩,
 ⟨128,[],gF Tryz.prog 128 []⟩,
 ⟨210,[],gF Tryz.prog 210 []⟩,
 ⟨219,[],gF Tryz.prog 219 []⟩,
 ⟨187,[],JA⟩,
 ⟨188,[],Mx⟩,
 ⟨189,[],ea⟩,
 ⟨191,[],gF Tryz.prog 191 []⟩,
 ⟨177,[],gF Tryz.prog 177 []⟩,
 ⟨176,[],gF Tryz.prog 176 []⟩,
 ⟨169,[],gF Tryz.prog 169 []⟩,
 ⟨240,[],EE⟩,
 ⟨241,[],Fy⟩]
theorem JH:∀ r∈tab,cFn Tryz.prog r.muts r.f=some r.fn:=by
 intro r hr
 simp only[tab,List.mem_cons,List.not_mem_nil,or_false] at hr
 rcases hr with rfl | rfl | rfl | rfl | rfl | rfl | rfl | rfl | rfl | rfl | rfl | rfl | rfl | rfl | rfl | rfl | rfl | rfl | rfl | rfl | rfl | rfl | rfl | rfl | rfl | rfl | rfl | rfl | rfl | rfl | rfl | rfl | rfl | rfl | rfl | rfl | rfl | rfl | rfl | rfl | rfl | rfl | rfl | rfl | rfl | rfl | rfl | rfl | rfl | rfl | rfl | rfl | rfl | rfl | rfl | rfl | rfl | rfl | rfl | rfl | rfl | rfl | rfl | rfl | rfl | rfl | rfl | rfl | rfl | rfl | rfl | rfl | rfl | rfl | rfl | rfl | rfl | rfl | rfl | rfl | rfl | rfl | rfl | rfl | rfl | rfl | rfl
 ·kernel_rfl
 ·exact Fw
 ·kernel_rfl
 ·kernel_rfl
 ·kernel_rfl
 ·kernel_rfl
 ·exact Ft
 ·exact Fz
 ·kernel_rfl
 ·exact Fu
 ·kernel_rfl
 ·kernel_rfl
 ·kernel_rfl
 ·kernel_rfl
 ·kernel_rfl
 ·kernel_rfl
 ·kernel_rfl
 ·exact Aw
 ·kernel_rfl
 ·exact Fv
 ·kernel_rfl
 ·exact Ay
 ·kernel_rfl
 ·kernel_rfl
 ·kernel_rfl
 ·kernel_rfl
 ·kernel_rfl
 ·kernel_rfl
 ·kernel_rfl
 ·kernel_rfl
 ·kernel_rfl
 ·kernel_rfl
 ·kernel_rfl
 ·kernel_rfl
 ·kernel_rfl
 ·kernel_rfl
 ·kernel_rfl
 ·kernel_rfl
 ·exact Fs
 ·exact Ak
 ·exact Fr
 ·kernel_rfl
 ·kernel_rfl
 ·kernel_rfl
 ·kernel_rfl
 ·exact As
 ·exact Ar
 ·kernel_rfl
 ·kernel_rfl
 ·kernel_rfl
 ·kernel_rfl
 ·kernel_rfl
 ·kernel_rfl
 ·kernel_rfl
 ·kernel_rfl
 ·kernel_rfl
 ·kernel_rfl
 ·kernel_rfl
 ·kernel_rfl
 ·kernel_rfl
 ·kernel_rfl
 ·kernel_rfl
 ·exact ct
 ·exact kY
 ·exact Au
 ·exact pw
 ·kernel_rfl
 ·kernel_rfl
 ·kernel_rfl
 ·kernel_rfl
 ·kernel_rfl
 ·kernel_rfl
 ·kernel_rfl
 ·kernel_rfl
 ·kernel_rfl
 ·kernel_rfl
 ·kernel_rfl
 ·kernel_rfl
 ·exact Aq
 ·exact Ap
 ·exact fg
 ·kernel_rfl
 ·kernel_rfl
 ·kernel_rfl
 ·kernel_rfl
 ·exact pu
 ·exact kX
theorem Dn:wW (exF tab orc aD 5000 60) 14 []=some (.bool true):=by kernel_rfl
theorem Dm:ak Tryz.prog aD 14 [] (.bool true):=ak.of_ex JH Kn Dn
end Go.Proofs.YtbaaokocnegdoaaGreatDoor
set_option maxRecDepth 100000
set_option linter.unusedVariables false
set_option linter.unusedSimpArgs false
namespace Go.Proofs.YtbaaokocnegdoaaGreatDoor
open Go Go.Ab
attribute [local irreducible] vc
theorem dI {P:Prop}(h:P:=by first | exact HZ | (unfold Chk;decide +kernel) | omega | exact K9 (by with_unfolding_all rfl) | (simp[ae]<;>omega) | fail):P:=h
end Go.Proofs.YtbaaokocnegdoaaGreatDoor
