/- A part of the proof. -/
import Derived.Shelf.Small.Strs
import Derived.Shelf.LaysM
import Derived.Shelf.Strconv.Itoa3
import Derived.Shelf.Strings.IndexAnyAll
import Derived.Test.YtbaaokocnegdoaaGreatDoorProg
import Derived.Shelf.Unicode.ValidAny
import Derived.Test.YtbaaokocnegdoaaGreatDoorDeF
import Derived.Test.YtbaaokocnegdoaaGreatDoorDeCore6
set_option linter.unusedVariables false
set_option linter.unusedSimpArgs false
/-
 DERIVED: THE SHELF's CONTRACTS AT THIS DUMP,IN PLAIN WORDS (tools/lay-plain.mjs out of 'TryzShelf.lean',which tools/lay-shelf.mjs wrote): THE SAME DECLARATIONS UNDER THE SAME NAMES: 'import','namespace','open','def','theorem' AND NOTHING ELSE: no command of the shelf's: FOR A HAND-IN. Each laying: the table of numbers ('.._ren') and one theorem,a field a fact of the dump's own or the kernel's comparison;each fY: ONE APPLICATION.
-/
namespace Go.Proofs
open Go.Shelf
def Tryz.lays106_ren:Go.Shelf.Ren:=⟨fun | 106=>114 | 213=>164 | 265=>220 | n=>n,fun | 9=>9 | 3=>3 | n=>n,fun | n=>n⟩
theorem Tryz.lays106:Go.Proofs.Lays.n106 Tryz.prog Tryz.lays106_ren:={
 mixed:=by kernel_rfl
 f106:=Tryz.func114.trans (congrArg some (by kernel_rfl))
 f213:=Tryz.func164.trans (congrArg some (by kernel_rfl))
 f265:=Tryz.func220.trans (congrArg some (by kernel_rfl))
 t3:=Tryz.underlying3
 a3:=Tryz.isAgg3
 z3:=Tryz.sizeOf3
 v3:=Tryz.zeroValue3
 t9:=Tryz.underlying9
 a9:=Tryz.isAgg9
 z9:=Tryz.sizeOf9
 v9:=Tryz.zeroValue9 }
open Go.RowKit in
theorem Tryz.strings_Compare (a b:ByteArray)(w:World) :
  Calls Tryz.prog 114 #[.string a,.string b] w fun e w'=>e = .returned (.int .i64 (Lib.compareBytes a.data.toList b.data.toList))/\w'=w:=Any.strings_Compare Tryz.lays106 a b w
def Tryz.laysM171_ren:Go.Shelf.Ren:=⟨fun | 171=>87 | 243=>138 | 246=>183 | 283=>234 | 284=>235 | 285=>236 | 286=>237 | 129=>219 | 317=>264 | 318=>265 | 319=>266 | 320=>267 | 337=>292 | 338=>293 | n=>n,fun | 3=>3 | 9=>9 | 2=>2 | 4=>4 | 171=>246 | 0=>0 | 53=>213 | 37=>64 | 5=>5 | 173=>248 | 212=>281 | 51=>210 | 20=>20 | 213=>282 | 46=>93 | 232=>295 | 233=>296 | n=>n,fun | 17=>5 | 18=>6 | 19=>7 | n=>n⟩
theorem Tryz.laysM171:Go.Proofs.LaysM.n171 Tryz.prog Tryz.laysM171_ren:={
 mixed:=by kernel_rfl
 f129:=Tryz.func219.trans (congrArg some (by kernel_rfl))
 f171:=Tryz.func87.trans (congrArg some (by kernel_rfl))
 f243:=Tryz.func138.trans (congrArg some (by kernel_rfl))
 f246:=Tryz.func183.trans (congrArg some (by kernel_rfl))
 f283:=Tryz.func234.trans (congrArg some (by kernel_rfl))
 f284:=Tryz.func235.trans (congrArg some (by kernel_rfl))
 f285:=Tryz.func236.trans (congrArg some (by kernel_rfl))
 f286:=Tryz.func237.trans (congrArg some (by kernel_rfl))
 f317:=Tryz.func264.trans (congrArg some (by kernel_rfl))
 f318:=Tryz.func265.trans (congrArg some (by kernel_rfl))
 f319:=Tryz.func266.trans (congrArg some (by kernel_rfl))
 f320:=Tryz.func267.trans (congrArg some (by kernel_rfl))
 f337:=Tryz.func292.trans (congrArg some (by kernel_rfl))
 f338:=Tryz.func293.trans (congrArg some (by kernel_rfl))
 t0:=Tryz.underlying0
 a0:=Tryz.isAgg0
 z0:=Tryz.sizeOf0
 v0:=Tryz.zeroValue0
 t2:=Tryz.underlying2
 a2:=Tryz.isAgg2
 z2:=Tryz.sizeOf2
 v2:=Tryz.zeroValue2
 t3:=Tryz.underlying3
 a3:=Tryz.isAgg3
 z3:=Tryz.sizeOf3
 v3:=Tryz.zeroValue3
 t4:=Tryz.underlying4
 a4:=Tryz.isAgg4
 z4:=Tryz.sizeOf4
 v4:=Tryz.zeroValue4
 t5:=Tryz.underlying5
 a5:=Tryz.isAgg5
 z5:=Tryz.sizeOf5
 v5:=Tryz.zeroValue5
 t9:=Tryz.underlying9
 a9:=Tryz.isAgg9
 z9:=Tryz.sizeOf9
 v9:=Tryz.zeroValue9
 t20:=Tryz.underlying20
 a20:=Tryz.isAgg20
 z20:=Tryz.sizeOf20
 v20:=Tryz.zeroValue20
 t37:=Tryz.underlying64
 a37:=Tryz.isAgg64
 z37:=Tryz.sizeOf64
 v37:=Tryz.zeroValue64
 t46:=Tryz.underlying93
 a46:=Tryz.isAgg93
 z46:=Tryz.sizeOf93
 v46:=Tryz.zeroValue93
 t51:=Tryz.underlying210
 a51:=Tryz.isAgg210
 z51:=Tryz.sizeOf210
 v51:=Tryz.zeroValue210
 t53:=Tryz.underlying213
 a53:=Tryz.isAgg213
 z53:=Tryz.sizeOf213
 v53:=Tryz.zeroValue213
 t171:=Tryz.underlying246
 a171:=Tryz.isAgg246
 z171:=Tryz.sizeOf246
 v171:=Tryz.zeroValue246
 t173:=Tryz.underlying248
 a173:=Tryz.isAgg248
 z173:=Tryz.sizeOf248
 v173:=Tryz.zeroValue248
 t212:=Tryz.underlying281
 a212:=Tryz.isAgg281
 z212:=Tryz.sizeOf281
 v212:=Tryz.zeroValue281
 t213:=Tryz.underlying282
 a213:=Tryz.isAgg282
 z213:=Tryz.sizeOf282
 t232:=Tryz.underlying295
 a232:=Tryz.isAgg295
 z232:=Tryz.sizeOf295
 v232:=Tryz.zeroValue295
 t233:=Tryz.underlying296
 a233:=Tryz.isAgg296
 z233:=Tryz.sizeOf296
 v233:=Tryz.zeroValue296
 g17:=by kernel_rfl
 g18:=by kernel_rfl
 g19:=by kernel_rfl
 i0:=by kernel_rfl
 i2:=by kernel_rfl
 i3:=by kernel_rfl
 i4:=by kernel_rfl
 i5:=by kernel_rfl
 i9:=by kernel_rfl
 i20:=by kernel_rfl
 i37:=by kernel_rfl
 i46:=by kernel_rfl
 i51:=by kernel_rfl
 i53:=by kernel_rfl
 i171:=by kernel_rfl
 i173:=by kernel_rfl
 i212:=by kernel_rfl
 i232:=by kernel_rfl
 i233:=by kernel_rfl
 m17:=by kernel_rfl
 m18:=by kernel_rfl
 m19:=by kernel_rfl }
open Go.RowKit Go.Sort Go.Lib in
theorem Tryz.strconv_Itoa (n:Int)(h0:-9223372036854775808<=n)(h1:n<=9223372036854775807)(w:World)(htab:Lib.TabIs Tryz.prog w "internal/strconv.uint64pow10" .u64 Lib.pow10Tab) :
  Calls Tryz.prog 87 #[.int .i64 n] w fun e w'=>e = .returned (.string ⟨(Lib.itoa n).toArray⟩)/\∃ k os,w'=grow (w.drewN k) os:=Any.strconv_Itoa Tryz.laysM171 n h0 h1 w htab
def Tryz.lays150_ren:Go.Shelf.Ren:=⟨fun | 150=>101 | 153=>153 | 152=>204 | 226=>205 | 227=>206 | 228=>207 | 137=>73 | 119=>254 | 224=>227 | 225=>226 | 217=>123 | 266=>175 | n=>n,fun | 9=>9 | 4=>4 | 3=>3 | 5=>5 | 21=>21 | 117=>227 | 116=>226 | 0=>0 | 46=>93 | 124=>264 | n=>n,fun | n=>n⟩
theorem Tryz.lays150:Go.Proofs.Lays.n150 Tryz.prog Tryz.lays150_ren:={
 mixed:=by kernel_rfl
 f119:=Tryz.func254.trans (congrArg some (by kernel_rfl))
 f137:=Tryz.func73.trans (congrArg some (by kernel_rfl))
 f150:=Tryz.func101.trans (congrArg some (by kernel_rfl))
 f152:=Tryz.func204.trans (congrArg some (by kernel_rfl))
 f153:=Tryz.func153.trans (congrArg some (by kernel_rfl))
 f217:=Tryz.func123.trans (congrArg some (by kernel_rfl))
 f224:=Tryz.func227.trans (congrArg some (by kernel_rfl))
 f225:=Tryz.func226.trans (congrArg some (by kernel_rfl))
 f226:=Tryz.func205.trans (congrArg some (by kernel_rfl))
 f227:=Tryz.func206.trans (congrArg some (by kernel_rfl))
 f228:=Tryz.func207.trans (congrArg some (by kernel_rfl))
 f266:=Tryz.func175.trans (congrArg some (by kernel_rfl))
 t0:=Tryz.underlying0
 a0:=Tryz.isAgg0
 z0:=Tryz.sizeOf0
 v0:=Tryz.zeroValue0
 t3:=Tryz.underlying3
 a3:=Tryz.isAgg3
 z3:=Tryz.sizeOf3
 v3:=Tryz.zeroValue3
 t4:=Tryz.underlying4
 a4:=Tryz.isAgg4
 z4:=Tryz.sizeOf4
 v4:=Tryz.zeroValue4
 t5:=Tryz.underlying5
 a5:=Tryz.isAgg5
 z5:=Tryz.sizeOf5
 v5:=Tryz.zeroValue5
 t9:=Tryz.underlying9
 a9:=Tryz.isAgg9
 z9:=Tryz.sizeOf9
 v9:=Tryz.zeroValue9
 t21:=Tryz.underlying21
 a21:=Tryz.isAgg21
 z21:=Tryz.sizeOf21
 v21:=Tryz.zeroValue21
 t46:=Tryz.underlying93
 a46:=Tryz.isAgg93
 z46:=Tryz.sizeOf93
 v46:=Tryz.zeroValue93
 t116:=Tryz.underlying226
 a116:=Tryz.isAgg226
 z116:=Tryz.sizeOf226
 t117:=Tryz.underlying227
 a117:=Tryz.isAgg227
 z117:=Tryz.sizeOf227
 v117:=Tryz.zeroValue227
 t124:=Tryz.underlying264
 a124:=Tryz.isAgg264
 z124:=Tryz.sizeOf264
 v124:=Tryz.zeroValue264 }
open Go.RowKit Go.Lib in
theorem Tryz.strings_ContainsAny_laid (s chars:ByteArray)(w:World)(hs:s.size<4294967281)(hcs:chars.size<4294967281)(has:∀ (j:Nat) b,s.data.toList[j]? = some b->b.toNat<128)(hac:∀ (j:Nat) b,chars.data.toList[j]? = some b->b.toNat<128) :
  Calls Tryz.prog 101 #[.string s,.string chars] w fun e w'=>e = .returned (.bool (Lib.containsAny s.data.toList chars.data.toList))/\Below w.heap.size w w':=Any.strings_ContainsAny_laid Tryz.lays150 (by kernel_rfl) s chars w hs hcs has hac
end Go.Proofs
/-
 DERIVED: THE SHELF's CONTRACTS AT THIS DUMP,IN PLAIN WORDS (tools/lay-plain.mjs out of 'TryzVal.lean',which tools/lay-shelf.mjs wrote): THE SAME DECLARATIONS UNDER THE SAME NAMES: 'import','namespace','open','def','theorem' AND NOTHING ELSE: no command of the shelf's: FOR A HAND-IN. Each laying: the table of numbers ('.._ren') and one theorem,a field a fact of the dump's own or the kernel's comparison;each fY: ONE APPLICATION.
-/
namespace Go.Proofs
open Go.Shelf
def Tryz.lays196_ren:Go.Shelf.Ren:=⟨fun | 196=>232 | 259=>263 | n=>n,fun | 9=>9 | 4=>4 | 3=>3 | 5=>5 | 12=>12 | 119=>270 | 0=>0 | 46=>93 | 139=>273 | 138=>272 | 53=>213 | n=>n,fun | 3=>3 | 4=>4 | n=>n⟩
theorem Tryz.lays196:Go.Proofs.Lays.n196 Tryz.prog Tryz.lays196_ren:={
 mixed:=by kernel_rfl
 f196:=Tryz.func232.trans (congrArg some (by kernel_rfl))
 f259:=Tryz.func263.trans (congrArg some (by kernel_rfl))
 t0:=Tryz.underlying0
 a0:=Tryz.isAgg0
 z0:=Tryz.sizeOf0
 v0:=Tryz.zeroValue0
 t3:=Tryz.underlying3
 a3:=Tryz.isAgg3
 z3:=Tryz.sizeOf3
 v3:=Tryz.zeroValue3
 t4:=Tryz.underlying4
 a4:=Tryz.isAgg4
 z4:=Tryz.sizeOf4
 v4:=Tryz.zeroValue4
 t5:=Tryz.underlying5
 a5:=Tryz.isAgg5
 z5:=Tryz.sizeOf5
 v5:=Tryz.zeroValue5
 t9:=Tryz.underlying9
 a9:=Tryz.isAgg9
 z9:=Tryz.sizeOf9
 v9:=Tryz.zeroValue9
 t12:=Tryz.underlying12
 a12:=Tryz.isAgg12
 z12:=Tryz.sizeOf12
 v12:=Tryz.zeroValue12
 t46:=Tryz.underlying93
 a46:=Tryz.isAgg93
 z46:=Tryz.sizeOf93
 v46:=Tryz.zeroValue93
 t53:=Tryz.underlying213
 a53:=Tryz.isAgg213
 z53:=Tryz.sizeOf213
 v53:=Tryz.zeroValue213
 t119:=Tryz.underlying270
 a119:=Tryz.isAgg270
 z119:=Tryz.sizeOf270
 t138:=Tryz.underlying272
 a138:=Tryz.isAgg272
 z138:=Tryz.sizeOf272
 v138:=Tryz.zeroValue272
 t139:=Tryz.underlying273
 a139:=Tryz.isAgg273
 z139:=Tryz.sizeOf273
 v139:=Tryz.zeroValue273
 g3:=by kernel_rfl
 g4:=by kernel_rfl }
end Go.Proofs
set_option maxRecDepth 100000
namespace Go.Proofs.YtbaaokocnegdoaaGreatDoor
open Go Go.Ab
def R4:List PV:=(List.range 256).map fun c=>PV.int .u8 (Lib.firstT c:Nat)
def OF:List PV:=(List.range 32).map fun c=>PV.int .u8 (if c % 2=0 then Lib.accLo (c / 2) else Lib.accHi (c / 2):Nat)
def aq:Nat->List PV:=fun g=>if g=5 then Lib.pow10Tab.map (PV.int .u64) else if g=3 then R4 else if g=4 then OF else []
theorem DB (n:Int)(h0:-9223372036854775808<=n)(h1:n<=9223372036854775807):ak Tryz.prog aq 87 [.int .i64 n] (.str (mp n)):=
 DA (name:= "internal/strconv.uint64pow10") (g:=5) (by kernel_rfl) (by kernel_rfl) rfl (fun n h0 h1 w ht=>Tryz.strconv_Itoa n h0 h1 w ht) n h0 h1
theorem zm (a b:List UInt8):ak Tryz.prog aq 114 [.str a,.str b] (.int .i64 (Lib.compareBytes a b)):=
 qX (by kernel_rfl) (fun a b w=>Tryz.strings_Compare a b w) a b
theorem tE (a b:List UInt8)(ha:a.length<4294967281)(hb:b.length<4294967281)(ha1:a.all (fun c=>decide (c.toNat<128))=true)(hb1:b.all (fun c=>decide (c.toNat<128))=true) :
  ak Tryz.prog aq 101 [.str a,.str b] (.bool (Lib.containsAny a b)):=by
 refine cQ (by kernel_rfl) fun w imm vals hGl hsz hargs=>?_
 have hv:=AN hsz
 obtain⟨h1,_⟩:=km (hargs 0 (.str a) rfl)
 obtain⟨h2,_⟩:=km (hargs 1 (.str b) rfl)
 rw[hv,h1,h2]
 have asc:∀ {l:List UInt8},l.all (fun c=>decide (c.toNat<128))=true->∀ (j:Nat) c,(⟨l.toArray⟩:ByteArray).data.toList[j]? = some c->c.toNat<128:=by
  intro l hl j c hc
  have:=List.all_eq_true.1 hl c (List.mem_of_getElem? hc)
  simpa using this
 refine (Tryz.strings_ContainsAny_laid ⟨a.toArray⟩ ⟨b.toArray⟩ w (by simpa[ByteArray.size] using ha) (by simpa[ByteArray.size] using hb) (asc ha1) (asc hb1)).mono ?_
 rintro e w' ⟨rfl,hB⟩
 exact⟨_,rfl,hB,by simpa using PRel.bool (w:=w') (imm:=imm) (Lib.containsAny a b)⟩
theorem oA {G:Nat->List PV}{w:World}{imm:Nat->Nat->Prop}(h:bM G w imm){g o:Nat}{k:IntKind}{n:Int}(hp:(G g)[o]? = some (.int k n)):w.cell? ⟨g,o,none⟩=some (.int k n):=by
 obtain⟨_,v,h1,_,h2⟩:=h.1 g o _ hp
 cases h2;exact h1
theorem AS {w:World}{imm:Nat->Nat->Prop}(h:bM aq w imm):Lib.Utf8Tabs 3 4 w:=by
 refine⟨fun c hc=>?_,fun i hi=>⟨?_,?_⟩⟩
 ·refine oA h ?_
  show R4[c]? = _
  rw[R4,List.getElem?_map,List.getElem?_range hc];rfl
 ·refine oA h ?_
  show OF[2*i]? = _
  rw[OF,List.getElem?_map,List.getElem?_range (by omega)]
  simp only[Option.map_some]
  rw[if_pos (by omega),show 2*i / 2=i by omega]
 ·refine oA h ?_
  show OF[2*i+1]? = _
  rw[OF,List.getElem?_map,List.getElem?_range (by omega)]
  simp only[Option.map_some]
  rw[if_neg (by omega),show (2*i+1) / 2=i by omega]
theorem dL (s:List UInt8):ak Tryz.prog aq 232 [.str s] (.bool (Lib.validD s)):=by
 refine cQ (by kernel_rfl) fun w imm vals hGl hsz hargs=>?_
 have hv:=AO hsz
 have h2:=hargs 0 (.str s) rfl
 generalize vals.getD 0 Go.undef=x at h2 hv
 cases h2 with
 | str s hs=>
   rw[hv]
   refine (Any.utf8_ValidString Tryz.lays196 s w (by unfold maxLen at hs;omega) (AS hGl)).mono ?_
   rintro e w' ⟨rfl,hb⟩
   exact⟨_,rfl,hb,.bool _⟩
def orc (f:Nat)(ps:List PV):Option PV:=
 match f with
 | 87=>match ps with
   | [.int .i64 n]=>if -9223372036854775808<=n/\n<=9223372036854775807 then some (.str (mp n)) else none
   | _=>none
 | 114=>match ps with
   | [.str a,.str b]=>some (.int .i64 (Lib.compareBytes a b))
   | _=>none
 | 101=>match ps with
   | [.str a,.str b]=>if a.length<4294967281/\b.length<4294967281/\a.all (fun c=>decide (c.toNat<128))=true/\b.all (fun c=>decide (c.toNat<128))=true then some (.bool (Lib.containsAny a b)) else none
   | _=>none
 | _=>none
theorem ci:∀ f ps r,orc f ps=some r->ak Tryz.prog aq f ps r:=by
 intro f ps r h
 unfold orc at h
 split at h
 ·split at h
  ·split at h
   ·rename_i hh;cases h;exact DB _ hh.1 hh.2
   ·cases h
  ·cases h
 ·split at h
  ·cases h;exact zm _ _
  ·cases h
 ·split at h
  ·split at h
   ·rename_i hh;cases h;exact tE _ _ hh.1 hh.2.1 hh.2.2.1 hh.2.2.2
   ·cases h
  ·cases h
 ·cases h
noncomputable def tab:List TabRow:=[
 ⟨14,[],gF Tryz.prog 14 []⟩,
 ⟨47,[],Q47.1⟩,
 ⟨20,[],gF Tryz.prog 20 []⟩,
 ⟨40,[],gF Tryz.prog 40 []⟩,
 ⟨22,[3],Q22.1⟩,
 ⟨15,[2,3],Q15.1⟩,
 ⟨73,[],Q73.1⟩,
 ⟨17,[],Q17.1⟩,
 ⟨37,[2,3],Q37.1⟩,
 ⟨52,[2],Q52.1⟩,
 ⟨16,[],gF Tryz.prog 16 []⟩,
 ⟨53,[],gF Tryz.prog 53 []⟩,
 ⟨26,[],gF Tryz.prog 26 []⟩,
 ⟨57,[24],Q57.1⟩,
 ⟨12,[],Q12.1⟩,
 ⟨58,[],gF Tryz.prog 58 []⟩,
 ⟨59,[33],gF Tryz.prog 59 [33]⟩,
 ⟨123,[],Sn⟩,
 ⟨48,[],gF Tryz.prog 48 []⟩,
 ⟨49,[1],Q49.1⟩,
 ⟨80,[5,6],Q80.1⟩,
 ⟨100,[2,3],R0.1⟩,
 ⟨32,[],Q32.1⟩,
 ⟨42,[],Q42.1⟩,
 ⟨43,[14],Q43.1⟩,
 ⟨44,[],Q44.1⟩,
 ⟨45,[],gF Tryz.prog 45 []⟩,
 ⟨66,[14],Q66.1⟩,
 ⟨68,[],gF Tryz.prog 68 []⟩,
 ⟨108,[],we.1⟩,
 ⟨33,[44],Q33.1⟩,
 ⟨35,[],Q35.1⟩,
 ⟨109,[],RZ.1⟩,
 ⟨110,[2],K7.1⟩,
 ⟨111,[],RY.1⟩,
 ⟨112,[],gF Tryz.prog 112 []⟩,
 ⟨113,[],gF Tryz.prog 113 []⟩,
 ⟨94,[],gF Tryz.prog 94 []⟩,
 ⟨95,[],Q95.1⟩,
 ⟨96,[],Q96.1⟩,
 ⟨97,[1],Q97.1⟩,
 ⟨130,[1],Ow.1⟩,
 ⟨131,[5],Ov.1⟩,
 ⟨133,[5,6],gF Tryz.prog 133 [5,6]⟩,
 ⟨134,[2,3],gF Tryz.prog 134 [2,3]⟩,
 ⟨151,[],K2.1⟩,
 ⟨152,[2],RW.1⟩,
 ⟨86,[],Q86.1⟩,
 ⟨88,[],Q88.1⟩,
 ⟨89,[],gF Tryz.prog 89 []⟩,
 ⟨90,[19],F90⟩,
 ⟨91,[],gF Tryz.prog 91 []⟩,
 ⟨92,[],gF Tryz.prog 92 []⟩,
 ⟨161,[],RV.1⟩,
 ⟨71,[],Q71.1⟩,
 ⟨72,[12],gF Tryz.prog 72 [12]⟩,
 ⟨74,[],Q74.1⟩,
 ⟨75,[],Q75.1⟩,
 ⟨76,[],Q76.1⟩,
 ⟨77,[],Q77.1⟩,
 ⟨162,[],gF Tryz.prog 162 []⟩,
 ⟨163,[],gF Tryz.prog 163 []⟩,
 ⟨143,[],K4.1⟩,
 ⟨144,[],FG.1⟩,
 ⟨146,[],J1.1⟩,
 ⟨147,[],K3.1⟩,
 ⟨180,[],gF Tryz.prog 180 []⟩,
 ⟨181,[2],gF Tryz.prog 181 [2]⟩,
 ⟨125,[],Oy.1⟩,
 ⟨126,[],RX.1⟩,
 ⟨127,[],Ox.1⟩,
 ⟨209,[],KZ.1⟩,
 ⟨120,[],K6.1⟩,
 ⟨121,[],gF Tryz.prog 121 []⟩,
 ⟨124,[],J3.1⟩,
 ⟨128,[],Pb.1⟩,
 ⟨210,[],gF Tryz.prog 210 []⟩,
 ⟨219,[],gF Tryz.prog 219 []⟩,
 ⟨187,[],Oq.1⟩,
 ⟨188,[],RU.1⟩,
 ⟨189,[],RT.1⟩,
 ⟨191,[],gF Tryz.prog 191 []⟩,
 ⟨177,[],Ot.1⟩,
 ⟨176,[],K0.1⟩,
 ⟨169,[],K1.1⟩,
 ⟨240,[],FE.1⟩,
 ⟨241,[],FD.1⟩]
theorem Kd:∀ r∈tab,cFn Tryz.prog r.muts r.f=some r.fn:=by
 intro r hr
 simp only[tab,List.mem_cons,List.not_mem_nil,or_false] at hr
 rcases hr with rfl | rfl | rfl | rfl | rfl | rfl | rfl | rfl | rfl | rfl | rfl | rfl | rfl | rfl | rfl | rfl | rfl | rfl | rfl | rfl | rfl | rfl | rfl | rfl | rfl | rfl | rfl | rfl | rfl | rfl | rfl | rfl | rfl | rfl | rfl | rfl | rfl | rfl | rfl | rfl | rfl | rfl | rfl | rfl | rfl | rfl | rfl | rfl | rfl | rfl | rfl | rfl | rfl | rfl | rfl | rfl | rfl | rfl | rfl | rfl | rfl | rfl | rfl | rfl | rfl | rfl | rfl | rfl | rfl | rfl | rfl | rfl | rfl | rfl | rfl | rfl | rfl | rfl | rfl | rfl | rfl | rfl | rfl | rfl | rfl | rfl | rfl
 ·kernel_rfl
 ·exact Q47.2
 ·kernel_rfl
 ·kernel_rfl
 ·exact Q22.2
 ·exact Q15.2
 ·exact Q73.2
 ·exact Q17.2
 ·exact Q37.2
 ·exact Q52.2
 ·kernel_rfl
 ·kernel_rfl
 ·kernel_rfl
 ·exact Q57.2
 ·exact Q12.2
 ·kernel_rfl
 ·kernel_rfl
 ·exact FJ
 ·kernel_rfl
 ·exact Q49.2
 ·exact Q80.2
 ·exact R0.2
 ·exact Q32.2
 ·exact Q42.2
 ·exact Q43.2
 ·exact Q44.2
 ·kernel_rfl
 ·exact Q66.2
 ·kernel_rfl
 ·exact we.2
 ·exact Q33.2
 ·exact Q35.2
 ·exact RZ.2
 ·exact K7.2
 ·exact RY.2
 ·kernel_rfl
 ·kernel_rfl
 ·kernel_rfl
 ·exact Q95.2
 ·exact Q96.2
 ·exact Q97.2
 ·exact Ow.2
 ·exact Ov.2
 ·kernel_rfl
 ·kernel_rfl
 ·exact K2.2
 ·exact RW.2
 ·exact Q86.2
 ·exact Q88.2
 ·kernel_rfl
 ·exact K8
 ·kernel_rfl
 ·kernel_rfl
 ·exact RV.2
 ·exact Q71.2
 ·kernel_rfl
 ·exact Q74.2
 ·exact Q75.2
 ·exact Q76.2
 ·exact Q77.2
 ·kernel_rfl
 ·kernel_rfl
 ·exact K4.2
 ·exact FG.2
 ·exact J1.2
 ·exact K3.2
 ·kernel_rfl
 ·kernel_rfl
 ·exact Oy.2
 ·exact RX.2
 ·exact Ox.2
 ·exact KZ.2
 ·exact K6.2
 ·kernel_rfl
 ·exact J3.2
 ·exact Pb.2
 ·kernel_rfl
 ·kernel_rfl
 ·exact Oq.2
 ·exact RU.2
 ·exact RT.2
 ·kernel_rfl
 ·exact Ot.2
 ·exact K0.2
 ·exact K1.2
 ·exact FE.2
 ·exact FD.2
theorem Iz:dt (exF tab orc aq 5000 60) 14 []=some (.bool true):=by kernel_rfl
theorem Iy:ak Tryz.prog aq 14 [] (.bool true):=ak.of_ex Kd ci Iz
attribute [local irreducible] vc
theorem dI {P:Prop}(h:P:=by first | exact NU | (unfold Chk;decide +kernel) | omega | exact Q9 (by with_unfolding_all rfl) | (simp[ag]<;>omega) | fail):P:=h
theorem qsZ{P:Prop}(h:P:=by simp(disch:=try exact dI) only[push_cast,seval]):P:=h
theorem zgZ{P Q:Prop}(h:Q)(e:P=Q:=by simp(disch:=try exact dI) only[push_cast,seval];rfl):P:=e.mpr h
end Go.Proofs.YtbaaokocnegdoaaGreatDoor
namespace Go.Ab
open Go
abbrev Cel:=List UInt8×Bool
def bad (c:UInt8):Bool:=c == 34||(c == 13||c == 10)
def cb (sep:UInt8):List UInt8->Nat×Bool
 | []=>(0,false)
 | c::r=>if c=sep then (0,false) else if bad c=true then (0,true) else ((cb sep r).1+1,(cb sep r).2)
def kM (c:UInt8)(n:Nat)(p:List UInt8×Nat):List UInt8×Nat:=(c::p.1,p.2+n)
def bD:List UInt8->Option (List UInt8×Nat)
 | []=>none
 | [c]=>if c=34 then some ([],1) else none
 | c::d::r=>if c=34 then (if d=34 then (bD r).map (kM 34 2) else some ([],1)) else (bD (d::r)).map (kM c 1)
theorem jQ {c:UInt8}(h:c≠34)(r:List UInt8):bD (c::r)=(bD r).map (kM c 1):=by
 cases r with
 | nil=>simp[bD,h]
 | cons d r=>rw[bD];simp[h]
theorem GK (r:List UInt8):bD (34::34::r)=(bD r).map (kM 34 2):=by rw[bD];simp
theorem GL:bD [34]=some ([],1):=by rw[bD];simp
theorem GJ {d:UInt8}(h:d≠34)(r:List UInt8):bD (34::d::r)=some ([],1):=by rw[bD];simp[h]
def mg (t:List UInt8)(n:Nat)(p:List UInt8×Nat):List UInt8×Nat:=(t++p.1,n+p.2)
theorem na (c:UInt8):∀ (l:List UInt8) (i:Nat),(gJ c l i = -1/\∀ b,b∈l->b≠c)\/∃ m,gJ c l i=((i+m:Nat):Int)/\l[m]? = some c/\∀ b,b∈l.take m->b≠c
 | [],i=>.inl ⟨rfl,by simp⟩
 | b::r,i=>by
   by_cases h:b=c
   ·subst h
    exact .inr ⟨0,by simp[gJ],by simp,by simp⟩
   ·have e:gJ c (b::r) i=gJ c r (i+1):=by simp[gJ,h]
    rcases na c r (i+1) with ⟨h1,h2⟩ | ⟨m,h1,h2,h3⟩
    ·exact .inl ⟨e.trans h1,fun x hx=>by rcases List.mem_cons.1 hx with rfl | hx;exact h;exact h2 x hx⟩
    ·refine .inr ⟨m+1,by rw[e,h1];congr 1;omega,by simpa using h2,fun x hx=>?_⟩
     rw[List.take_succ_cons] at hx
     rcases List.mem_cons.1 hx with rfl | hx
     ·exact h
     ·exact h3 x hx
theorem mP:∀ {l:List UInt8},(∀ b,b∈l->b≠34)->bD l=none
 | [],_=>rfl
 | c::r,h=>by
   rw[jQ (h c (by simp)),mP fun b hb=>h b (by simp[hb])];rfl
theorem mO:∀ {m:Nat} {l:List UInt8},m<=l.length->(∀ b,b∈l.take m->b≠34)->bD l=(bD (l.drop m)).map (mg (l.take m) m)
 | 0,l,_,_=>by
   have:(mg ([]:List UInt8) 0)=id:=by funext p;simp[mg]
   simp[this]
 | m+1,[],h,_=>by simp at h
 | m+1,c::r,hm,h=>by
   rw[List.take_succ_cons] at h
   rw[jQ (h c (by simp)),mO (m:=m) (by simpa using hm) fun b hb=>h b (by simp[hb])]
   rw[List.drop_succ_cons,List.take_succ_cons]
   cases bD (r.drop m) with
   | none=>rfl
   | some p=>simp[mg,kM];omega
def Kr (l:List UInt8):Option (List UInt8×Nat):=
 if l[0]? = some 34 then (bD (l.drop 1)).map (kM 34 2) else some ([],1)
theorem nL (r:List UInt8):bD (34::r)=Kr r:=by
 cases r with
 | nil=>rw[GL];rfl
 | cons d r=>
   by_cases h:d=34
   ·subst h;rw[GK];simp[Kr]
   ·rw[GJ h];simp[Kr,h]
theorem Bs {l:List UInt8}{m:Nat}(h:l[m]? = some 34)(hn:∀ b,b∈l.take m->b≠34):bD l=(Kr (l.drop (m+1))).map (mg (l.take m) m):=by
 have hm:m<l.length:=(List.getElem?_eq_some_iff.1 h).1
 rw[mO (Nat.le_of_lt hm) hn,ba h,nL]
inductive Out where
 | err (o:Nat) (e:Int)
 | ok (c:Cel) (a:Nat)
def bp (L:List UInt8)(sep:UInt8)(a:Nat):Out:=
 if (cb sep (L.drop a)).2=true then .err (a+(cb sep (L.drop a)).1) 6 else .ok ((L.drop a).take (cb sep (L.drop a)).1,false) (a+(cb sep (L.drop a)).1)
def bx (L:List UInt8)(sep:UInt8):Option (List UInt8×Nat)->Out
 | none=>.err L.length 29
 | some p=>match L[p.2]? with
   | some b=>if b=sep then .ok (p.1,true) p.2 else .err p.2 13
   | none=>.ok (p.1,true) p.2
def gd (L:List UInt8)(sep:UInt8)(a:Nat):Out:=bx L sep ((bD (L.drop a)).map (mg [] a))
def my (L:List UInt8)(sep:UInt8)(a:Nat):Out:=
 if L[a]? = some 34 then gd L sep (a+1) else bp L sep a
inductive Res where
 | err (o:Nat) (e:Int)
 | ok (c:List Cel) (p:List Nat)
def runN (L:List UInt8)(sep:UInt8)(a:Nat)(C:List Cel)(Pl:List Nat):Res:=
 if C.length=64 then .err a 9 else
 match my L sep a with
 | .err o e=>.err o e
 | .ok c a'=>if L.length<=a' then .ok (C++[c]) (Pl++[a]) else if h:a<=a'/\a'<L.length then runN L sep (a'+1) (C++[c]) (Pl++[a]) else .err 0 0
termination_by L.length - a
decreasing_by omega
def FT (L:List UInt8)(sep:UInt8)(a:Nat)(C:List Cel)(Pl:List Nat):Res:=
 if L.length<=a then .ok C Pl else runN L sep (a+1) C Pl
def fy (L:List UInt8)(sep:UInt8)(C:List Cel)(Pl:List Nat):Out->Res
 | .err o e=>.err o e
 | .ok c a'=>FT L sep a' (C++[c]) Pl
theorem uf (sep:UInt8):∀ l:List UInt8,(cb sep l).1<=l.length
 | []=>by simp[cb]
 | c::r=>by
   have:=uf sep r
   simp only[cb]
   split
   ·simp
   ·split
    ·simp
    ·simpa using this
theorem nK:∀ (n:Nat) (l:List UInt8),l.length<=n->∀ p,bD l=some p->p.2<=l.length/\p.1.length<=l.length
 | 0,l,h,p,hp=>by
   have:l=[]:=by cases l<;>simp_all
   subst this;simp[bD] at hp
 | n+1,[],h,p,hp=>by simp[bD] at hp
 | n+1,c::r,h,p,hp=>by
   simp only[List.length_cons,Nat.succ_le_succ_iff] at h
   by_cases hc:c=34
   ·subst hc
    rw[nL] at hp
    unfold Kr at hp
    split at hp
    ·rename_i h0
     simp only[Option.map_eq_some_iff] at hp
     obtain⟨q,hq,rfl⟩:=hp
     obtain⟨d,r',rfl⟩:∃ d r',r=d::r':=by cases r with | nil=>simp at h0 | cons d r'=>exact⟨d,r',rfl⟩
     have:=nK n r' (by simp at h;omega) q (by simpa using hq)
     simp[kM];omega
    ·cases hp;simp
   ·rw[jQ hc] at hp
    simp only[Option.map_eq_some_iff] at hp
    obtain⟨q,hq,rfl⟩:=hp
    have:=nK n r h q hq
    simp[kM];omega
theorem kP {L:List UInt8}{sep:UInt8}{a:Nat}{c:Cel}{a':Nat}(ha:a<=L.length)(h:bp L sep a = .ok c a'):a<=a'/\a'<=L.length/\c.1.length<=L.length:=by
 have:=uf sep (L.drop a)
 rw[List.length_drop] at this
 unfold bp at h
 split at h
 ·cases h
 ·cases h
  simp;omega
theorem nS {L:List UInt8}{sep:UInt8}{a:Nat}{c:Cel}{a':Nat}(ha:a<=L.length)(h:gd L sep a = .ok c a'):a<=a'/\a'<=L.length/\c.1.length<=L.length:=by
 unfold gd at h
 cases hq:bD (L.drop a) with
 | none=>rw[hq] at h;simp[bx] at h
 | some p=>
   have:=nK _ _ (Nat.le_refl _) p hq
   rw[List.length_drop] at this
   rw[hq] at h
   simp only[Option.map_some,bx,mg] at h
   split at h
   ·split at h
    ·cases h;simp;omega
    ·cases h
   ·cases h;simp;omega
theorem vQ {L:List UInt8}{sep:UInt8}{a:Nat}{c:Cel}{a':Nat}(ha:a<=L.length)(h:my L sep a = .ok c a'):a<=a'/\a'<=L.length/\c.1.length<=L.length:=by
 unfold my at h
 split at h
 ·rename_i h0
  have:=(List.getElem?_eq_some_iff.1 h0).1
  have:=nS (by omega) h
  omega
 ·exact kP ha h
theorem runN_eq {L:List UInt8}{sep:UInt8}{a:Nat}{C:List Cel}{Pl:List Nat}(ha:a<=L.length) :
  runN L sep a C Pl=if C.length=64 then .err a 9 else fy L sep C (Pl++[a]) (my L sep a):=by
 rw[runN]
 split
 ·rfl
 ·cases h:my L sep a with
  | err o e=>rfl
  | ok c a'=>
    have:=vQ ha h
    simp only[fy,FT]
    split
    ·rfl
    ·rw[dif_pos (by omega)]
end Go.Ab
namespace Go.Proofs.YtbaaokocnegdoaaGreatDoor
open Go Go.Ab
attribute [local irreducible] vc
def aB:Bool->AV
 | true=>.ptr 0 0
 | false=>.pv .nilp
def bB (t:Bool):List UInt8->List Blk
 | []=>[.cells 89 true [aB t,.pv .nils]]
 | b::r=>[.cells 89 true [aB t,.row 1 1 0 (r.length+1)],.cells 5 false ((aF (b::r)).map .pv)]
theorem Q1 (t:Bool)(l:List UInt8):bF Tryz.prog aq 1 90 [.ptr 0 0] (bB t l) (.pv (.tup [])) (bB true l):=by
 refine bF.intro K8 (by simp[F90]) ?_
 cases l with
 | nil=>
   cases t with
   | true=>
     simp(disch:=try exact dI) only[F90,bB,aB,push_cast,seval]
     exact aE [] qsZ
   | false=>
     simp(disch:=try exact dI) only[F90,bB,aB,push_cast,seval]
     exact aE [] qsZ
 | cons b r=>
   cases t with
   | true=>
     simp(disch:=try exact dI) only[F90,bB,aB,push_cast,seval]
     exact aE [] qsZ
   | false=>
     simp(disch:=try exact dI) only[F90,bB,aB,push_cast,seval]
     exact aE [] qsZ
theorem oT (t:Bool)(l:List UInt8)(c:UInt8)(hl:l.length<=100000000):bF Tryz.prog aq 1 43 [.ptr 0 0,.pv (.int .u8 (c.toNat:Int))] (bB t l) (.pv .nili) (bB true (l++[c])):=by
 have hC:=Q1 t l
 refine bF.intro Q43.2 (by simp[Q43]) ?_
 cases l with
 | nil=>
   cases t<;>(
   try simp only[bB,aB] at hC
   simp(disch:=try exact dI) only[Q43,bB,aB,push_cast,seval]
   refine ab.lentK hC [0] rfl qsZ qsZ ?_
   simp(disch:=try exact dI) only[bB,aB,push_cast,seval]
   exact aE [] (by simp(disch:=try exact dI) only[aF,push_cast,seval]))
 | cons b r=>
   have hA:=fun new q=>Ae (t:=5) (q:=q) (new:=new) (f:=false) (l:=b::r) (c:=c) (len:=r.length+1) rfl (by simp at hl ⊢;omega)
   cases t<;>(
   try simp only[bB,aB] at hC
   simp(disch:=try exact dI) only[Q43,bB,aB,push_cast,seval]
   refine ab.lentK hC [0,1] rfl qsZ qsZ ?_
   simp(disch:=try exact dI) only[bB,aB,hA,push_cast,seval]
   exact aE [] (by simp(disch:=try exact dI) only[aF,List.length_append,push_cast,seval]))
theorem J7 (t:Bool)(l k:List UInt8)(hl:l.length<=100000000)(hk:k.length<=100000000):bF Tryz.prog aq 1 66 [.ptr 0 0,.pv (.str k)] (bB t l) (.pv (.tup [.int .i64 (k.length:Int),.nili])) (bB true (l++k)):=by
 have hC:=Q1 t l
 refine bF.intro Q66.2 (by simp[Q66]) ?_
 cases l with
 | nil=>
   cases k with
   | nil=>
     cases t<;>(
     try simp only[bB,aB] at hC
     simp(disch:=try exact dI) only[Q66,bB,aB,push_cast,seval]
     refine ab.lentK hC [0] rfl qsZ qsZ ?_
     simp(disch:=try exact dI) only[bB,aB,push_cast,seval]
     exact aE [] qsZ)
   | cons c k=>
     simp only[List.length_cons] at hk
     cases t<;>(
     try simp only[bB,aB] at hC
     simp(disch:=try exact dI) only[Q66,bB,aB,push_cast,seval]
     refine ab.lentK hC [0] rfl qsZ qsZ ?_
     simp(disch:=try exact dI) only[bB,aB,push_cast,seval]
     exact aE [] qsZ)
 | cons b r=>
   have e2:(r++k).length+1=r.length+1+k.length:=by simp;omega
   have hA:=fun new q=>JH (t:=5) (q:=q) (new:=new) (f:=false) (l:=b::r) (k:=k) (len:=r.length+1) rfl (by simp at hl ⊢;omega)
   cases t<;>(
   try simp only[bB,aB] at hC
   simp(disch:=try exact dI) only[Q66,bB,aB,push_cast,seval]
   refine ab.lentK hC [0,1] rfl qsZ qsZ ?_
   simp(disch:=try exact dI) only[bB,aB,hA,push_cast,seval]
   exact aE [] (by simp(disch:=try exact dI) only[e2,push_cast,seval]))
def stB:List UInt8->List Blk
 | []=>[.none]
 | _::_=>[.none,.none]
theorem rQ (t:Bool)(l:List UInt8)(hl:l.length<=100000000):bF Tryz.prog aq 1 44 [.ptr 0 0] (bB t l) (.pv (.str l)) (stB l):=by
 refine bF.intro Q44.2 (by simp[Q44]) ?_
 cases l with
 | nil=>
   cases t<;>(
   try simp only[bB,aB] at hC
   simp(disch:=try exact dI) only[Q44,bB,aB,push_cast,seval]
   exact aE [] (by simp(disch:=try exact dI) only[stB,push_cast,seval]))
 | cons b r=>
   have hA:=fun (k:Int) (q:Nat) (hk:k=((b::r).length:Int))=>F9 (t:=5) (r:=q) (f:=false) (l:=b::r) hk (by simp) (by simp at hl ⊢;omega)
   cases t<;>(
   try simp only[bB,aB] at hC
   simp(disch:=try exact dI) only[Q44,bB,aB,hA,push_cast,seval]
   exact aE [] (by simp(disch:=try exact dI) only[stB,push_cast,seval]))
end Go.Proofs.YtbaaokocnegdoaaGreatDoor
