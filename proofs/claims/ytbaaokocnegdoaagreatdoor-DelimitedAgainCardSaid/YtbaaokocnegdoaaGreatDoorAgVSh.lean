/- A part of the proof. -/
import Derived.Shelf.Small.Strs
import Derived.Shelf.LaysM
import Derived.Shelf.Strconv.Itoa3
import Derived.Shelf.Strings.IndexAnyAll
import Derived.Test.YtbaaokocnegdoaaGreatDoorProg
import Derived.Shelf.Unicode.ValidAny
import Derived.Test.YtbaaokocnegdoaaGreatDoorAgF
import Derived.Test.YtbaaokocnegdoaaGreatDoorAgCore6
set_option linter.unusedVariables false
set_option linter.unusedSimpArgs false
/-
 DERIVED: THE SHELF's CONTRACTS AT THIS DUMP,IN PLAIN WORDS (tools/lay-plain.mjs out of 'TryzShelf.lean',which tools/lay-shelf.mjs wrote): THE SAME DECLARATIONS UNDER THE SAME NAMES: 'import','namespace','open','def','theorem' AND NOTHING ELSE: no command of the shelf's: FOR A HAND-IN. Each laying: the table of numbers ('.._ren') and one theorem,a field a fact of the dump's own or the kernel's comparison;each fD: ONE APPLICATION.
-/
namespace Go.Proofs
open Go.Shelf
def Tryz.lays106_ren:Go.Shelf.Ren:=⟨fun | 106=>114 | 213=>164 | 265=>220 | n=>n,fun | 9=>9 | 3=>3 | n=>n,fun | n=>n⟩
theorem Tryz.lays106:Go.Proofs.Lays.n106 Tryz.prog Tryz.lays106_ren:={
 mixed:=by kernel_rfl
 f106:=Tryz.func114.trans (congrArg some (by kernel_rfl))
 f213:=Tryz.func164.trans (congrArg some (by kernel_rfl))
 f265:=Tryz.func220.trans (congrArg some (by kernel_rfl))
 t3:=Tryz.underlying3
 a3:=Tryz.isAgg3
 z3:=Tryz.sizeOf3
 v3:=Tryz.zeroValue3
 t9:=Tryz.underlying9
 a9:=Tryz.isAgg9
 z9:=Tryz.sizeOf9
 v9:=Tryz.zeroValue9 }
open Go.RowKit in
theorem Tryz.strings_Compare (a b:ByteArray)(w:World) :
  Calls Tryz.prog 114 #[.string a,.string b] w fun e w'=>e = .returned (.int .i64 (Lib.compareBytes a.data.toList b.data.toList))/\w'=w:=Any.strings_Compare Tryz.lays106 a b w
def Tryz.laysM171_ren:Go.Shelf.Ren:=⟨fun | 171=>87 | 243=>138 | 246=>183 | 283=>234 | 284=>235 | 285=>236 | 286=>237 | 129=>219 | 317=>264 | 318=>265 | 319=>266 | 320=>267 | 337=>292 | 338=>293 | n=>n,fun | 3=>3 | 9=>9 | 2=>2 | 4=>4 | 171=>246 | 0=>0 | 53=>213 | 37=>64 | 5=>5 | 173=>248 | 212=>281 | 51=>210 | 20=>20 | 213=>282 | 46=>93 | 232=>295 | 233=>296 | n=>n,fun | 17=>5 | 18=>6 | 19=>7 | n=>n⟩
theorem Tryz.laysM171:Go.Proofs.LaysM.n171 Tryz.prog Tryz.laysM171_ren:={
 mixed:=by kernel_rfl
 f129:=Tryz.func219.trans (congrArg some (by kernel_rfl))
 f171:=Tryz.func87.trans (congrArg some (by kernel_rfl))
 f243:=Tryz.func138.trans (congrArg some (by kernel_rfl))
 f246:=Tryz.func183.trans (congrArg some (by kernel_rfl))
 f283:=Tryz.func234.trans (congrArg some (by kernel_rfl))
 f284:=Tryz.func235.trans (congrArg some (by kernel_rfl))
 f285:=Tryz.func236.trans (congrArg some (by kernel_rfl))
 f286:=Tryz.func237.trans (congrArg some (by kernel_rfl))
 f317:=Tryz.func264.trans (congrArg some (by kernel_rfl))
 f318:=Tryz.func265.trans (congrArg some (by kernel_rfl))
 f319:=Tryz.func266.trans (congrArg some (by kernel_rfl))
 f320:=Tryz.func267.trans (congrArg some (by kernel_rfl))
 f337:=Tryz.func292.trans (congrArg some (by kernel_rfl))
 f338:=Tryz.func293.trans (congrArg some (by kernel_rfl))
 t0:=Tryz.underlying0
 a0:=Tryz.isAgg0
 z0:=Tryz.sizeOf0
 v0:=Tryz.zeroValue0
 t2:=Tryz.underlying2
 a2:=Tryz.isAgg2
 z2:=Tryz.sizeOf2
 v2:=Tryz.zeroValue2
 t3:=Tryz.underlying3
 a3:=Tryz.isAgg3
 z3:=Tryz.sizeOf3
 v3:=Tryz.zeroValue3
 t4:=Tryz.underlying4
 a4:=Tryz.isAgg4
 z4:=Tryz.sizeOf4
 v4:=Tryz.zeroValue4
 t5:=Tryz.underlying5
 a5:=Tryz.isAgg5
 z5:=Tryz.sizeOf5
 v5:=Tryz.zeroValue5
 t9:=Tryz.underlying9
 a9:=Tryz.isAgg9
 z9:=Tryz.sizeOf9
 v9:=Tryz.zeroValue9
 t20:=Tryz.underlying20
 a20:=Tryz.isAgg20
 z20:=Tryz.sizeOf20
 v20:=Tryz.zeroValue20
 t37:=Tryz.underlying64
 a37:=Tryz.isAgg64
 z37:=Tryz.sizeOf64
 v37:=Tryz.zeroValue64
 t46:=Tryz.underlying93
 a46:=Tryz.isAgg93
 z46:=Tryz.sizeOf93
 v46:=Tryz.zeroValue93
 t51:=Tryz.underlying210
 a51:=Tryz.isAgg210
 z51:=Tryz.sizeOf210
 v51:=Tryz.zeroValue210
 t53:=Tryz.underlying213
 a53:=Tryz.isAgg213
 z53:=Tryz.sizeOf213
 v53:=Tryz.zeroValue213
 t171:=Tryz.underlying246
 a171:=Tryz.isAgg246
 z171:=Tryz.sizeOf246
 v171:=Tryz.zeroValue246
 t173:=Tryz.underlying248
 a173:=Tryz.isAgg248
 z173:=Tryz.sizeOf248
 v173:=Tryz.zeroValue248
 t212:=Tryz.underlying281
 a212:=Tryz.isAgg281
 z212:=Tryz.sizeOf281
 v212:=Tryz.zeroValue281
 t213:=Tryz.underlying282
 a213:=Tryz.isAgg282
 z213:=Tryz.sizeOf282
 t232:=Tryz.underlying295
 a232:=Tryz.isAgg295
 z232:=Tryz.sizeOf295
 v232:=Tryz.zeroValue295
 t233:=Tryz.underlying296
 a233:=Tryz.isAgg296
 z233:=Tryz.sizeOf296
 v233:=Tryz.zeroValue296
 g17:=by kernel_rfl
 g18:=by kernel_rfl
 g19:=by kernel_rfl
 i0:=by kernel_rfl
 i2:=by kernel_rfl
 i3:=by kernel_rfl
 i4:=by kernel_rfl
 i5:=by kernel_rfl
 i9:=by kernel_rfl
 i20:=by kernel_rfl
 i37:=by kernel_rfl
 i46:=by kernel_rfl
 i51:=by kernel_rfl
 i53:=by kernel_rfl
 i171:=by kernel_rfl
 i173:=by kernel_rfl
 i212:=by kernel_rfl
 i232:=by kernel_rfl
 i233:=by kernel_rfl
 m17:=by kernel_rfl
 m18:=by kernel_rfl
 m19:=by kernel_rfl }
open Go.RowKit Go.Sort Go.Lib in
theorem Tryz.strconv_Itoa (n:Int)(h0:-9223372036854775808<=n)(h1:n<=9223372036854775807)(w:World)(htab:Lib.TabIs Tryz.prog w "internal/strconv.uint64pow10" .u64 Lib.pow10Tab) :
  Calls Tryz.prog 87 #[.int .i64 n] w fun e w'=>e = .returned (.string ⟨(Lib.itoa n).toArray⟩)/\∃ k os,w'=grow (w.drewN k) os:=Any.strconv_Itoa Tryz.laysM171 n h0 h1 w htab
def Tryz.lays150_ren:Go.Shelf.Ren:=⟨fun | 150=>101 | 153=>153 | 152=>204 | 226=>205 | 227=>206 | 228=>207 | 137=>73 | 119=>254 | 224=>227 | 225=>226 | 217=>123 | 266=>175 | n=>n,fun | 9=>9 | 4=>4 | 3=>3 | 5=>5 | 21=>21 | 117=>227 | 116=>226 | 0=>0 | 46=>93 | 124=>264 | n=>n,fun | n=>n⟩
theorem Tryz.lays150:Go.Proofs.Lays.n150 Tryz.prog Tryz.lays150_ren:={
 mixed:=by kernel_rfl
 f119:=Tryz.func254.trans (congrArg some (by kernel_rfl))
 f137:=Tryz.func73.trans (congrArg some (by kernel_rfl))
 f150:=Tryz.func101.trans (congrArg some (by kernel_rfl))
 f152:=Tryz.func204.trans (congrArg some (by kernel_rfl))
 f153:=Tryz.func153.trans (congrArg some (by kernel_rfl))
 f217:=Tryz.func123.trans (congrArg some (by kernel_rfl))
 f224:=Tryz.func227.trans (congrArg some (by kernel_rfl))
 f225:=Tryz.func226.trans (congrArg some (by kernel_rfl))
 f226:=Tryz.func205.trans (congrArg some (by kernel_rfl))
 f227:=Tryz.func206.trans (congrArg some (by kernel_rfl))
 f228:=Tryz.func207.trans (congrArg some (by kernel_rfl))
 f266:=Tryz.func175.trans (congrArg some (by kernel_rfl))
 t0:=Tryz.underlying0
 a0:=Tryz.isAgg0
 z0:=Tryz.sizeOf0
 v0:=Tryz.zeroValue0
 t3:=Tryz.underlying3
 a3:=Tryz.isAgg3
 z3:=Tryz.sizeOf3
 v3:=Tryz.zeroValue3
 t4:=Tryz.underlying4
 a4:=Tryz.isAgg4
 z4:=Tryz.sizeOf4
 v4:=Tryz.zeroValue4
 t5:=Tryz.underlying5
 a5:=Tryz.isAgg5
 z5:=Tryz.sizeOf5
 v5:=Tryz.zeroValue5
 t9:=Tryz.underlying9
 a9:=Tryz.isAgg9
 z9:=Tryz.sizeOf9
 v9:=Tryz.zeroValue9
 t21:=Tryz.underlying21
 a21:=Tryz.isAgg21
 z21:=Tryz.sizeOf21
 v21:=Tryz.zeroValue21
 t46:=Tryz.underlying93
 a46:=Tryz.isAgg93
 z46:=Tryz.sizeOf93
 v46:=Tryz.zeroValue93
 t116:=Tryz.underlying226
 a116:=Tryz.isAgg226
 z116:=Tryz.sizeOf226
 t117:=Tryz.underlying227
 a117:=Tryz.isAgg227
 z117:=Tryz.sizeOf227
 v117:=Tryz.zeroValue227
 t124:=Tryz.underlying264
 a124:=Tryz.isAgg264
 z124:=Tryz.sizeOf264
 v124:=Tryz.zeroValue264 }
open Go.RowKit Go.Lib in
theorem Tryz.strings_ContainsAny_laid (s chars:ByteArray)(w:World)(hs:s.size<4294967281)(hcs:chars.size<4294967281)(has:∀ (j:Nat) b,s.data.toList[j]? = some b->b.toNat<128)(hac:∀ (j:Nat) b,chars.data.toList[j]? = some b->b.toNat<128) :
  Calls Tryz.prog 101 #[.string s,.string chars] w fun e w'=>e = .returned (.bool (Lib.containsAny s.data.toList chars.data.toList))/\Below w.heap.size w w':=Any.strings_ContainsAny_laid Tryz.lays150 (by kernel_rfl) s chars w hs hcs has hac
end Go.Proofs
/-
 DERIVED: THE SHELF's CONTRACTS AT THIS DUMP,IN PLAIN WORDS (tools/lay-plain.mjs out of 'TryzVal.lean',which tools/lay-shelf.mjs wrote): THE SAME DECLARATIONS UNDER THE SAME NAMES: 'import','namespace','open','def','theorem' AND NOTHING ELSE: no command of the shelf's: FOR A HAND-IN. Each laying: the table of numbers ('.._ren') and one theorem,a field a fact of the dump's own or the kernel's comparison;each fD: ONE APPLICATION.
-/
namespace Go.Proofs
open Go.Shelf
def Tryz.lays196_ren:Go.Shelf.Ren:=⟨fun | 196=>232 | 259=>263 | n=>n,fun | 9=>9 | 4=>4 | 3=>3 | 5=>5 | 12=>12 | 119=>270 | 0=>0 | 46=>93 | 139=>273 | 138=>272 | 53=>213 | n=>n,fun | 3=>3 | 4=>4 | n=>n⟩
theorem Tryz.lays196:Go.Proofs.Lays.n196 Tryz.prog Tryz.lays196_ren:={
 mixed:=by kernel_rfl
 f196:=Tryz.func232.trans (congrArg some (by kernel_rfl))
 f259:=Tryz.func263.trans (congrArg some (by kernel_rfl))
 t0:=Tryz.underlying0
 a0:=Tryz.isAgg0
 z0:=Tryz.sizeOf0
 v0:=Tryz.zeroValue0
 t3:=Tryz.underlying3
 a3:=Tryz.isAgg3
 z3:=Tryz.sizeOf3
 v3:=Tryz.zeroValue3
 t4:=Tryz.underlying4
 a4:=Tryz.isAgg4
 z4:=Tryz.sizeOf4
 v4:=Tryz.zeroValue4
 t5:=Tryz.underlying5
 a5:=Tryz.isAgg5
 z5:=Tryz.sizeOf5
 v5:=Tryz.zeroValue5
 t9:=Tryz.underlying9
 a9:=Tryz.isAgg9
 z9:=Tryz.sizeOf9
 v9:=Tryz.zeroValue9
 t12:=Tryz.underlying12
 a12:=Tryz.isAgg12
 z12:=Tryz.sizeOf12
 v12:=Tryz.zeroValue12
 t46:=Tryz.underlying93
 a46:=Tryz.isAgg93
 z46:=Tryz.sizeOf93
 v46:=Tryz.zeroValue93
 t53:=Tryz.underlying213
 a53:=Tryz.isAgg213
 z53:=Tryz.sizeOf213
 v53:=Tryz.zeroValue213
 t119:=Tryz.underlying270
 a119:=Tryz.isAgg270
 z119:=Tryz.sizeOf270
 t138:=Tryz.underlying272
 a138:=Tryz.isAgg272
 z138:=Tryz.sizeOf272
 v138:=Tryz.zeroValue272
 t139:=Tryz.underlying273
 a139:=Tryz.isAgg273
 z139:=Tryz.sizeOf273
 v139:=Tryz.zeroValue273
 g3:=by kernel_rfl
 g4:=by kernel_rfl }
end Go.Proofs
set_option maxRecDepth 100000
namespace Go.Proofs.YtbaaokocnegdoaaGreatDoor
open Go Go.Ab
def Rs:List PV:=(List.range 256).map fun c=>PV.int .u8 (Lib.firstT c:Nat)
def N7:List PV:=(List.range 32).map fun c=>PV.int .u8 (if c % 2=0 then Lib.accLo (c / 2) else Lib.accHi (c / 2):Nat)
def au:Nat->List PV:=fun g=>if g=5 then Lib.pow10Tab.map (PV.int .u64) else if g=3 then Rs else if g=4 then N7 else []
theorem tr (n:Int)(h0:-9223372036854775808<=n)(h1:n<=9223372036854775807):ae Tryz.prog au 87 [.int .i64 n] (.str (gi n)):=
 DB (name:= "internal/strconv.uint64pow10") (g:=5) (by kernel_rfl) (by kernel_rfl) rfl (fun n h0 h1 w ht=>Tryz.strconv_Itoa n h0 h1 w ht) n h0 h1
theorem zD (a b:List UInt8):ae Tryz.prog au 114 [.str a,.str b] (.int .i64 (Lib.compareBytes a b)):=
 qS (by kernel_rfl) (fun a b w=>Tryz.strings_Compare a b w) a b
theorem tO (a b:List UInt8)(ha:a.length<4294967281)(hb:b.length<4294967281)(ha1:a.all (fun c=>decide (c.toNat<128))=true)(hb1:b.all (fun c=>decide (c.toNat<128))=true) :
  ae Tryz.prog au 101 [.str a,.str b] (.bool (Lib.containsAny a b)):=by
 refine bx (by kernel_rfl) fun w imm vals hGl hsz hargs=>?_
 have hv:=uj hsz
 obtain⟨h1,_⟩:=dx (hargs 0 (.str a) rfl)
 obtain⟨h2,_⟩:=dx (hargs 1 (.str b) rfl)
 rw[hv,h1,h2]
 have asc:∀ {l:List UInt8},l.all (fun c=>decide (c.toNat<128))=true->∀ (j:Nat) c,(⟨l.toArray⟩:ByteArray).data.toList[j]? = some c->c.toNat<128:=by
  intro l hl j c hc
  have:=List.all_eq_true.1 hl c (List.mem_of_getElem? hc)
  simpa using this
 refine (Tryz.strings_ContainsAny_laid ⟨a.toArray⟩ ⟨b.toArray⟩ w (by simpa[ByteArray.size] using ha) (by simpa[ByteArray.size] using hb) (asc ha1) (asc hb1)).mono ?_
 rintro e w' ⟨rfl,hB⟩
 exact⟨_,rfl,hB,by simpa using PRel.bool (w:=w') (imm:=imm) (Lib.containsAny a b)⟩
theorem ow {G:Nat->List PV}{w:World}{imm:Nat->Nat->Prop}(h:bt G w imm){g o:Nat}{k:IntKind}{n:Int}(hp:(G g)[o]? = some (.int k n)):w.cell? ⟨g,o,none⟩=some (.int k n):=by
 obtain⟨_,v,h1,_,h2⟩:=h.1 g o _ hp
 cases h2;exact h1
theorem A6 {w:World}{imm:Nat->Nat->Prop}(h:bt au w imm):Lib.Utf8Tabs 3 4 w:=by
 refine⟨fun c hc=>?_,fun i hi=>⟨?_,?_⟩⟩
 ·refine ow h ?_
  show Rs[c]? = _
  rw[Rs,List.getElem?_map,List.getElem?_range hc];rfl
 ·refine ow h ?_
  show N7[2*i]? = _
  rw[N7,List.getElem?_map,List.getElem?_range (by omega)]
  simp only[Option.map_some]
  rw[if_pos (by omega),show 2*i / 2=i by omega]
 ·refine ow h ?_
  show N7[2*i+1]? = _
  rw[N7,List.getElem?_map,List.getElem?_range (by omega)]
  simp only[Option.map_some]
  rw[if_neg (by omega),show (2*i+1) / 2=i by omega]
theorem fP (s:List UInt8):ae Tryz.prog au 232 [.str s] (.bool (Lib.validD s)):=by
 refine bx (by kernel_rfl) fun w imm vals hGl hsz hargs=>?_
 have hv:=A2 hsz
 have h2:=hargs 0 (.str s) rfl
 generalize vals.getD 0 Go.undef=x at h2 hv
 cases h2 with
 | str s hs=>
   rw[hv]
   refine (Any.utf8_ValidString Tryz.lays196 s w (by unfold maxLen at hs;omega) (A6 hGl)).mono ?_
   rintro e w' ⟨rfl,hb⟩
   exact⟨_,rfl,hb,.bool _⟩
def orc (f:Nat)(ps:List PV):Option PV:=
 match f with
 | 87=>match ps with
   | [.int .i64 n]=>if -9223372036854775808<=n/\n<=9223372036854775807 then some (.str (gi n)) else none
   | _=>none
 | 114=>match ps with
   | [.str a,.str b]=>some (.int .i64 (Lib.compareBytes a b))
   | _=>none
 | 101=>match ps with
   | [.str a,.str b]=>if a.length<4294967281/\b.length<4294967281/\a.all (fun c=>decide (c.toNat<128))=true/\b.all (fun c=>decide (c.toNat<128))=true then some (.bool (Lib.containsAny a b)) else none
   | _=>none
 | _=>none
theorem bQ:∀ f ps r,orc f ps=some r->ae Tryz.prog au f ps r:=by
 intro f ps r h
 unfold orc at h
 split at h
 ·split at h
  ·split at h
   ·rename_i hh;cases h;exact tr _ hh.1 hh.2
   ·cases h
  ·cases h
 ·split at h
  ·cases h;exact zD _ _
  ·cases h
 ·split at h
  ·split at h
   ·rename_i hh;cases h;exact tO _ _ hh.1 hh.2.1 hh.2.2.1 hh.2.2.2
   ·cases h
  ·cases h
 ·cases h
noncomputable def tab:List TabRow:=[
 ⟨14,[],gF Tryz.prog 14 []⟩,
 ⟨47,[],Q47.1⟩,
 ⟨20,[],Q20.1⟩,
 ⟨40,[],gF Tryz.prog 40 []⟩,
 ⟨22,[3],Q22.1⟩,
 ⟨15,[2,3],Q15.1⟩,
 ⟨73,[],Q73.1⟩,
 ⟨17,[],Q17.1⟩,
 ⟨37,[2,3],Q37.1⟩,
 ⟨52,[2],Q52.1⟩,
 ⟨16,[],Q16.1⟩,
 ⟨53,[],Q53.1⟩,
 ⟨26,[],Q26.1⟩,
 ⟨57,[24],Q57.1⟩,
 ⟨12,[],Q12.1⟩,
 ⟨58,[],gF Tryz.prog 58 []⟩,
 ⟨59,[33],gF Tryz.prog 59 [33]⟩,
 ⟨123,[],RK⟩,
 ⟨48,[],gF Tryz.prog 48 []⟩,
 ⟨49,[1],Q49.1⟩,
 ⟨80,[5,6],Q80.1⟩,
 ⟨100,[2,3],Ro.1⟩,
 ⟨32,[],Q32.1⟩,
 ⟨42,[],Q42.1⟩,
 ⟨43,[14],Q43.1⟩,
 ⟨44,[],Q44.1⟩,
 ⟨45,[],Q45.1⟩,
 ⟨66,[14],Q66.1⟩,
 ⟨68,[],Q68.1⟩,
 ⟨108,[],wm.1⟩,
 ⟨33,[44],Q33.1⟩,
 ⟨35,[],Q35.1⟩,
 ⟨109,[],Rn.1⟩,
 ⟨110,[2],KM.1⟩,
 ⟨111,[],Rm.1⟩,
 ⟨112,[],gF Tryz.prog 112 []⟩,
 ⟨113,[],gF Tryz.prog 113 []⟩,
 ⟨94,[],gF Tryz.prog 94 []⟩,
 ⟨95,[],Q95.1⟩,
 ⟨96,[],Q96.1⟩,
 ⟨97,[1],Q97.1⟩,
 ⟨130,[1],NZ.1⟩,
 ⟨131,[5],NY.1⟩,
 ⟨133,[5,6],Rk.1⟩,
 ⟨134,[2,3],Ou.1⟩,
 ⟨151,[],KI.1⟩,
 ⟨152,[2],Rj.1⟩,
 ⟨86,[],Q86.1⟩,
 ⟨88,[],Q88.1⟩,
 ⟨89,[],gF Tryz.prog 89 []⟩,
 ⟨90,[19],F90⟩,
 ⟨91,[],Q91.1⟩,
 ⟨92,[],Q92.1⟩,
 ⟨161,[],Ri.1⟩,
 ⟨71,[],Q71.1⟩,
 ⟨72,[12],gF Tryz.prog 72 [12]⟩,
 ⟨74,[],Q74.1⟩,
 ⟨75,[],Q75.1⟩,
 ⟨76,[],Q76.1⟩,
 ⟨77,[],Q77.1⟩,
 ⟨162,[],gF Tryz.prog 162 []⟩,
 ⟨163,[],gF Tryz.prog 163 []⟩,
 ⟨143,[],KK.1⟩,
 ⟨144,[],Fw.1⟩,
 ⟨146,[],JB.1⟩,
 ⟨147,[],KJ.1⟩,
 ⟨180,[],Oq.1⟩,
 ⟨181,[2],Rh.1⟩,
 ⟨125,[],N1.1⟩,
 ⟨126,[],Rl.1⟩,
 ⟨127,[],N0.1⟩,
 ⟨209,[],KF.1⟩,
 ⟨120,[],KL.1⟩,
 ⟨121,[],gF Tryz.prog 121 []⟩,
 ⟨124,[],JC.1⟩,
 ⟨128,[],Ov.1⟩,
 ⟨210,[],gF Tryz.prog 210 []⟩,
 ⟨219,[],gF Tryz.prog 219 []⟩,
 ⟨187,[],NW.1⟩,
 ⟨188,[],Rg.1⟩,
 ⟨189,[],Rf.1⟩,
 ⟨191,[],gF Tryz.prog 191 []⟩,
 ⟨177,[],NX.1⟩,
 ⟨176,[],KG.1⟩,
 ⟨169,[],KH.1⟩,
 ⟨240,[],Fv.1⟩,
 ⟨241,[],Fu.1⟩]
theorem JM:∀ r∈tab,cFn Tryz.prog r.muts r.f=some r.fn:=by
 intro r hr
 simp only[tab,List.mem_cons,List.not_mem_nil,or_false] at hr
 rcases hr with rfl | rfl | rfl | rfl | rfl | rfl | rfl | rfl | rfl | rfl | rfl | rfl | rfl | rfl | rfl | rfl | rfl | rfl | rfl | rfl | rfl | rfl | rfl | rfl | rfl | rfl | rfl | rfl | rfl | rfl | rfl | rfl | rfl | rfl | rfl | rfl | rfl | rfl | rfl | rfl | rfl | rfl | rfl | rfl | rfl | rfl | rfl | rfl | rfl | rfl | rfl | rfl | rfl | rfl | rfl | rfl | rfl | rfl | rfl | rfl | rfl | rfl | rfl | rfl | rfl | rfl | rfl | rfl | rfl | rfl | rfl | rfl | rfl | rfl | rfl | rfl | rfl | rfl | rfl | rfl | rfl | rfl | rfl | rfl | rfl | rfl | rfl
 ·kernel_rfl
 ·exact Q47.2
 ·exact Q20.2
 ·kernel_rfl
 ·exact Q22.2
 ·exact Q15.2
 ·exact Q73.2
 ·exact Q17.2
 ·exact Q37.2
 ·exact Q52.2
 ·exact Q16.2
 ·exact Q53.2
 ·exact Q26.2
 ·exact Q57.2
 ·exact Q12.2
 ·kernel_rfl
 ·kernel_rfl
 ·exact FA
 ·kernel_rfl
 ·exact Q49.2
 ·exact Q80.2
 ·exact Ro.2
 ·exact Q32.2
 ·exact Q42.2
 ·exact Q43.2
 ·exact Q44.2
 ·exact Q45.2
 ·exact Q66.2
 ·exact Q68.2
 ·exact wm.2
 ·exact Q33.2
 ·exact Q35.2
 ·exact Rn.2
 ·exact KM.2
 ·exact Rm.2
 ·kernel_rfl
 ·kernel_rfl
 ·kernel_rfl
 ·exact Q95.2
 ·exact Q96.2
 ·exact Q97.2
 ·exact NZ.2
 ·exact NY.2
 ·exact Rk.2
 ·exact Ou.2
 ·exact KI.2
 ·exact Rj.2
 ·exact Q86.2
 ·exact Q88.2
 ·kernel_rfl
 ·exact Fz
 ·exact Q91.2
 ·exact Q92.2
 ·exact Ri.2
 ·exact Q71.2
 ·kernel_rfl
 ·exact Q74.2
 ·exact Q75.2
 ·exact Q76.2
 ·exact Q77.2
 ·kernel_rfl
 ·kernel_rfl
 ·exact KK.2
 ·exact Fw.2
 ·exact JB.2
 ·exact KJ.2
 ·exact Oq.2
 ·exact Rh.2
 ·exact N1.2
 ·exact Rl.2
 ·exact N0.2
 ·exact KF.2
 ·exact KL.2
 ·kernel_rfl
 ·exact JC.2
 ·exact Ov.2
 ·kernel_rfl
 ·kernel_rfl
 ·exact NW.2
 ·exact Rg.2
 ·exact Rf.2
 ·kernel_rfl
 ·exact NX.2
 ·exact KG.2
 ·exact KH.2
 ·exact Fv.2
 ·exact Fu.2
theorem Ie:cU (exF tab orc au 5000 60) 14 []=some (.bool true):=by kernel_rfl
theorem Ic:ae Tryz.prog au 14 [] (.bool true):=ae.of_ex JM bQ Ie
attribute [local irreducible] vc
theorem dI {P:Prop}(h:P:=by first | exact Nu | (unfold Chk;decide +kernel) | omega | exact Qu (by with_unfolding_all rfl) | (simp[ak]<;>omega) | fail):P:=h
theorem qsZ{P:Prop}(h:P:=by simp(disch:=try exact dI) only[push_cast,seval]):P:=h
theorem zgZ{P Q:Prop}(h:Q)(e:P=Q:=by simp(disch:=try exact dI) only[push_cast,seval];rfl):P:=e.mpr h
end Go.Proofs.YtbaaokocnegdoaaGreatDoor
