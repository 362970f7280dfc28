/- A part. -/
import Derived.Shelf.Small.Strs
import Derived.Shelf.LaysM
import Derived.Shelf.Strconv.Itoa3
import Derived.Shelf.Strings.IndexAnyAll
import Derived.Test.YtbaaokocnegdoaaGreatDoorProg
import Derived.Shelf.Unicode.ValidAny
import Derived.Test.YtbaaokocnegdoaaGreatDoorEnF
import Derived.Test.YtbaaokocnegdoaaGreatDoorEnCore6
set_option linter.unusedVariables false
set_option linter.unusedSimpArgs false
/-
 DERIVED: THE SHELF's CONTRACTS AT THIS DUMP,IN PLAIN WORDS (tools/lay-plain.mjs out of 'TryzShelf.lean',which tools/lay-shelf.mjs wrote): THE SAME DECLARATIONS UNDER THE SAME NAMES: 'import','namespace','open','def','theorem' AND NOTHING ELSE: no command of the shelf's: FOR A HAND-IN. Each laying: the table of numbers ('.._ren') and one theorem,a field a fact of the dump's own or the kernel's comparison;each gr: ONE APPLICATION.
-/
open List renaming range->V0,getElem?_map->Vu,mem_cons->VY,take_succ_cons->WF,getElem?_eq_some_iff->Vh,length_cons->Vq,length_drop->Wu
open Option renaming map_some->Vl,map_eq_some_iff->Vi
namespace Go.Proofs
open Go.Shelf
def Tryz.lays106_ren:Go.Shelf.Ren:=⟨fun | 106=>114 | 213=>164 | 265=>220 | n=>n,fun | 9=>9 | 3=>3 | n=>n,fun | n=>n⟩
theorem Tryz.lays106:Go.Proofs.Lays.n106 Tryz.prog Tryz.lays106_ren:={
 mixed:=by kernel_rfl
 f106:=Tryz.func114.trans (congrArg some (by kernel_rfl))
 f213:=Tryz.func164.trans (congrArg some (by kernel_rfl))
 f265:=Tryz.func220.trans (congrArg some (by kernel_rfl))
 t3:=Tryz.underlying3
 a3:=Tryz.isAgg3
 z3:=Tryz.sizeOf3
 v3:=Tryz.zeroValue3
 t9:=Tryz.underlying9
 a9:=Tryz.isAgg9
 z9:=Tryz.sizeOf9
 v9:=Tryz.zeroValue9 }
open Go.RowKit in
theorem Vb (a b:ByteArray)(w:World) :
  Calls Tryz.prog 114 #[.string a,.string b] w fun e w'=>e = .returned (.int .i64 (Lib.compareBytes a.data.toList b.data.toList))/\w'=w:=Any.strings_Compare Tryz.lays106 a b w
def Tryz.laysM171_ren:Go.Shelf.Ren:=⟨fun | 171=>87 | 243=>138 | 246=>183 | 283=>234 | 284=>235 | 285=>236 | 286=>237 | 129=>219 | 317=>264 | 318=>265 | 319=>266 | 320=>267 | 337=>292 | 338=>293 | n=>n,fun | 3=>3 | 9=>9 | 2=>2 | 4=>4 | 171=>246 | 0=>0 | 53=>213 | 37=>64 | 5=>5 | 173=>248 | 212=>281 | 51=>210 | 20=>20 | 213=>282 | 46=>93 | 232=>295 | 233=>296 | n=>n,fun | 17=>5 | 18=>6 | 19=>7 | n=>n⟩
theorem Tryz.laysM171:Go.Proofs.LaysM.n171 Tryz.prog Tryz.laysM171_ren:={
 mixed:=by kernel_rfl
 f129:=Tryz.func219.trans (congrArg some (by kernel_rfl))
 f171:=Tryz.func87.trans (congrArg some (by kernel_rfl))
 f243:=Tryz.func138.trans (congrArg some (by kernel_rfl))
 f246:=Tryz.func183.trans (congrArg some (by kernel_rfl))
 f283:=Tryz.func234.trans (congrArg some (by kernel_rfl))
 f284:=Tryz.func235.trans (congrArg some (by kernel_rfl))
 f285:=Tryz.func236.trans (congrArg some (by kernel_rfl))
 f286:=Tryz.func237.trans (congrArg some (by kernel_rfl))
 f317:=Tryz.func264.trans (congrArg some (by kernel_rfl))
 f318:=Tryz.func265.trans (congrArg some (by kernel_rfl))
 f319:=Tryz.func266.trans (congrArg some (by kernel_rfl))
 f320:=Tryz.func267.trans (congrArg some (by kernel_rfl))
 f337:=Tryz.func292.trans (congrArg some (by kernel_rfl))
 f338:=Tryz.func293.trans (congrArg some (by kernel_rfl))
 t0:=Tryz.underlying0
 a0:=Tryz.isAgg0
 z0:=Tryz.sizeOf0
 v0:=Tryz.zeroValue0
 t2:=Tryz.underlying2
 a2:=Tryz.isAgg2
 z2:=Tryz.sizeOf2
 v2:=Tryz.zeroValue2
 t3:=Tryz.underlying3
 a3:=Tryz.isAgg3
 z3:=Tryz.sizeOf3
 v3:=Tryz.zeroValue3
 t4:=Tryz.underlying4
 a4:=Tryz.isAgg4
 z4:=Tryz.sizeOf4
 v4:=Tryz.zeroValue4
 t5:=Tryz.underlying5
 a5:=Tryz.isAgg5
 z5:=Tryz.sizeOf5
 v5:=Tryz.zeroValue5
 t9:=Tryz.underlying9
 a9:=Tryz.isAgg9
 z9:=Tryz.sizeOf9
 v9:=Tryz.zeroValue9
 t20:=Tryz.underlying20
 a20:=Tryz.isAgg20
 z20:=Tryz.sizeOf20
 v20:=Tryz.zeroValue20
 t37:=Tryz.underlying64
 a37:=Tryz.isAgg64
 z37:=Tryz.sizeOf64
 v37:=Tryz.zeroValue64
 t46:=Tryz.underlying93
 a46:=Tryz.isAgg93
 z46:=Tryz.sizeOf93
 v46:=Tryz.zeroValue93
 t51:=Tryz.underlying210
 a51:=Tryz.isAgg210
 z51:=Tryz.sizeOf210
 v51:=Tryz.zeroValue210
 t53:=Tryz.underlying213
 a53:=Tryz.isAgg213
 z53:=Tryz.sizeOf213
 v53:=Tryz.zeroValue213
 t171:=Tryz.underlying246
 a171:=Tryz.isAgg246
 z171:=Tryz.sizeOf246
 v171:=Tryz.zeroValue246
 t173:=Tryz.underlying248
 a173:=Tryz.isAgg248
 z173:=Tryz.sizeOf248
 v173:=Tryz.zeroValue248
 t212:=Tryz.underlying281
 a212:=Tryz.isAgg281
 z212:=Tryz.sizeOf281
 v212:=Tryz.zeroValue281
 t213:=Tryz.underlying282
 a213:=Tryz.isAgg282
 z213:=Tryz.sizeOf282
 t232:=Tryz.underlying295
 a232:=Tryz.isAgg295
 z232:=Tryz.sizeOf295
 v232:=Tryz.zeroValue295
 t233:=Tryz.underlying296
 a233:=Tryz.isAgg296
 z233:=Tryz.sizeOf296
 v233:=Tryz.zeroValue296
 g17:=by kernel_rfl
 g18:=by kernel_rfl
 g19:=by kernel_rfl
 i0:=by kernel_rfl
 i2:=by kernel_rfl
 i3:=by kernel_rfl
 i4:=by kernel_rfl
 i5:=by kernel_rfl
 i9:=by kernel_rfl
 i20:=by kernel_rfl
 i37:=by kernel_rfl
 i46:=by kernel_rfl
 i51:=by kernel_rfl
 i53:=by kernel_rfl
 i171:=by kernel_rfl
 i173:=by kernel_rfl
 i212:=by kernel_rfl
 i232:=by kernel_rfl
 i233:=by kernel_rfl
 m17:=by kernel_rfl
 m18:=by kernel_rfl
 m19:=by kernel_rfl }
open Go.RowKit Go.Sort Go.Lib in
theorem Tryz.strconv_Itoa (n:Int)(h0:-9223372036854775808<=n)(h1:n<=9223372036854775807)(w:World)(htab:Lib.TabIs Tryz.prog w "internal/strconv.uint64pow10" .u64 Lib.pow10Tab) :
  Calls Tryz.prog 87 #[.int .i64 n] w fun e w'=>e = .returned (.string ⟨(Lib.itoa n).toArray⟩)/\∃ k os,w'=grow (w.drewN k) os:=Any.strconv_Itoa Tryz.laysM171 n h0 h1 w htab
def Tryz.lays150_ren:Go.Shelf.Ren:=⟨fun | 150=>101 | 153=>153 | 152=>204 | 226=>205 | 227=>206 | 228=>207 | 137=>73 | 119=>254 | 224=>227 | 225=>226 | 217=>123 | 266=>175 | n=>n,fun | 9=>9 | 4=>4 | 3=>3 | 5=>5 | 21=>21 | 117=>227 | 116=>226 | 0=>0 | 46=>93 | 124=>264 | n=>n,fun | n=>n⟩
theorem U8:Go.Proofs.Lays.n150 Tryz.prog Tryz.lays150_ren:={
 mixed:=by kernel_rfl
 f119:=Tryz.func254.trans (congrArg some (by kernel_rfl))
 f137:=Tryz.func73.trans (congrArg some (by kernel_rfl))
 f150:=Tryz.func101.trans (congrArg some (by kernel_rfl))
 f152:=Tryz.func204.trans (congrArg some (by kernel_rfl))
 f153:=Tryz.func153.trans (congrArg some (by kernel_rfl))
 f217:=Tryz.func123.trans (congrArg some (by kernel_rfl))
 f224:=Tryz.func227.trans (congrArg some (by kernel_rfl))
 f225:=Tryz.func226.trans (congrArg some (by kernel_rfl))
 f226:=Tryz.func205.trans (congrArg some (by kernel_rfl))
 f227:=Tryz.func206.trans (congrArg some (by kernel_rfl))
 f228:=Tryz.func207.trans (congrArg some (by kernel_rfl))
 f266:=Tryz.func175.trans (congrArg some (by kernel_rfl))
 t0:=Tryz.underlying0
 a0:=Tryz.isAgg0
 z0:=Tryz.sizeOf0
 v0:=Tryz.zeroValue0
 t3:=Tryz.underlying3
 a3:=Tryz.isAgg3
 z3:=Tryz.sizeOf3
 v3:=Tryz.zeroValue3
 t4:=Tryz.underlying4
 a4:=Tryz.isAgg4
 z4:=Tryz.sizeOf4
 v4:=Tryz.zeroValue4
 t5:=Tryz.underlying5
 a5:=Tryz.isAgg5
 z5:=Tryz.sizeOf5
 v5:=Tryz.zeroValue5
 t9:=Tryz.underlying9
 a9:=Tryz.isAgg9
 z9:=Tryz.sizeOf9
 v9:=Tryz.zeroValue9
 t21:=Tryz.underlying21
 a21:=Tryz.isAgg21
 z21:=Tryz.sizeOf21
 v21:=Tryz.zeroValue21
 t46:=Tryz.underlying93
 a46:=Tryz.isAgg93
 z46:=Tryz.sizeOf93
 v46:=Tryz.zeroValue93
 t116:=Tryz.underlying226
 a116:=Tryz.isAgg226
 z116:=Tryz.sizeOf226
 t117:=Tryz.underlying227
 a117:=Tryz.isAgg227
 z117:=Tryz.sizeOf227
 v117:=Tryz.zeroValue227
 t124:=Tryz.underlying264
 a124:=Tryz.isAgg264
 z124:=Tryz.sizeOf264
 v124:=Tryz.zeroValue264 }
open Go.RowKit Go.Lib in
theorem Tryz.strings_ContainsAny_laid (s chars:ByteArray)(w:World)(hs:s.size<4294967281)(hcs:chars.size<4294967281)(has:∀ (j:Nat) b,s.data.toList[j]? = some b->b.toNat<128)(hac:∀ (j:Nat) b,chars.data.toList[j]? = some b->b.toNat<128) :
  Calls Tryz.prog 101 #[.string s,.string chars] w fun e w'=>e = .returned (.bool (Lib.containsAny s.data.toList chars.data.toList))/\Below w.heap.size w w':=Any.strings_ContainsAny_laid U8 (by kernel_rfl) s chars w hs hcs has hac
end Go.Proofs
/-
 DERIVED: THE SHELF's CONTRACTS AT THIS DUMP,IN PLAIN WORDS (tools/lay-plain.mjs out of 'TryzVal.lean',which tools/lay-shelf.mjs wrote): THE SAME DECLARATIONS UNDER THE SAME NAMES: 'import','namespace','open','def','theorem' AND NOTHING ELSE: no command of the shelf's: FOR A HAND-IN. Each laying: the table of numbers ('.._ren') and one theorem,a field a fact of the dump's own or the kernel's comparison;each gr: ONE APPLICATION.
-/
namespace Go.Proofs
open Go.Shelf
def Tryz.lays196_ren:Go.Shelf.Ren:=⟨fun | 196=>232 | 259=>263 | n=>n,fun | 9=>9 | 4=>4 | 3=>3 | 5=>5 | 12=>12 | 119=>270 | 0=>0 | 46=>93 | 139=>273 | 138=>272 | 53=>213 | n=>n,fun | 3=>3 | 4=>4 | n=>n⟩
theorem U9:Go.Proofs.Lays.n196 Tryz.prog Tryz.lays196_ren:={
 mixed:=by kernel_rfl
 f196:=Tryz.func232.trans (congrArg some (by kernel_rfl))
 f259:=Tryz.func263.trans (congrArg some (by kernel_rfl))
 t0:=Tryz.underlying0
 a0:=Tryz.isAgg0
 z0:=Tryz.sizeOf0
 v0:=Tryz.zeroValue0
 t3:=Tryz.underlying3
 a3:=Tryz.isAgg3
 z3:=Tryz.sizeOf3
 v3:=Tryz.zeroValue3
 t4:=Tryz.underlying4
 a4:=Tryz.isAgg4
 z4:=Tryz.sizeOf4
 v4:=Tryz.zeroValue4
 t5:=Tryz.underlying5
 a5:=Tryz.isAgg5
 z5:=Tryz.sizeOf5
 v5:=Tryz.zeroValue5
 t9:=Tryz.underlying9
 a9:=Tryz.isAgg9
 z9:=Tryz.sizeOf9
 v9:=Tryz.zeroValue9
 t12:=Tryz.underlying12
 a12:=Tryz.isAgg12
 z12:=Tryz.sizeOf12
 v12:=Tryz.zeroValue12
 t46:=Tryz.underlying93
 a46:=Tryz.isAgg93
 z46:=Tryz.sizeOf93
 v46:=Tryz.zeroValue93
 t53:=Tryz.underlying213
 a53:=Tryz.isAgg213
 z53:=Tryz.sizeOf213
 v53:=Tryz.zeroValue213
 t119:=Tryz.underlying270
 a119:=Tryz.isAgg270
 z119:=Tryz.sizeOf270
 t138:=Tryz.underlying272
 a138:=Tryz.isAgg272
 z138:=Tryz.sizeOf272
 v138:=Tryz.zeroValue272
 t139:=Tryz.underlying273
 a139:=Tryz.isAgg273
 z139:=Tryz.sizeOf273
 v139:=Tryz.zeroValue273
 g3:=by kernel_rfl
 g4:=by kernel_rfl }
end Go.Proofs
set_option maxRecDepth 100000
namespace Go.Proofs.YtbaaokocnegdoaaGreatDoor
open Go Go.Ab
def RU:List PV:=(V0 256).map fun c=>PV.int .u8 (Lib.firstT c:Nat)
def Ok:List PV:=(V0 32).map fun c=>PV.int .u8 (if c % 2=0 then Lib.accLo (c / 2) else Lib.accHi (c / 2):Nat)
def aq:Nat->List PV:=fun g=>if g=5 then Lib.pow10Tab.map (PV.int .u64) else if g=3 then RU else if g=4 then Ok else []
theorem tP (n:Int)(h0:-9223372036854775808<=n)(h1:n<=9223372036854775807):ae Tryz.prog aq 87 [.int .i64 n] (.str (gY n)):=
 DQ (name:= "internal/strconv.uint64pow10") (g:=5) (by kernel_rfl) (by kernel_rfl) rfl (fun n h0 h1 w ht=>Tryz.strconv_Itoa n h0 h1 w ht) n h0 h1
theorem Ae (a b:List UInt8):ae Tryz.prog aq 114 [.str a,.str b] (.int .i64 (Lib.compareBytes a b)):=
 rN (by kernel_rfl) (fun a b w=>Vb a b w) a b
theorem uf (a b:List UInt8)(ha:a.length<4294967281)(hb:b.length<4294967281)(ha1:a.all (fun c=>decide (c.toNat<128))=true)(hb1:b.all (fun c=>decide (c.toNat<128))=true) :
  ae Tryz.prog aq 101 [.str a,.str b] (.bool (Lib.containsAny a b)):=by
 refine bM (by kernel_rfl) fun w imm vals hGl hsz hargs=>?_
 have hv:=uH hsz
 obtain⟨h1,_⟩:=dX (hargs 0 (.str a) rfl)
 obtain⟨h2,_⟩:=dX (hargs 1 (.str b) rfl)
 rw[hv,h1,h2]
 have asc:∀ {l:List UInt8},l.all (fun c=>decide (c.toNat<128))=true->∀ (j:Nat) c,(⟨l.toArray⟩:ByteArray).data.toList[j]? = some c->c.toNat<128:=by
  intro l hl j c hc
  have:=List.all_eq_true.1 hl c (List.mem_of_getElem? hc)
  simpa using this
 refine (Tryz.strings_ContainsAny_laid ⟨a.toArray⟩ ⟨b.toArray⟩ w (by simpa[ByteArray.size] using ha) (by simpa[ByteArray.size] using hb) (asc ha1) (asc hb1)).mono ?_
 rintro e w' ⟨rfl,hB⟩
 exact⟨_,rfl,hB,by simpa using PRel.bool (w:=w') (imm:=imm) (Lib.containsAny a b)⟩
theorem px {G:Nat->List PV}{w:World}{imm:Nat->Nat->Prop}(h:bG G w imm){g o:Nat}{k:IntKind}{n:Int}(hp:(G g)[o]? = some (.int k n)):w.cell? ⟨g,o,none⟩=some (.int k n):=by
 obtain⟨_,v,h1,_,h2⟩:=h.1 g o _ hp
 cases h2;exact h1
theorem Bl {w:World}{imm:Nat->Nat->Prop}(h:bG aq w imm):Lib.Utf8Tabs 3 4 w:=by
 refine⟨fun c hc=>?_,fun i hi=>⟨?_,?_⟩⟩
 ·refine px h ?_
  show RU[c]? = _
  rw[RU,Vu,List.getElem?_range hc];rfl
 ·refine px h ?_
  show Ok[2*i]? = _
  rw[Ok,Vu,List.getElem?_range (by omega)]
  simp only[Vl]
  rw[if_pos (by omega),show 2*i / 2=i by omega]
 ·refine px h ?_
  show Ok[2*i+1]? = _
  rw[Ok,Vu,List.getElem?_range (by omega)]
  simp only[Vl]
  rw[if_neg (by omega),show (2*i+1) / 2=i by omega]
theorem dW (s:List UInt8):ae Tryz.prog aq 232 [.str s] (.bool (Lib.validD s)):=by
 refine bM (by kernel_rfl) fun w imm vals hGl hsz hargs=>?_
 have hv:=Bh hsz
 have h2:=hargs 0 (.str s) rfl
 generalize vals.getD 0 Go.undef=x at h2 hv
 cases h2 with
 | str s hs=>
   rw[hv]
   refine (Any.utf8_ValidString U9 s w (by unfold maxLen at hs;omega) (Bl hGl)).mono ?_
   rintro e w' ⟨rfl,hb⟩
   exact⟨_,rfl,hb,.bool _⟩
def orc (f:Nat)(ps:List PV):Option PV:=
 match f with
 | 87=>match ps with
   | [.int .i64 n]=>if -9223372036854775808<=n/\n<=9223372036854775807 then some (.str (gY n)) else none
   | _=>none
 | 114=>match ps with
   | [.str a,.str b]=>some (.int .i64 (Lib.compareBytes a b))
   | _=>none
 | 101=>match ps with
   | [.str a,.str b]=>if a.length<4294967281/\b.length<4294967281/\a.all (fun c=>decide (c.toNat<128))=true/\b.all (fun c=>decide (c.toNat<128))=true then some (.bool (Lib.containsAny a b)) else none
   | _=>none
 | _=>none
theorem cn:∀ f ps r,orc f ps=some r->ae Tryz.prog aq f ps r:=by
 intro f ps r h
 unfold orc at h
 split at h
 ·split at h
  ·split at h
   ·rename_i hh;cases h;exact tP _ hh.1 hh.2
   ·cases h
  ·cases h
 ·split at h
  ·cases h;exact Ae _ _
  ·cases h
 ·split at h
  ·split at h
   ·rename_i hh;cases h;exact uf _ _ hh.1 hh.2.1 hh.2.2.1 hh.2.2.2
   ·cases h
  ·cases h
 ·cases h
noncomputable def tab:List TabRow:=[
 ⟨14,[],gF Tryz.prog 14 []⟩,
 ⟨47,[],Q47.1⟩,
 ⟨20,[],Q20.1⟩,
 ⟨40,[],gF Tryz.prog 40 []⟩,
 ⟨22,[3],Q22.1⟩,
 ⟨15,[2,3],Q15.1⟩,
 ⟨73,[],Q73.1⟩,
 ⟨17,[],Q17.1⟩,
 ⟨37,[2,3],Q37.1⟩,
 ⟨52,[2],Q52.1⟩,
 ⟨16,[],Q16.1⟩,
 ⟨53,[],Q53.1⟩,
 ⟨26,[],Q26.1⟩,
 ⟨57,[24],Q57.1⟩,
 ⟨12,[],Q12.1⟩,
 ⟨58,[],gF Tryz.prog 58 []⟩,
 ⟨59,[33],gF Tryz.prog 59 [33]⟩,
 ⟨123,[],Sh⟩,
 ⟨48,[],gF Tryz.prog 48 []⟩,
 ⟨49,[1],Q49.1⟩,
 ⟨80,[5,6],Q80.1⟩,
 ⟨100,[2,3],RS.1⟩,
 ⟨32,[],Q32.1⟩,
 ⟨42,[],Q42.1⟩,
 ⟨43,[14],Q43.1⟩,
 ⟨44,[],Q44.1⟩,
 ⟨45,[],Q45.1⟩,
 ⟨66,[14],Q66.1⟩,
 ⟨68,[],Q68.1⟩,
 ⟨108,[],w8.1⟩,
 ⟨33,[44],Q33.1⟩,
 ⟨35,[],Q35.1⟩,
 ⟨109,[],RR.1⟩,
 ⟨110,[2],KU.1⟩,
 ⟨111,[],RQ.1⟩,
 ⟨112,[],gF Tryz.prog 112 []⟩,
 ⟨113,[],gF Tryz.prog 113 []⟩,
 ⟨94,[],gF Tryz.prog 94 []⟩,
 ⟨95,[],Q95.1⟩,
 ⟨96,[],Q96.1⟩,
 ⟨97,[1],Q97.1⟩,
 ⟨130,[1],Ob.1⟩,
 ⟨131,[5],Oa.1⟩,
 ⟨133,[5,6],RO.1⟩,
 ⟨134,[2,3],OT.1⟩,
 ⟨151,[],KQ.1⟩,
 ⟨152,[2],RN.1⟩,
 ⟨86,[],Q86.1⟩,
 ⟨88,[],Q88.1⟩,
 ⟨89,[],gF Tryz.prog 89 []⟩,
 ⟨90,[19],F90⟩,
 ⟨91,[],Q91.1⟩,
 ⟨92,[],Q92.1⟩,
 ⟨161,[],RM.1⟩,
 ⟨71,[],Q71.1⟩,
 ⟨72,[12],gF Tryz.prog 72 [12]⟩,
 ⟨74,[],Q74.1⟩,
 ⟨75,[],Q75.1⟩,
 ⟨76,[],Q76.1⟩,
 ⟨77,[],Q77.1⟩,
 ⟨162,[],gF Tryz.prog 162 []⟩,
 ⟨163,[],gF Tryz.prog 163 []⟩,
 ⟨143,[],KS.1⟩,
 ⟨144,[],FO.1⟩,
 ⟨146,[],JI.1⟩,
 ⟨147,[],KR.1⟩,
 ⟨180,[],OO.1⟩,
 ⟨181,[2],RL.1⟩,
 ⟨125,[],Od.1⟩,
 ⟨126,[],RP.1⟩,
 ⟨127,[],Oc.1⟩,
 ⟨209,[],KN.1⟩,
 ⟨120,[],KT.1⟩,
 ⟨121,[],gF Tryz.prog 121 []⟩,
 ⟨124,[],JJ.1⟩,
 ⟨128,[],OU.1⟩,
 ⟨210,[],gF Tryz.prog 210 []⟩,
 ⟨219,[],gF Tryz.prog 219 []⟩,
 ⟨187,[],N7.1⟩,
 ⟨188,[],RJ.1⟩,
 ⟨189,[],RI.1⟩,
 ⟨191,[],gF Tryz.prog 191 []⟩,
 ⟨177,[],N8.1⟩,
 ⟨176,[],KO.1⟩,
 ⟨169,[],KP.1⟩,
 ⟨240,[],FN.1⟩,
 ⟨241,[],FM.1⟩]
theorem JT:∀ r∈tab,cFn Tryz.prog r.muts r.f=some r.fn:=by
 intro r hr
 simp only[tab,VY,List.not_mem_nil,or_false] at hr
 rcases hr with rfl | rfl | rfl | rfl | rfl | rfl | rfl | rfl | rfl | rfl | rfl | rfl | rfl | rfl | rfl | rfl | rfl | rfl | rfl | rfl | rfl | rfl | rfl | rfl | rfl | rfl | rfl | rfl | rfl | rfl | rfl | rfl | rfl | rfl | rfl | rfl | rfl | rfl | rfl | rfl | rfl | rfl | rfl | rfl | rfl | rfl | rfl | rfl | rfl | rfl | rfl | rfl | rfl | rfl | rfl | rfl | rfl | rfl | rfl | rfl | rfl | rfl | rfl | rfl | rfl | rfl | rfl | rfl | rfl | rfl | rfl | rfl | rfl | rfl | rfl | rfl | rfl | rfl | rfl | rfl | rfl | rfl | rfl | rfl | rfl | rfl | rfl
 ·kernel_rfl
 ·exact Q47.2
 ·exact Q20.2
 ·kernel_rfl
 ·exact Q22.2
 ·exact Q15.2
 ·exact Q73.2
 ·exact Q17.2
 ·exact Q37.2
 ·exact Q52.2
 ·exact Q16.2
 ·exact Q53.2
 ·exact Q26.2
 ·exact Q57.2
 ·exact Q12.2
 ·kernel_rfl
 ·kernel_rfl
 ·exact FT
 ·kernel_rfl
 ·exact Q49.2
 ·exact Q80.2
 ·exact RS.2
 ·exact Q32.2
 ·exact Q42.2
 ·exact Q43.2
 ·exact Q44.2
 ·exact Q45.2
 ·exact Q66.2
 ·exact Q68.2
 ·exact w8.2
 ·exact Q33.2
 ·exact Q35.2
 ·exact RR.2
 ·exact KU.2
 ·exact RQ.2
 ·kernel_rfl
 ·kernel_rfl
 ·kernel_rfl
 ·exact Q95.2
 ·exact Q96.2
 ·exact Q97.2
 ·exact Ob.2
 ·exact Oa.2
 ·exact RO.2
 ·exact OT.2
 ·exact KQ.2
 ·exact RN.2
 ·exact Q86.2
 ·exact Q88.2
 ·kernel_rfl
 ·exact FS
 ·exact Q91.2
 ·exact Q92.2
 ·exact RM.2
 ·exact Q71.2
 ·kernel_rfl
 ·exact Q74.2
 ·exact Q75.2
 ·exact Q76.2
 ·exact Q77.2
 ·kernel_rfl
 ·kernel_rfl
 ·exact KS.2
 ·exact FO.2
 ·exact JI.2
 ·exact KR.2
 ·exact OO.2
 ·exact RL.2
 ·exact Od.2
 ·exact RP.2
 ·exact Oc.2
 ·exact KN.2
 ·exact KT.2
 ·kernel_rfl
 ·exact JJ.2
 ·exact OU.2
 ·kernel_rfl
 ·kernel_rfl
 ·exact N7.2
 ·exact RJ.2
 ·exact RI.2
 ·kernel_rfl
 ·exact N8.2
 ·exact KO.2
 ·exact KP.2
 ·exact FN.2
 ·exact FM.2
theorem Il:dA (exF tab orc aq 5000 60) 14 []=some (.bool true):=by kernel_rfl
theorem Ik:ae Tryz.prog aq 14 [] (.bool true):=ae.of_ex JT cn Il
attribute [local irreducible] vc
theorem dI {P:Prop}(h:P:=by first | exact NE | (unfold Chk;decide +kernel) | omega | exact QV (by with_unfolding_all rfl) | (simp[ag]<;>omega) | fail):P:=h
theorem qsZ{P:Prop}(h:P:=by simp(disch:=try exact dI) only[push_cast,seval]):P:=h
theorem zgZ{P Q:Prop}(h:Q)(e:P=Q:=by simp(disch:=try exact dI) only[push_cast,seval];rfl):P:=e.mpr h
end Go.Proofs.YtbaaokocnegdoaaGreatDoor
namespace Go.Ab
open Go
abbrev Cel:=List UInt8×Bool
def bad (c:UInt8):Bool:=c == 34||(c == 13||c == 10)
def dJ (sep:UInt8):List UInt8->Nat×Bool
 | []=>(0,false)
 | c::r=>if c=sep then (0,false) else if bad c=true then (0,true) else ((dJ sep r).1+1,(dJ sep r).2)
def oN (c:UInt8)(n:Nat)(p:List UInt8×Nat):List UInt8×Nat:=(c::p.1,p.2+n)
def bQ:List UInt8->Option (List UInt8×Nat)
 | []=>none
 | [c]=>if c=34 then some ([],1) else none
 | c::d::r=>if c=34 then (if d=34 then (bQ r).map (oN 34 2) else some ([],1)) else (bQ (d::r)).map (oN c 1)
theorem kx {c:UInt8}(h:c≠34)(r:List UInt8):bQ (c::r)=(bQ r).map (oN c 1):=by
 cases r with
 | nil=>simp[bQ,h]
 | cons d r=>rw[bQ];simp[h]
theorem uV (r:List UInt8):bQ (34::34::r)=(bQ r).map (oN 34 2):=by rw[bQ];simp
theorem GK:bQ [34]=some ([],1):=by rw[bQ];simp
theorem GJ {d:UInt8}(h:d≠34)(r:List UInt8):bQ (34::d::r)=some ([],1):=by rw[bQ];simp[h]
def sh (t:List UInt8)(n:Nat)(p:List UInt8×Nat):List UInt8×Nat:=(t++p.1,n+p.2)
theorem n8 (c:UInt8):∀ (l:List UInt8) (i:Nat),(jd c l i = -1/\∀ b,b∈l->b≠c)\/∃ m,jd c l i=((i+m:Nat):Int)/\l[m]? = some c/\∀ b,b∈l.take m->b≠c
 | [],i=>.inl ⟨rfl,by simp⟩
 | b::r,i=>by
   by_cases h:b=c
   ·subst h
    exact .inr ⟨0,by simp[jd],by simp,by simp⟩
   ·have e:jd c (b::r) i=jd c r (i+1):=by simp[jd,h]
    rcases n8 c r (i+1) with ⟨h1,h2⟩ | ⟨m,h1,h2,h3⟩
    ·exact .inl ⟨e.trans h1,fun x hx=>by rcases VY.1 hx with rfl | hx;exact h;exact h2 x hx⟩
    ·refine .inr ⟨m+1,by rw[e,h1];congr 1;omega,by simpa using h2,fun x hx=>?_⟩
     rw[WF] at hx
     rcases VY.1 hx with rfl | hx
     ·exact h
     ·exact h3 x hx
theorem nI:∀ {l:List UInt8},(∀ b,b∈l->b≠34)->bQ l=none
 | [],_=>rfl
 | c::r,h=>by
   rw[kx (h c (by simp)),nI fun b hb=>h b (by simp[hb])];rfl
theorem nH:∀ {m:Nat} {l:List UInt8},m<=l.length->(∀ b,b∈l.take m->b≠34)->bQ l=(bQ (l.drop m)).map (sh (l.take m) m)
 | 0,l,_,_=>by
   have:(sh ([]:List UInt8) 0)=id:=by funext p;simp[sh]
   simp[this]
 | m+1,[],h,_=>by simp at h
 | m+1,c::r,hm,h=>by
   rw[WF] at h
   rw[kx (h c (by simp)),nH (m:=m) (by simpa using hm) fun b hb=>h b (by simp[hb])]
   rw[List.drop_succ_cons,WF]
   cases bQ (r.drop m) with
   | none=>rfl
   | some p=>simp[sh,oN];omega
def J9 (l:List UInt8):Option (List UInt8×Nat):=
 if l[0]? = some 34 then (bQ (l.drop 1)).map (oN 34 2) else some ([],1)
theorem oF (r:List UInt8):bQ (34::r)=J9 r:=by
 cases r with
 | nil=>rw[GK];rfl
 | cons d r=>
   by_cases h:d=34
   ·subst h;rw[uV];simp[J9]
   ·rw[GJ h];simp[J9,h]
theorem BS {l:List UInt8}{m:Nat}(h:l[m]? = some 34)(hn:∀ b,b∈l.take m->b≠34):bQ l=(J9 (l.drop (m+1))).map (sh (l.take m) m):=by
 have hm:m<l.length:=(Vh.1 h).1
 rw[nH (Nat.le_of_lt hm) hn,bD h,oF]
inductive Out where
 | err (o:Nat) (e:Int)
 | ok (c:Cel) (a:Nat)
def cl (L:List UInt8)(sep:UInt8)(a:Nat):Out:=
 if (dJ sep (L.drop a)).2=true then .err (a+(dJ sep (L.drop a)).1) 6 else .ok ((L.drop a).take (dJ sep (L.drop a)).1,false) (a+(dJ sep (L.drop a)).1)
def bU (L:List UInt8)(sep:UInt8):Option (List UInt8×Nat)->Out
 | none=>.err L.length 29
 | some p=>match L[p.2]? with
   | some b=>if b=sep then .ok (p.1,true) p.2 else .err p.2 13
   | none=>.ok (p.1,true) p.2
def gV (L:List UInt8)(sep:UInt8)(a:Nat):Out:=bU L sep ((bQ (L.drop a)).map (sh [] a))
def nr (L:List UInt8)(sep:UInt8)(a:Nat):Out:=
 if L[a]? = some 34 then gV L sep (a+1) else cl L sep a
inductive Res where
 | err (o:Nat) (e:Int)
 | ok (c:List Cel) (p:List Nat)
def runN (L:List UInt8)(sep:UInt8)(a:Nat)(C:List Cel)(Pl:List Nat):Res:=
 if C.length=64 then .err a 9 else
 match nr L sep a with
 | .err o e=>.err o e
 | .ok c a'=>if L.length<=a' then .ok (C++[c]) (Pl++[a]) else if h:a<=a'/\a'<L.length then runN L sep (a'+1) (C++[c]) (Pl++[a]) else .err 0 0
termination_by L.length - a
decreasing_by omega
def Ns (L:List UInt8)(sep:UInt8)(a:Nat)(C:List Cel)(Pl:List Nat):Res:=
 if L.length<=a then .ok C Pl else runN L sep (a+1) C Pl
def mR (L:List UInt8)(sep:UInt8)(C:List Cel)(Pl:List Nat):Out->Res
 | .err o e=>.err o e
 | .ok c a'=>Ns L sep a' (C++[c]) Pl
theorem uW (sep:UInt8):∀ l:List UInt8,(dJ sep l).1<=l.length
 | []=>by simp[dJ]
 | c::r=>by
   have:=uW sep r
   simp only[dJ]
   split
   ·simp
   ·split
    ·simp
    ·simpa using this
theorem oE:∀ (n:Nat) (l:List UInt8),l.length<=n->∀ p,bQ l=some p->p.2<=l.length/\p.1.length<=l.length
 | 0,l,h,p,hp=>by
   have:l=[]:=by cases l<;>simp_all
   subst this;simp[bQ] at hp
 | n+1,[],h,p,hp=>by simp[bQ] at hp
 | n+1,c::r,h,p,hp=>by
   simp only[Vq,Nat.succ_le_succ_iff] at h
   by_cases hc:c=34
   ·subst hc
    rw[oF] at hp
    unfold J9 at hp
    split at hp
    ·rename_i h0
     simp only[Vi] at hp
     obtain⟨q,hq,rfl⟩:=hp
     obtain⟨d,r',rfl⟩:∃ d r',r=d::r':=by cases r with | nil=>simp at h0 | cons d r'=>exact⟨d,r',rfl⟩
     have:=oE n r' (by simp at h;omega) q (by simpa using hq)
     simp[oN];omega
    ·cases hp;simp
   ·rw[kx hc] at hp
    simp only[Vi] at hp
    obtain⟨q,hq,rfl⟩:=hp
    have:=oE n r h q hq
    simp[oN];omega
theorem lN {L:List UInt8}{sep:UInt8}{a:Nat}{c:Cel}{a':Nat}(ha:a<=L.length)(h:cl L sep a = .ok c a'):a<=a'/\a'<=L.length/\c.1.length<=L.length:=by
 have:=uW sep (L.drop a)
 rw[Wu] at this
 unfold cl at h
 split at h
 ·cases h
 ·cases h
  simp;omega
theorem oM {L:List UInt8}{sep:UInt8}{a:Nat}{c:Cel}{a':Nat}(ha:a<=L.length)(h:gV L sep a = .ok c a'):a<=a'/\a'<=L.length/\c.1.length<=L.length:=by
 unfold gV at h
 cases hq:bQ (L.drop a) with
 | none=>rw[hq] at h;simp[bU] at h
 | some p=>
   have:=oE _ _ (Nat.le_refl _) p hq
   rw[Wu] at this
   rw[hq] at h
   simp only[Vl,bU,sh] at h
   split at h
   ·split at h
    ·cases h;simp;omega
    ·cases h
   ·cases h;simp;omega
theorem wJ {L:List UInt8}{sep:UInt8}{a:Nat}{c:Cel}{a':Nat}(ha:a<=L.length)(h:nr L sep a = .ok c a'):a<=a'/\a'<=L.length/\c.1.length<=L.length:=by
 unfold nr at h
 split at h
 ·rename_i h0
  have:=(Vh.1 h0).1
  have:=oM (by omega) h
  omega
 ·exact lN ha h
theorem runN_eq {L:List UInt8}{sep:UInt8}{a:Nat}{C:List Cel}{Pl:List Nat}(ha:a<=L.length) :
  runN L sep a C Pl=if C.length=64 then .err a 9 else mR L sep C (Pl++[a]) (nr L sep a):=by
 rw[runN]
 split
 ·rfl
 ·cases h:nr L sep a with
  | err o e=>rfl
  | ok c a'=>
    have:=wJ ha h
    simp only[mR,Ns]
    split
    ·rfl
    ·rw[dif_pos (by omega)]
end Go.Ab
namespace Go.Proofs.YtbaaokocnegdoaaGreatDoor
open Go Go.Ab
attribute [local irreducible] vc
def aB:Bool->AV
 | true=>.ptr 0 0
 | false=>.pv .nilp
def bB (t:Bool):List UInt8->List Blk
 | []=>[.cells 89 true [aB t,.pv .nils]]
 | b::r=>[.cells 89 true [aB t,.row 1 1 0 (r.length+1)],.cells 5 false ((aG (b::r)).map .pv)]
theorem QN (t:Bool)(l:List UInt8):bk Tryz.prog aq 1 90 [.ptr 0 0] (bB t l) (.pv (.tup [])) (bB true l):=by
 refine bk.intro FS (by simp[F90]) ?_
 cases l with
 | nil=>
   cases t with
   | true=>
     simp(disch:=try exact dI) only[F90,bB,aB,push_cast,seval]
     exact aC [] qsZ
   | false=>
     simp(disch:=try exact dI) only[F90,bB,aB,push_cast,seval]
     exact aC [] qsZ
 | cons b r=>
   cases t with
   | true=>
     simp(disch:=try exact dI) only[F90,bB,aB,push_cast,seval]
     exact aC [] qsZ
   | false=>
     simp(disch:=try exact dI) only[F90,bB,aB,push_cast,seval]
     exact aC [] qsZ
theorem ig (t:Bool)(l:List UInt8)(c:UInt8)(hl:l.length<=100000000):bk Tryz.prog aq 1 43 [.ptr 0 0,.pv (.int .u8 (c.toNat:Int))] (bB t l) (.pv .nili) (bB true (l++[c])):=by
 have hC:=QN t l
 refine bk.intro Q43.2 (by simp[Q43]) ?_
 cases l with
 | nil=>
   cases t<;>(
   try simp only[bB,aB] at hC
   simp(disch:=try exact dI) only[Q43,bB,aB,push_cast,seval]
   refine ab.lentK hC [0] rfl qsZ qsZ ?_
   simp(disch:=try exact dI) only[bB,aB,push_cast,seval]
   exact aC [] (by simp(disch:=try exact dI) only[aG,push_cast,seval]))
 | cons b r=>
   have hA:=fun new q=>ou (t:=5) (q:=q) (new:=new) (f:=false) (l:=b::r) (c:=c) (len:=r.length+1) rfl (by simp at hl ⊢;omega)
   cases t<;>(
   try simp only[bB,aB] at hC
   simp(disch:=try exact dI) only[Q43,bB,aB,push_cast,seval]
   refine ab.lentK hC [0,1] rfl qsZ qsZ ?_
   simp(disch:=try exact dI) only[bB,aB,hA,push_cast,seval]
   exact aC [] (by simp(disch:=try exact dI) only[aG,List.length_append,push_cast,seval]))
theorem JM (t:Bool)(l k:List UInt8)(hl:l.length<=100000000)(hk:k.length<=100000000):bk Tryz.prog aq 1 66 [.ptr 0 0,.pv (.str k)] (bB t l) (.pv (.tup [.int .i64 (k.length:Int),.nili])) (bB true (l++k)):=by
 have hC:=QN t l
 refine bk.intro Q66.2 (by simp[Q66]) ?_
 cases l with
 | nil=>
   cases k with
   | nil=>
     cases t<;>(
     try simp only[bB,aB] at hC
     simp(disch:=try exact dI) only[Q66,bB,aB,push_cast,seval]
     refine ab.lentK hC [0] rfl qsZ qsZ ?_
     simp(disch:=try exact dI) only[bB,aB,push_cast,seval]
     exact aC [] qsZ)
   | cons c k=>
     simp only[Vq] at hk
     cases t<;>(
     try simp only[bB,aB] at hC
     simp(disch:=try exact dI) only[Q66,bB,aB,push_cast,seval]
     refine ab.lentK hC [0] rfl qsZ qsZ ?_
     simp(disch:=try exact dI) only[bB,aB,push_cast,seval]
     exact aC [] qsZ)
 | cons b r=>
   have e2:(r++k).length+1=r.length+1+k.length:=by simp;omega
   have hA:=fun new q=>wV (t:=5) (q:=q) (new:=new) (f:=false) (l:=b::r) (k:=k) (len:=r.length+1) rfl (by simp at hl ⊢;omega)
   cases t<;>(
   try simp only[bB,aB] at hC
   simp(disch:=try exact dI) only[Q66,bB,aB,push_cast,seval]
   refine ab.lentK hC [0,1] rfl qsZ qsZ ?_
   simp(disch:=try exact dI) only[bB,aB,hA,push_cast,seval]
   exact aC [] (by simp(disch:=try exact dI) only[e2,push_cast,seval]))
def stB:List UInt8->List Blk
 | []=>[.none]
 | _::_=>[.none,.none]
theorem ld (t:Bool)(l:List UInt8)(hl:l.length<=100000000):bk Tryz.prog aq 1 44 [.ptr 0 0] (bB t l) (.pv (.str l)) (stB l):=by
 refine bk.intro Q44.2 (by simp[Q44]) ?_
 cases l with
 | nil=>
   cases t<;>(
   try simp only[bB,aB] at hC
   simp(disch:=try exact dI) only[Q44,bB,aB,push_cast,seval]
   exact aC [] (by simp(disch:=try exact dI) only[stB,push_cast,seval]))
 | cons b r=>
   have hA:=fun (k:Int) (q:Nat) (hk:k=((b::r).length:Int))=>uJ (t:=5) (r:=q) (f:=false) (l:=b::r) hk (by simp) (by simp at hl ⊢;omega)
   cases t<;>(
   try simp only[bB,aB] at hC
   simp(disch:=try exact dI) only[Q44,bB,aB,hA,push_cast,seval]
   exact aC [] (by simp(disch:=try exact dI) only[stB,push_cast,seval]))
