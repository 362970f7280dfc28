/- A part of the proof. -/
import Derived.Test.YtbaaokocnegdoaaGreatDoorAgVC14
import Derived.Shelf.LaysM
import Derived.Shelf.Strconv.Atoi
import Derived.Shelf.Strconv.AtoiErr
import Derived.Test.YtbaaokocnegdoaaGreatDoorProg
set_option linter.unusedVariables false
set_option linter.unusedSimpArgs false
set_option maxRecDepth 100000
namespace Go.Proofs.YtbaaokocnegdoaaGreatDoor
open Go Go.Ab
attribute [local irreducible] vc
def rdS:Bool->Nat->Nat->List UInt8->Nat×Nat
 | _,v,c,[]=>(v,c)
 | p,v,c,b::r=>if isD b=true then rdS (p||decide (b=46)) (10*v+(b.toNat - 48)) (if (p||decide (b=46))=true then c+1 else c) r else rdS (p||decide (b=46)) v c r
def sgI (s:List UInt8)(v:Nat):Int:=if s.head? = some 45 then -(v:Int) else v
def aS (s:List UInt8):(Int×Nat)×Int:=
 if s=[] then ((0,0),4) else if 17<s.length then ((0,0),5) else
  if IsN (sgI s (rdS false 0 0 s).1) (rdS false 0 0 s).2/\iW (sgI s (rdS false 0 0 s).1) (rdS false 0 0 s).2=s then ((sgI s (rdS false 0 0 s).1,(rdS false 0 0 s).2),0) else ((0,0),13)
theorem vP {n:Int}{sc:Nat}(h:IsN n sc):(iW n sc).length<=17:=by
 obtain⟨h1,h2,h3⟩:=h
 have hdl:=lI (a:=n.natAbs) (by simp;omega)
 have:=FY n.natAbs sc (max (dl n.natAbs) (sc+1))
 rw[IX]
 split<;>simp<;>omega
end Go.Proofs.YtbaaokocnegdoaaGreatDoor
/-
 DERIVED: THE SHELF's CONTRACTS AT THIS DUMP,IN PLAIN WORDS (tools/lay-plain.mjs out of 'TryzAtoi.lean',which tools/lay-shelf.mjs wrote): THE SAME DECLARATIONS UNDER THE SAME NAMES: 'import','namespace','open','def','theorem' AND NOTHING ELSE: no command of the shelf's: FOR A HAND-IN. Each laying: the table of numbers ('.._ren') and one theorem,a field a fact of the dump's own or the kernel's comparison;each fD: ONE APPLICATION.
-/
namespace Go.Proofs
open Go.Shelf
def Tryz.lays172_ren:Go.Shelf.Ren:=⟨fun | 172=>72 | 244=>121 | 245=>122 | 247=>170 | 279=>171 | 280=>172 | 281=>173 | 282=>174 | 287=>229 | 316=>230 | 171=>87 | 205=>231 | 321=>261 | 322=>262 | 243=>138 | 246=>183 | 283=>234 | 284=>235 | 285=>236 | 286=>237 | 129=>219 | 317=>264 | 318=>265 | 319=>266 | 320=>267 | 337=>292 | 338=>293 | n=>n,fun | 9=>9 | 3=>3 | 75=>91 | 76=>114 | 4=>4 | 5=>5 | 167=>200 | 37=>64 | 0=>0 | 85=>201 | 2=>2 | 168=>203 | 53=>213 | 175=>240 | 46=>93 | 210=>244 | 127=>140 | 145=>278 | 143=>276 | 21=>21 | 171=>246 | 173=>248 | 212=>281 | 51=>210 | 20=>20 | 213=>282 | 232=>295 | 233=>296 | 80=>94 | n=>n,fun | 15=>1 | 16=>2 | 17=>5 | 18=>6 | 19=>7 | n=>n⟩
theorem Tryz.lays172:Go.Proofs.Lays.n172 Tryz.prog Tryz.lays172_ren:={
 mixed:=by kernel_rfl
 f129:=Tryz.func219.trans (congrArg some (by kernel_rfl))
 f171:=Tryz.func87.trans (congrArg some (by kernel_rfl))
 f172:=Tryz.func72.trans (congrArg some (by kernel_rfl))
 f205:=Tryz.func231.trans (congrArg some (by kernel_rfl))
 f243:=Tryz.func138.trans (congrArg some (by kernel_rfl))
 f244:=Tryz.func121.trans (congrArg some (by kernel_rfl))
 f245:=Tryz.func122.trans (congrArg some (by kernel_rfl))
 f246:=Tryz.func183.trans (congrArg some (by kernel_rfl))
 f247:=Tryz.func170.trans (congrArg some (by kernel_rfl))
 f279:=Tryz.func171.trans (congrArg some (by kernel_rfl))
 f280:=Tryz.func172.trans (congrArg some (by kernel_rfl))
 f281:=Tryz.func173.trans (congrArg some (by kernel_rfl))
 f282:=Tryz.func174.trans (congrArg some (by kernel_rfl))
 f283:=Tryz.func234.trans (congrArg some (by kernel_rfl))
 f284:=Tryz.func235.trans (congrArg some (by kernel_rfl))
 f285:=Tryz.func236.trans (congrArg some (by kernel_rfl))
 f286:=Tryz.func237.trans (congrArg some (by kernel_rfl))
 f287:=Tryz.func229.trans (congrArg some (by kernel_rfl))
 f316:=Tryz.func230.trans (congrArg some (by kernel_rfl))
 f317:=Tryz.func264.trans (congrArg some (by kernel_rfl))
 f318:=Tryz.func265.trans (congrArg some (by kernel_rfl))
 f319:=Tryz.func266.trans (congrArg some (by kernel_rfl))
 f320:=Tryz.func267.trans (congrArg some (by kernel_rfl))
 f321:=Tryz.func261.trans (congrArg some (by kernel_rfl))
 f322:=Tryz.func262.trans (congrArg some (by kernel_rfl))
 f337:=Tryz.func292.trans (congrArg some (by kernel_rfl))
 f338:=Tryz.func293.trans (congrArg some (by kernel_rfl))
 t0:=Tryz.underlying0
 a0:=Tryz.isAgg0
 z0:=Tryz.sizeOf0
 v0:=Tryz.zeroValue0
 t2:=Tryz.underlying2
 a2:=Tryz.isAgg2
 z2:=Tryz.sizeOf2
 v2:=Tryz.zeroValue2
 t3:=Tryz.underlying3
 a3:=Tryz.isAgg3
 z3:=Tryz.sizeOf3
 v3:=Tryz.zeroValue3
 t4:=Tryz.underlying4
 a4:=Tryz.isAgg4
 z4:=Tryz.sizeOf4
 v4:=Tryz.zeroValue4
 t5:=Tryz.underlying5
 a5:=Tryz.isAgg5
 z5:=Tryz.sizeOf5
 v5:=Tryz.zeroValue5
 t9:=Tryz.underlying9
 a9:=Tryz.isAgg9
 z9:=Tryz.sizeOf9
 v9:=Tryz.zeroValue9
 t20:=Tryz.underlying20
 a20:=Tryz.isAgg20
 z20:=Tryz.sizeOf20
 v20:=Tryz.zeroValue20
 t21:=Tryz.underlying21
 a21:=Tryz.isAgg21
 z21:=Tryz.sizeOf21
 v21:=Tryz.zeroValue21
 t37:=Tryz.underlying64
 a37:=Tryz.isAgg64
 z37:=Tryz.sizeOf64
 v37:=Tryz.zeroValue64
 t46:=Tryz.underlying93
 a46:=Tryz.isAgg93
 z46:=Tryz.sizeOf93
 v46:=Tryz.zeroValue93
 t51:=Tryz.underlying210
 a51:=Tryz.isAgg210
 z51:=Tryz.sizeOf210
 v51:=Tryz.zeroValue210
 t53:=Tryz.underlying213
 a53:=Tryz.isAgg213
 z53:=Tryz.sizeOf213
 v53:=Tryz.zeroValue213
 t75:=Tryz.underlying91
 a75:=Tryz.isAgg91
 z75:=Tryz.sizeOf91
 v75:=Tryz.zeroValue91
 t76:=Tryz.underlying114
 a76:=Tryz.isAgg114
 z76:=Tryz.sizeOf114
 v76:=Tryz.zeroValue114
 t85:=Tryz.underlying201
 a85:=Tryz.isAgg201
 z85:=Tryz.sizeOf201
 v85:=Tryz.zeroValue201
 t127:=Tryz.underlying140
 a127:=Tryz.isAgg140
 z127:=Tryz.sizeOf140
 v127:=Tryz.zeroValue140
 t143:=Tryz.underlying276
 a143:=Tryz.isAgg276
 z143:=Tryz.sizeOf276
 v143:=Tryz.zeroValue276
 t145:=Tryz.underlying278
 a145:=Tryz.isAgg278
 z145:=Tryz.sizeOf278
 v145:=Tryz.zeroValue278
 t167:=Tryz.underlying200
 a167:=Tryz.isAgg200
 z167:=Tryz.sizeOf200
 v167:=Tryz.zeroValue200
 t168:=Tryz.underlying203
 a168:=Tryz.isAgg203
 z168:=Tryz.sizeOf203
 v168:=Tryz.zeroValue203
 t171:=Tryz.underlying246
 a171:=Tryz.isAgg246
 z171:=Tryz.sizeOf246
 v171:=Tryz.zeroValue246
 t173:=Tryz.underlying248
 a173:=Tryz.isAgg248
 z173:=Tryz.sizeOf248
 v173:=Tryz.zeroValue248
 t175:=Tryz.underlying240
 a175:=Tryz.isAgg240
 z175:=Tryz.sizeOf240
 v175:=Tryz.zeroValue240
 t210:=Tryz.underlying244
 a210:=Tryz.isAgg244
 z210:=Tryz.sizeOf244
 v210:=Tryz.zeroValue244
 t212:=Tryz.underlying281
 a212:=Tryz.isAgg281
 z212:=Tryz.sizeOf281
 v212:=Tryz.zeroValue281
 t213:=Tryz.underlying282
 a213:=Tryz.isAgg282
 z213:=Tryz.sizeOf282
 t232:=Tryz.underlying295
 a232:=Tryz.isAgg295
 z232:=Tryz.sizeOf295
 v232:=Tryz.zeroValue295
 t233:=Tryz.underlying296
 a233:=Tryz.isAgg296
 z233:=Tryz.sizeOf296
 v233:=Tryz.zeroValue296
 g15:=by kernel_rfl
 g16:=by kernel_rfl
 g17:=by kernel_rfl
 g18:=by kernel_rfl
 g19:=by kernel_rfl }
def Tryz.laysC172_ren:Go.Shelf.Ren:=⟨fun | 172=>72 | 244=>121 | 245=>122 | 247=>170 | 279=>171 | 280=>172 | 281=>173 | 282=>174 | 287=>229 | 316=>230 | 171=>87 | 205=>231 | 321=>261 | 322=>262 | 243=>138 | 246=>183 | 283=>234 | 284=>235 | 285=>236 | 286=>237 | 129=>219 | 317=>264 | 318=>265 | 319=>266 | 320=>267 | 337=>292 | 338=>293 | n=>n,fun | 9=>9 | 3=>3 | 75=>91 | 76=>114 | 4=>4 | 5=>5 | 167=>200 | 37=>64 | 0=>0 | 85=>201 | 2=>2 | 168=>203 | 53=>213 | 175=>240 | 46=>93 | 210=>244 | 127=>140 | 145=>278 | 143=>276 | 21=>21 | 171=>246 | 173=>248 | 212=>281 | 51=>210 | 20=>20 | 213=>282 | 232=>295 | 233=>296 | 80=>94 | n=>n,fun | 15=>1 | 16=>2 | 17=>5 | 18=>6 | 19=>7 | n=>n⟩
theorem Tryz.laysC172:Go.Proofs.LaysC.n172 Tryz.prog Tryz.laysC172_ren:={
 mixed:=by kernel_rfl
 f129:=Tryz.func219.trans (congrArg some (by kernel_rfl))
 f171:=Tryz.func87.trans (congrArg some (by kernel_rfl))
 f172:=Tryz.func72.trans (congrArg some (by kernel_rfl))
 f205:=Tryz.func231.trans (congrArg some (by kernel_rfl))
 f243:=Tryz.func138.trans (congrArg some (by kernel_rfl))
 f244:=Tryz.func121.trans (congrArg some (by kernel_rfl))
 f245:=Tryz.func122.trans (congrArg some (by kernel_rfl))
 f246:=Tryz.func183.trans (congrArg some (by kernel_rfl))
 f247:=Tryz.func170.trans (congrArg some (by kernel_rfl))
 f279:=Tryz.func171.trans (congrArg some (by kernel_rfl))
 f280:=Tryz.func172.trans (congrArg some (by kernel_rfl))
 f281:=Tryz.func173.trans (congrArg some (by kernel_rfl))
 f282:=Tryz.func174.trans (congrArg some (by kernel_rfl))
 f283:=Tryz.func234.trans (congrArg some (by kernel_rfl))
 f284:=Tryz.func235.trans (congrArg some (by kernel_rfl))
 f285:=Tryz.func236.trans (congrArg some (by kernel_rfl))
 f286:=Tryz.func237.trans (congrArg some (by kernel_rfl))
 f287:=Tryz.func229.trans (congrArg some (by kernel_rfl))
 f316:=Tryz.func230.trans (congrArg some (by kernel_rfl))
 f317:=Tryz.func264.trans (congrArg some (by kernel_rfl))
 f318:=Tryz.func265.trans (congrArg some (by kernel_rfl))
 f319:=Tryz.func266.trans (congrArg some (by kernel_rfl))
 f320:=Tryz.func267.trans (congrArg some (by kernel_rfl))
 f321:=Tryz.func261.trans (congrArg some (by kernel_rfl))
 f322:=Tryz.func262.trans (congrArg some (by kernel_rfl))
 f337:=Tryz.func292.trans (congrArg some (by kernel_rfl))
 f338:=Tryz.func293.trans (congrArg some (by kernel_rfl))
 t0:=Tryz.underlying0
 a0:=Tryz.isAgg0
 z0:=Tryz.sizeOf0
 v0:=Tryz.zeroValue0
 t2:=Tryz.underlying2
 a2:=Tryz.isAgg2
 z2:=Tryz.sizeOf2
 v2:=Tryz.zeroValue2
 t3:=Tryz.underlying3
 a3:=Tryz.isAgg3
 z3:=Tryz.sizeOf3
 v3:=Tryz.zeroValue3
 t4:=Tryz.underlying4
 a4:=Tryz.isAgg4
 z4:=Tryz.sizeOf4
 v4:=Tryz.zeroValue4
 t5:=Tryz.underlying5
 a5:=Tryz.isAgg5
 z5:=Tryz.sizeOf5
 v5:=Tryz.zeroValue5
 t9:=Tryz.underlying9
 a9:=Tryz.isAgg9
 z9:=Tryz.sizeOf9
 v9:=Tryz.zeroValue9
 t20:=Tryz.underlying20
 a20:=Tryz.isAgg20
 z20:=Tryz.sizeOf20
 v20:=Tryz.zeroValue20
 t21:=Tryz.underlying21
 a21:=Tryz.isAgg21
 z21:=Tryz.sizeOf21
 v21:=Tryz.zeroValue21
 t37:=Tryz.underlying64
 a37:=Tryz.isAgg64
 z37:=Tryz.sizeOf64
 v37:=Tryz.zeroValue64
 t46:=Tryz.underlying93
 a46:=Tryz.isAgg93
 z46:=Tryz.sizeOf93
 v46:=Tryz.zeroValue93
 t51:=Tryz.underlying210
 a51:=Tryz.isAgg210
 z51:=Tryz.sizeOf210
 v51:=Tryz.zeroValue210
 t53:=Tryz.underlying213
 a53:=Tryz.isAgg213
 z53:=Tryz.sizeOf213
 v53:=Tryz.zeroValue213
 t75:=Tryz.underlying91
 a75:=Tryz.isAgg91
 z75:=Tryz.sizeOf91
 v75:=Tryz.zeroValue91
 t76:=Tryz.underlying114
 a76:=Tryz.isAgg114
 z76:=Tryz.sizeOf114
 v76:=Tryz.zeroValue114
 t85:=Tryz.underlying201
 a85:=Tryz.isAgg201
 z85:=Tryz.sizeOf201
 v85:=Tryz.zeroValue201
 t127:=Tryz.underlying140
 a127:=Tryz.isAgg140
 z127:=Tryz.sizeOf140
 v127:=Tryz.zeroValue140
 t143:=Tryz.underlying276
 a143:=Tryz.isAgg276
 z143:=Tryz.sizeOf276
 v143:=Tryz.zeroValue276
 t145:=Tryz.underlying278
 a145:=Tryz.isAgg278
 z145:=Tryz.sizeOf278
 v145:=Tryz.zeroValue278
 t167:=Tryz.underlying200
 a167:=Tryz.isAgg200
 z167:=Tryz.sizeOf200
 v167:=Tryz.zeroValue200
 t168:=Tryz.underlying203
 a168:=Tryz.isAgg203
 z168:=Tryz.sizeOf203
 v168:=Tryz.zeroValue203
 t171:=Tryz.underlying246
 a171:=Tryz.isAgg246
 z171:=Tryz.sizeOf246
 v171:=Tryz.zeroValue246
 t173:=Tryz.underlying248
 a173:=Tryz.isAgg248
 z173:=Tryz.sizeOf248
 v173:=Tryz.zeroValue248
 t175:=Tryz.underlying240
 a175:=Tryz.isAgg240
 z175:=Tryz.sizeOf240
 v175:=Tryz.zeroValue240
 t210:=Tryz.underlying244
 a210:=Tryz.isAgg244
 z210:=Tryz.sizeOf244
 v210:=Tryz.zeroValue244
 t212:=Tryz.underlying281
 a212:=Tryz.isAgg281
 z212:=Tryz.sizeOf281
 v212:=Tryz.zeroValue281
 t213:=Tryz.underlying282
 a213:=Tryz.isAgg282
 z213:=Tryz.sizeOf282
 t232:=Tryz.underlying295
 a232:=Tryz.isAgg295
 z232:=Tryz.sizeOf295
 v232:=Tryz.zeroValue295
 t233:=Tryz.underlying296
 a233:=Tryz.isAgg296
 z233:=Tryz.sizeOf296
 v233:=Tryz.zeroValue296
 g15:=by kernel_rfl
 g16:=by kernel_rfl
 g17:=by kernel_rfl
 g18:=by kernel_rfl
 g19:=by kernel_rfl
 t80:=Tryz.underlying94
 a80:=Tryz.isAgg94
 z80:=Tryz.sizeOf94
 v80:=Tryz.zeroValue94
 i0:=by kernel_rfl
 i2:=by kernel_rfl
 i3:=by kernel_rfl
 i4:=by kernel_rfl
 i5:=by kernel_rfl
 i9:=by kernel_rfl
 i20:=by kernel_rfl
 i21:=by kernel_rfl
 i37:=by kernel_rfl
 i46:=by kernel_rfl
 i51:=by kernel_rfl
 i53:=by kernel_rfl
 i75:=by kernel_rfl
 i76:=by kernel_rfl
 i80:=by kernel_rfl
 i85:=by kernel_rfl
 i127:=by kernel_rfl
 i143:=by kernel_rfl
 i145:=by kernel_rfl
 i167:=by kernel_rfl
 i168:=by kernel_rfl
 i171:=by kernel_rfl
 i173:=by kernel_rfl
 i175:=by kernel_rfl
 i210:=by kernel_rfl
 i212:=by kernel_rfl
 i232:=by kernel_rfl
 i233:=by kernel_rfl
 m15:=by kernel_rfl
 m16:=by kernel_rfl
 m17:=by kernel_rfl
 m18:=by kernel_rfl
 m19:=by kernel_rfl
 c0:=by kernel_rfl
 c2:=by kernel_rfl
 c3:=by kernel_rfl
 c4:=by kernel_rfl
 c5:=by kernel_rfl
 c9:=by kernel_rfl
 c20:=by kernel_rfl
 c21:=by kernel_rfl
 c37:=by kernel_rfl
 c46:=by kernel_rfl
 c51:=by kernel_rfl
 c53:=by kernel_rfl
 c75:=by kernel_rfl
 c76:=by kernel_rfl
 c80:=by kernel_rfl
 c85:=by kernel_rfl
 c127:=by kernel_rfl
 c143:=by kernel_rfl
 c145:=by kernel_rfl
 c167:=by kernel_rfl
 c168:=by kernel_rfl
 c171:=by kernel_rfl
 c173:=by kernel_rfl
 c175:=by kernel_rfl
 c210:=by kernel_rfl
 c212:=by kernel_rfl
 c213:=by kernel_rfl
 c232:=by kernel_rfl
 c233:=by kernel_rfl }
open Go.RowKit in
theorem Tryz.strconv_Atoi_err (s:ByteArray)(hl:s.size<=18)(h:Lib.atoi s.data.toList=none)(ev:Value)(w:World)(hv:w.cell? ⟨1,0,none⟩=some ev)(hev:ev = .nilIface\/∃ te pe,ev = .iface te pe) :
  Calls Tryz.prog 72 #[.string s] w fun e w'=>∃ N,e = .returned (.tuple #[.int .i64 0,.iface 203 (.pointer (some ⟨N,0,none⟩))])/\w.heap.size<=N/\w'.heap[N]? = some (.cells #[.string ⟨#[65,116,111,105]⟩,.string s,ev] 244 (0,0))/\Below w.heap.size w w':=Any.strconv_Atoi_err Tryz.laysC172 s hl h ev w hv hev
end Go.Proofs
namespace Go.Proofs.YtbaaokocnegdoaaGreatDoor
open Go Go.Ab
attribute [local irreducible] vc
def oF (T:Nat)(p:PV):Nat->List PV:=fun g=>if g=1 then [.iface T p] else au g
theorem Sp {T:Nat}{p:PV}{w:World}{imm:Nat->Nat->Prop}(h:bt (oF T p) w imm):bt au w imm:=by
 have key:∀ g,au g≠[]->oF T p g=au g:=by
  intro g hg
  unfold oF
  by_cases h0:g=1
  ·subst h0;exact absurd rfl hg
  ·rw[if_neg h0]
 refine⟨fun g o p hp=>h.1 g o p ?_,fun g hg=>?_⟩
 ·rw[key g (by intro e;rw[e] at hp;simp at hp)];exact hp
 ·rw[<- key g hg]
  exact h.2 g (by rw[key g hg];exact hg)
theorem toE {T:Nat}{p:PV}{f:Nat}{args:List PV}{r:PV}(h:ae Tryz.prog au f args r):ae Tryz.prog (oF T p) f args r:=
 ⟨h.1,fun w imm vals hG=>h.2 w imm vals (Sp hG)⟩
def Fa:PV:=.iface 203 (.eptr [.str [65,116,111,105]] 0 0)
def NF:Option Int->PV
 | some n=>.tup [.int .i64 n,.nili]
 | none=>.tup [.int .i64 0,Fa]
theorem QU {T:Nat}{p:PV}(s:List UInt8)(hl:s.length<=18):ae Tryz.prog (oF T p) 72 [.str s] (NF (Lib.atoi s)):=by
 refine⟨by kernel_rfl,fun w imm vals hG hlt hsz hargs=>?_⟩
 have hv:=A2 hsz
 obtain⟨h1,_⟩:=dx (hargs 0 (.str s) rfl)
 rw[hv,h1]
 have hbl:(⟨s.toArray⟩:ByteArray).size<=18:=by show s.toArray.size<=18;simpa using hl
 have hbd:(⟨s.toArray⟩:ByteArray).data.toList=s:=rfl
 cases ha:Lib.atoi s with
 | some n=>
   refine (Any.strconv_Atoi Tryz.lays172 ⟨s.toArray⟩ n hbl (by rw[hbd];exact ha) w).mono ?_
   rintro e w' ⟨rfl,t,rfl⟩
   have hb:=Lib.bytesWorld_below w (Tryz.lays172_ren.t 5) t
   refine⟨_,imm,rfl,hb,fun _ _ h=>h,fun _ _ h=>.inl h,fun b o h=>Nat.lt_of_lt_of_le (hlt b o h) hb.size,?_⟩
   refine PRel.tup _ _ rfl fun i x hx=>?_
   match i,hx with
   | 0,hx=>cases hx;exact .int _ _
   | 1,hx=>cases hx;exact .nili
   | i+2,hx=>simp at hx
 | none=>
   obtain⟨_,ev,hev,_,hrel⟩:=hG.1 1 0 (.iface T p) rfl
   have hev2:ev = .nilIface\/∃ te pe,ev = .iface te pe:=by cases hrel;exact .inr ⟨_,_,rfl⟩
   refine (Tryz.strconv_Atoi_err ⟨s.toArray⟩ hbl (by rw[hbd];exact ha) ev w hev hev2).mono ?_
   rintro e w' ⟨N,rfl,hN,hcells,hb⟩
   have hNl:N<w'.heap.size:=(Array.getElem?_eq_some_iff.1 hcells).1
   refine⟨_,fun b o=>imm b o\/b=N,rfl,hb,fun _ _ h=>.inl h,fun b o h=>h.elim .inl fun e=>.inr (e▸hN),fun b o h=>h.elim (fun h=>Nat.lt_of_lt_of_le (hlt b o h) hb.size) fun e=>e▸hNl,?_⟩
   refine PRel.tup _ _ rfl fun i x hx=>?_
   match i,hx with
   | 0,hx=>cases hx;exact .int _ _
   | 1,hx=>
     cases hx
     refine .iface _ _ _ ?_
     refine PRel.eptr [.str [65,116,111,105]] N 0 1 1 (fun _ _=>.string ⟨#[65,116,111,105]⟩) 0 0 (by simp) (by unfold maxLen;omega) ?_ ?_ ?_ (by simp)
     ·intro i x hx
      match i,hx with
      | 0,hx=>cases hx;rfl
      | i+1,hx=>simp at hx
     ·intro i x j y hx hy
      match i,hx with
      | 0,hx=>
        cases hx
        match j,hy with
        | 0,hy=>
          refine⟨.inr rfl,?_,rfl⟩
          have:=cell_of_row w' N 0 _ _ _ hcells
          simpa using this
        | j+1,hy=>simp[PV.cells] at hy
      | i+1,hx=>simp at hx
     ·intro i x j y hx hy
      match i,hx with
      | 0,hx=>
        cases hx
        match j,hy with
        | 0,hy=>
          cases hy
          exact PRel.str ⟨#[65,116,111,105]⟩ (by unfold maxLen;decide)
        | j+1,hy=>simp[PV.cells] at hy
      | i+1,hx=>simp at hx
   | i+2,hx=>simp at hx
def nk:List UInt8->Option (List UInt8×List UInt8)
 | []=>none
 | c::r=>if c=46 then some ([],r) else (nk r).map fun q=>(c::q.1,q.2)
theorem qR:∀ {s:List UInt8} (k:Nat),nk s=none->il 46 s k = -1
 | [],k,_=>rfl
 | c::r,k,h=>by
   rw[nk] at h
   split at h
   ·cases h
   ·rename_i hc
    rw[il,if_neg (by simpa using hc)]
    exact qR (k+1) (by simpa using h)
theorem lP:∀ {s a b:List UInt8} (k:Nat),nk s=some (a,b)->il 46 s k=(k:Int)+a.length/\s=a++46::b
 | [],a,b,k,h=>by simp[nk] at h
 | c::r,a,b,k,h=>by
   rw[nk] at h
   split at h
   ·rename_i hc
    cases h
    subst hc
    rw[il,if_pos (by simp)]
    exact⟨by simp,rfl⟩
   ·rename_i hc
    simp only[Option.map_eq_some_iff] at h
    obtain⟨q,hq,he⟩:=h
    cases he
    have ih:=lP (k+1) hq
    rw[il,if_neg (by simpa using hc),ih.1]
    refine⟨by simp;omega,?_⟩
    conv=>lhs;rw[ih.2]
    rfl
def Oi (s:List UInt8):PV:=
 match nk s with
 | some (a,b)=>.tup [.str a,.str b,.bool true]
 | none=>.tup [.str s,.str [],.bool false]
theorem Ih (s:List UInt8):ae Tryz.prog au 169 [.str s,.str [46]] (.int .i64 (il 46 s 0)):=by
 by_cases h:s=[46]
 ·subst h
  refine ae.intro KH.2 (by simp[KH]) ?_
  rw[show il 46 [46] 0=0 from rfl]
  simp(disch:=try exact dI) only[KH,push_cast,seval]
 ·have hi:=vo s 46
  rw[show (46:Int).toNat.toUInt8=46 from rfl] at hi
  have hb:decide ([46]=s)=false:=decide_eq_false fun e=>h e.symm
  generalize il 46 s 0=q at *
  refine ae.intro KH.2 (by simp[KH]) ?_
  have e46:(((46:UInt8).toNat:Nat):Int)=46:=rfl
  simp(disch:=try exact dI) only[KH,hb,push_cast,seval]
  refine ab.pure hi rfl ?_
  exact qsZ
theorem Ql (s:List UInt8)(hl:s.length<=100000):ae Tryz.prog au 120 [.str s,.str [46]] (Oi s):=by
 have hi:=Ih s
 unfold Oi
 cases hc:nk s with
 | none=>
   rw[qR 0 hc] at hi
   refine ae.intro KL.2 (by simp[KL]) ?_
   simp(disch:=try exact dI) only[KL,push_cast,seval]
   refine ab.pure hi rfl ?_
   exact qsZ
 | some q=>
   obtain⟨a,b⟩:=q
   obtain⟨h1,h2⟩:=lP 0 hc
   rw[h1] at hi
   have hsl:s.length=a.length+(b.length+1):=by rw[h2];simp
   have t1:s.take a.length=a:=by rw[h2];simp
   have t2:s.drop (a.length+1)=b:=by rw[h2];simp
   have ez:((0:Nat):Int)+(a.length:Int)=(a.length:Int):=by omega
   rw[ez] at hi
   have e1:((a.length:Int)).toNat=a.length:=by omega
   have e2:((a.length:Int)+1).toNat=a.length+1:=by omega
   refine ae.intro KL.2 (by simp[KL]) ?_
   simp(disch:=try exact dI) only[KL,push_cast,seval]
   refine ab.pure hi rfl ?_
   simp(disch:=try exact dI) only[t1,t2,e1,e2,List.take_length,push_cast,seval]
theorem SR (s:List UInt8)(hl:s.length<=100000):ae Tryz.prog au 71 [.str s,.str [46]] (Oi s):=by
 have h:=Ql s hl
 unfold Oi at h ⊢
 cases hc:nk s with
 | none=>
   rw[hc] at h
   refine ae.intro Q71.2 (by simp[Q71]) ?_
   simp(disch:=try exact dI) only[Q71,push_cast,seval]
   refine ab.pure h rfl ?_
   exact qsZ
 | some q=>
   obtain⟨a,b⟩:=q
   rw[hc] at h
   refine ae.intro Q71.2 (by simp[Q71]) ?_
   simp(disch:=try exact dI) only[Q71,push_cast,seval]
   refine ab.pure h rfl ?_
   exact qsZ
end Go.Proofs.YtbaaokocnegdoaaGreatDoor
