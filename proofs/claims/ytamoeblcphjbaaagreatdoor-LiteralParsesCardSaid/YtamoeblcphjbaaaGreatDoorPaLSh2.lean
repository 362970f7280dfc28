/- A part of the proof. -/
import Derived.Shelf.Strconv.Atoi
import Derived.Shelf.LaysM
import Derived.Shelf.Strconv.AtoiErr
import Derived.Test.YtamoeblcphjbaaaGreatDoorProg
import Derived.Test.YtamoeblcphjbaaaGreatDoorPaLC14
/-
 DERIVED: THE SHELF's CONTRACTS AT THIS DUMP,IN PLAIN WORDS (tools/lay-plain.mjs out of 'TryzC8.lean',which tools/lay-shelf.mjs wrote): THE SAME DECLARATIONS UNDER THE SAME NAMES: 'import','namespace','open','def','theorem' AND NOTHING ELSE: no command of the shelf's: FOR A HAND-IN. Each laying: the table of numbers ('.._ren') and one theorem,a field a fact of the dump's own or the kernel's comparison;each jN: ONE APPLICATION.
-/
namespace Go.Proofs
open Go.Shelf
def Tryz.lays172_ren:Go.Shelf.Ren:=⟨fun | 172=>185 | 244=>221 | 245=>222 | 247=>249 | 279=>250 | 280=>251 | 281=>252 | 282=>253 | 287=>270 | 316=>271 | 171=>66 | 205=>272 | 321=>278 | 322=>279 | 243=>147 | 246=>108 | 283=>176 | 284=>177 | 285=>178 | 286=>179 | 129=>215 | 317=>214 | 318=>216 | 319=>217 | 320=>218 | 337=>246 | 338=>247 | n=>n,fun | 9=>9 | 3=>3 | 75=>85 | 76=>87 | 4=>4 | 5=>5 | 167=>240 | 37=>37 | 0=>0 | 85=>241 | 2=>2 | 168=>243 | 53=>181 | 175=>258 | 46=>163 | 210=>261 | 127=>131 | 145=>272 | 143=>270 | 21=>21 | 171=>180 | 173=>184 | 212=>219 | 51=>206 | 20=>20 | 213=>220 | 232=>256 | 233=>257 | 80=>90 | n=>n,fun | 15=>6 | 16=>7 | 17=>3 | 18=>4 | 19=>5 | n=>n⟩
theorem Tryz.lays172:Go.Proofs.Lays.n172 Tryz.prog Tryz.lays172_ren:={
 mixed:=by kernel_rfl
 f129:=Tryz.func215.trans (congrArg some (by kernel_rfl))
 f171:=Tryz.func66.trans (congrArg some (by kernel_rfl))
 f172:=Tryz.func185.trans (congrArg some (by kernel_rfl))
 f205:=Tryz.func272.trans (congrArg some (by kernel_rfl))
 f243:=Tryz.func147.trans (congrArg some (by kernel_rfl))
 f244:=Tryz.func221.trans (congrArg some (by kernel_rfl))
 f245:=Tryz.func222.trans (congrArg some (by kernel_rfl))
 f246:=Tryz.func108.trans (congrArg some (by kernel_rfl))
 f247:=Tryz.func249.trans (congrArg some (by kernel_rfl))
 f279:=Tryz.func250.trans (congrArg some (by kernel_rfl))
 f280:=Tryz.func251.trans (congrArg some (by kernel_rfl))
 f281:=Tryz.func252.trans (congrArg some (by kernel_rfl))
 f282:=Tryz.func253.trans (congrArg some (by kernel_rfl))
 f283:=Tryz.func176.trans (congrArg some (by kernel_rfl))
 f284:=Tryz.func177.trans (congrArg some (by kernel_rfl))
 f285:=Tryz.func178.trans (congrArg some (by kernel_rfl))
 f286:=Tryz.func179.trans (congrArg some (by kernel_rfl))
 f287:=Tryz.func270.trans (congrArg some (by kernel_rfl))
 f316:=Tryz.func271.trans (congrArg some (by kernel_rfl))
 f317:=Tryz.func214.trans (congrArg some (by kernel_rfl))
 f318:=Tryz.func216.trans (congrArg some (by kernel_rfl))
 f319:=Tryz.func217.trans (congrArg some (by kernel_rfl))
 f320:=Tryz.func218.trans (congrArg some (by kernel_rfl))
 f321:=Tryz.func278.trans (congrArg some (by kernel_rfl))
 f322:=Tryz.func279.trans (congrArg some (by kernel_rfl))
 f337:=Tryz.func246.trans (congrArg some (by kernel_rfl))
 f338:=Tryz.func247.trans (congrArg some (by kernel_rfl))
 t0:=Tryz.underlying0
 a0:=Tryz.isAgg0
 z0:=Tryz.sizeOf0
 v0:=Tryz.zeroValue0
 t2:=Tryz.underlying2
 a2:=Tryz.isAgg2
 z2:=Tryz.sizeOf2
 v2:=Tryz.zeroValue2
 t3:=Tryz.underlying3
 a3:=Tryz.isAgg3
 z3:=Tryz.sizeOf3
 v3:=Tryz.zeroValue3
 t4:=Tryz.underlying4
 a4:=Tryz.isAgg4
 z4:=Tryz.sizeOf4
 v4:=Tryz.zeroValue4
 t5:=Tryz.underlying5
 a5:=Tryz.isAgg5
 z5:=Tryz.sizeOf5
 v5:=Tryz.zeroValue5
 t9:=Tryz.underlying9
 a9:=Tryz.isAgg9
 z9:=Tryz.sizeOf9
 v9:=Tryz.zeroValue9
 t20:=Tryz.underlying20
 a20:=Tryz.isAgg20
 z20:=Tryz.sizeOf20
 v20:=Tryz.zeroValue20
 t21:=Tryz.underlying21
 a21:=Tryz.isAgg21
 z21:=Tryz.sizeOf21
 v21:=Tryz.zeroValue21
 t37:=Tryz.underlying37
 a37:=Tryz.isAgg37
 z37:=Tryz.sizeOf37
 v37:=Tryz.zeroValue37
 t46:=Tryz.underlying163
 a46:=Tryz.isAgg163
 z46:=Tryz.sizeOf163
 v46:=Tryz.zeroValue163
 t51:=Tryz.underlying206
 a51:=Tryz.isAgg206
 z51:=Tryz.sizeOf206
 v51:=Tryz.zeroValue206
 t53:=Tryz.underlying181
 a53:=Tryz.isAgg181
 z53:=Tryz.sizeOf181
 v53:=Tryz.zeroValue181
 t75:=Tryz.underlying85
 a75:=Tryz.isAgg85
 z75:=Tryz.sizeOf85
 v75:=Tryz.zeroValue85
 t76:=Tryz.underlying87
 a76:=Tryz.isAgg87
 z76:=Tryz.sizeOf87
 v76:=Tryz.zeroValue87
 t85:=Tryz.underlying241
 a85:=Tryz.isAgg241
 z85:=Tryz.sizeOf241
 v85:=Tryz.zeroValue241
 t127:=Tryz.underlying131
 a127:=Tryz.isAgg131
 z127:=Tryz.sizeOf131
 v127:=Tryz.zeroValue131
 t143:=Tryz.underlying270
 a143:=Tryz.isAgg270
 z143:=Tryz.sizeOf270
 v143:=Tryz.zeroValue270
 t145:=Tryz.underlying272
 a145:=Tryz.isAgg272
 z145:=Tryz.sizeOf272
 v145:=Tryz.zeroValue272
 t167:=Tryz.underlying240
 a167:=Tryz.isAgg240
 z167:=Tryz.sizeOf240
 v167:=Tryz.zeroValue240
 t168:=Tryz.underlying243
 a168:=Tryz.isAgg243
 z168:=Tryz.sizeOf243
 v168:=Tryz.zeroValue243
 t171:=Tryz.underlying180
 a171:=Tryz.isAgg180
 z171:=Tryz.sizeOf180
 v171:=Tryz.zeroValue180
 t173:=Tryz.underlying184
 a173:=Tryz.isAgg184
 z173:=Tryz.sizeOf184
 v173:=Tryz.zeroValue184
 t175:=Tryz.underlying258
 a175:=Tryz.isAgg258
 z175:=Tryz.sizeOf258
 v175:=Tryz.zeroValue258
 t210:=Tryz.underlying261
 a210:=Tryz.isAgg261
 z210:=Tryz.sizeOf261
 v210:=Tryz.zeroValue261
 t212:=Tryz.underlying219
 a212:=Tryz.isAgg219
 z212:=Tryz.sizeOf219
 v212:=Tryz.zeroValue219
 t213:=Tryz.underlying220
 a213:=Tryz.isAgg220
 z213:=Tryz.sizeOf220
 t232:=Tryz.underlying256
 a232:=Tryz.isAgg256
 z232:=Tryz.sizeOf256
 v232:=Tryz.zeroValue256
 t233:=Tryz.underlying257
 a233:=Tryz.isAgg257
 z233:=Tryz.sizeOf257
 v233:=Tryz.zeroValue257
 g15:=by kernel_rfl
 g16:=by kernel_rfl
 g17:=by kernel_rfl
 g18:=by kernel_rfl
 g19:=by kernel_rfl }
def Tryz.laysC172_ren:Go.Shelf.Ren:=⟨fun | 172=>185 | 244=>221 | 245=>222 | 247=>249 | 279=>250 | 280=>251 | 281=>252 | 282=>253 | 287=>270 | 316=>271 | 171=>66 | 205=>272 | 321=>278 | 322=>279 | 243=>147 | 246=>108 | 283=>176 | 284=>177 | 285=>178 | 286=>179 | 129=>215 | 317=>214 | 318=>216 | 319=>217 | 320=>218 | 337=>246 | 338=>247 | n=>n,fun | 9=>9 | 3=>3 | 75=>85 | 76=>87 | 4=>4 | 5=>5 | 167=>240 | 37=>37 | 0=>0 | 85=>241 | 2=>2 | 168=>243 | 53=>181 | 175=>258 | 46=>163 | 210=>261 | 127=>131 | 145=>272 | 143=>270 | 21=>21 | 171=>180 | 173=>184 | 212=>219 | 51=>206 | 20=>20 | 213=>220 | 232=>256 | 233=>257 | 80=>90 | n=>n,fun | 15=>6 | 16=>7 | 17=>3 | 18=>4 | 19=>5 | n=>n⟩
theorem Tryz.laysC172:Go.Proofs.LaysC.n172 Tryz.prog Tryz.laysC172_ren:={
 mixed:=by kernel_rfl
 f129:=Tryz.func215.trans (congrArg some (by kernel_rfl))
 f171:=Tryz.func66.trans (congrArg some (by kernel_rfl))
 f172:=Tryz.func185.trans (congrArg some (by kernel_rfl))
 f205:=Tryz.func272.trans (congrArg some (by kernel_rfl))
 f243:=Tryz.func147.trans (congrArg some (by kernel_rfl))
 f244:=Tryz.func221.trans (congrArg some (by kernel_rfl))
 f245:=Tryz.func222.trans (congrArg some (by kernel_rfl))
 f246:=Tryz.func108.trans (congrArg some (by kernel_rfl))
 f247:=Tryz.func249.trans (congrArg some (by kernel_rfl))
 f279:=Tryz.func250.trans (congrArg some (by kernel_rfl))
 f280:=Tryz.func251.trans (congrArg some (by kernel_rfl))
 f281:=Tryz.func252.trans (congrArg some (by kernel_rfl))
 f282:=Tryz.func253.trans (congrArg some (by kernel_rfl))
 f283:=Tryz.func176.trans (congrArg some (by kernel_rfl))
 f284:=Tryz.func177.trans (congrArg some (by kernel_rfl))
 f285:=Tryz.func178.trans (congrArg some (by kernel_rfl))
 f286:=Tryz.func179.trans (congrArg some (by kernel_rfl))
 f287:=Tryz.func270.trans (congrArg some (by kernel_rfl))
 f316:=Tryz.func271.trans (congrArg some (by kernel_rfl))
 f317:=Tryz.func214.trans (congrArg some (by kernel_rfl))
 f318:=Tryz.func216.trans (congrArg some (by kernel_rfl))
 f319:=Tryz.func217.trans (congrArg some (by kernel_rfl))
 f320:=Tryz.func218.trans (congrArg some (by kernel_rfl))
 f321:=Tryz.func278.trans (congrArg some (by kernel_rfl))
 f322:=Tryz.func279.trans (congrArg some (by kernel_rfl))
 f337:=Tryz.func246.trans (congrArg some (by kernel_rfl))
 f338:=Tryz.func247.trans (congrArg some (by kernel_rfl))
 t0:=Tryz.underlying0
 a0:=Tryz.isAgg0
 z0:=Tryz.sizeOf0
 v0:=Tryz.zeroValue0
 t2:=Tryz.underlying2
 a2:=Tryz.isAgg2
 z2:=Tryz.sizeOf2
 v2:=Tryz.zeroValue2
 t3:=Tryz.underlying3
 a3:=Tryz.isAgg3
 z3:=Tryz.sizeOf3
 v3:=Tryz.zeroValue3
 t4:=Tryz.underlying4
 a4:=Tryz.isAgg4
 z4:=Tryz.sizeOf4
 v4:=Tryz.zeroValue4
 t5:=Tryz.underlying5
 a5:=Tryz.isAgg5
 z5:=Tryz.sizeOf5
 v5:=Tryz.zeroValue5
 t9:=Tryz.underlying9
 a9:=Tryz.isAgg9
 z9:=Tryz.sizeOf9
 v9:=Tryz.zeroValue9
 t20:=Tryz.underlying20
 a20:=Tryz.isAgg20
 z20:=Tryz.sizeOf20
 v20:=Tryz.zeroValue20
 t21:=Tryz.underlying21
 a21:=Tryz.isAgg21
 z21:=Tryz.sizeOf21
 v21:=Tryz.zeroValue21
 t37:=Tryz.underlying37
 a37:=Tryz.isAgg37
 z37:=Tryz.sizeOf37
 v37:=Tryz.zeroValue37
 t46:=Tryz.underlying163
 a46:=Tryz.isAgg163
 z46:=Tryz.sizeOf163
 v46:=Tryz.zeroValue163
 t51:=Tryz.underlying206
 a51:=Tryz.isAgg206
 z51:=Tryz.sizeOf206
 v51:=Tryz.zeroValue206
 t53:=Tryz.underlying181
 a53:=Tryz.isAgg181
 z53:=Tryz.sizeOf181
 v53:=Tryz.zeroValue181
 t75:=Tryz.underlying85
 a75:=Tryz.isAgg85
 z75:=Tryz.sizeOf85
 v75:=Tryz.zeroValue85
 t76:=Tryz.underlying87
 a76:=Tryz.isAgg87
 z76:=Tryz.sizeOf87
 v76:=Tryz.zeroValue87
 t85:=Tryz.underlying241
 a85:=Tryz.isAgg241
 z85:=Tryz.sizeOf241
 v85:=Tryz.zeroValue241
 t127:=Tryz.underlying131
 a127:=Tryz.isAgg131
 z127:=Tryz.sizeOf131
 v127:=Tryz.zeroValue131
 t143:=Tryz.underlying270
 a143:=Tryz.isAgg270
 z143:=Tryz.sizeOf270
 v143:=Tryz.zeroValue270
 t145:=Tryz.underlying272
 a145:=Tryz.isAgg272
 z145:=Tryz.sizeOf272
 v145:=Tryz.zeroValue272
 t167:=Tryz.underlying240
 a167:=Tryz.isAgg240
 z167:=Tryz.sizeOf240
 v167:=Tryz.zeroValue240
 t168:=Tryz.underlying243
 a168:=Tryz.isAgg243
 z168:=Tryz.sizeOf243
 v168:=Tryz.zeroValue243
 t171:=Tryz.underlying180
 a171:=Tryz.isAgg180
 z171:=Tryz.sizeOf180
 v171:=Tryz.zeroValue180
 t173:=Tryz.underlying184
 a173:=Tryz.isAgg184
 z173:=Tryz.sizeOf184
 v173:=Tryz.zeroValue184
 t175:=Tryz.underlying258
 a175:=Tryz.isAgg258
 z175:=Tryz.sizeOf258
 v175:=Tryz.zeroValue258
 t210:=Tryz.underlying261
 a210:=Tryz.isAgg261
 z210:=Tryz.sizeOf261
 v210:=Tryz.zeroValue261
 t212:=Tryz.underlying219
 a212:=Tryz.isAgg219
 z212:=Tryz.sizeOf219
 v212:=Tryz.zeroValue219
 t213:=Tryz.underlying220
 a213:=Tryz.isAgg220
 z213:=Tryz.sizeOf220
 t232:=Tryz.underlying256
 a232:=Tryz.isAgg256
 z232:=Tryz.sizeOf256
 v232:=Tryz.zeroValue256
 t233:=Tryz.underlying257
 a233:=Tryz.isAgg257
 z233:=Tryz.sizeOf257
 v233:=Tryz.zeroValue257
 g15:=by kernel_rfl
 g16:=by kernel_rfl
 g17:=by kernel_rfl
 g18:=by kernel_rfl
 g19:=by kernel_rfl
 t80:=Tryz.underlying90
 a80:=Tryz.isAgg90
 z80:=Tryz.sizeOf90
 v80:=Tryz.zeroValue90
 i0:=by kernel_rfl
 i2:=by kernel_rfl
 i3:=by kernel_rfl
 i4:=by kernel_rfl
 i5:=by kernel_rfl
 i9:=by kernel_rfl
 i20:=by kernel_rfl
 i21:=by kernel_rfl
 i37:=by kernel_rfl
 i46:=by kernel_rfl
 i51:=by kernel_rfl
 i53:=by kernel_rfl
 i75:=by kernel_rfl
 i76:=by kernel_rfl
 i80:=by kernel_rfl
 i85:=by kernel_rfl
 i127:=by kernel_rfl
 i143:=by kernel_rfl
 i145:=by kernel_rfl
 i167:=by kernel_rfl
 i168:=by kernel_rfl
 i171:=by kernel_rfl
 i173:=by kernel_rfl
 i175:=by kernel_rfl
 i210:=by kernel_rfl
 i212:=by kernel_rfl
 i232:=by kernel_rfl
 i233:=by kernel_rfl
 m15:=by kernel_rfl
 m16:=by kernel_rfl
 m17:=by kernel_rfl
 m18:=by kernel_rfl
 m19:=by kernel_rfl
 c0:=by kernel_rfl
 c2:=by kernel_rfl
 c3:=by kernel_rfl
 c4:=by kernel_rfl
 c5:=by kernel_rfl
 c9:=by kernel_rfl
 c20:=by kernel_rfl
 c21:=by kernel_rfl
 c37:=by kernel_rfl
 c46:=by kernel_rfl
 c51:=by kernel_rfl
 c53:=by kernel_rfl
 c75:=by kernel_rfl
 c76:=by kernel_rfl
 c80:=by kernel_rfl
 c85:=by kernel_rfl
 c127:=by kernel_rfl
 c143:=by kernel_rfl
 c145:=by kernel_rfl
 c167:=by kernel_rfl
 c168:=by kernel_rfl
 c171:=by kernel_rfl
 c173:=by kernel_rfl
 c175:=by kernel_rfl
 c210:=by kernel_rfl
 c212:=by kernel_rfl
 c213:=by kernel_rfl
 c232:=by kernel_rfl
 c233:=by kernel_rfl }
open Go.RowKit in
theorem Tryz.strconv_Atoi_err (s:ByteArray)(hl:s.size≤18)(h:Lib.atoi s.data.toList=none)(ev:Value)(w:World)(hv:w.cell? ⟨6,0,none⟩=some ev)(hev:ev = .nilIface∨∃ te pe,ev = .iface te pe) :
  Calls Tryz.prog 185 #[.string s] w fun e w'=>∃ N,e = .returned (.tuple #[.int .i64 0,.iface 243 (.pointer (some ⟨N,0,none⟩))])∧w.heap.size≤N∧w'.heap[N]? = some (.cells #[.string ⟨#[65,116,111,105]⟩,.string s,ev] 261 (0,0))∧Below w.heap.size w w':=Any.strconv_Atoi_err Tryz.laysC172 s hl h ev w hv hev
end Go.Proofs
set_option maxRecDepth 100000
set_option linter.unusedVariables false
set_option linter.unusedSimpArgs false
-- many steps
namespace Go.Proofs.YtamoeblcphjbaaaGreatDoor
open Go Go.Ab
attribute [local irreducible] vc
def bG (T:Nat)(p:PV):Nat→List PV:=fun g=>if g=6 then [.iface T p] else aM g
theorem Rn {T:Nat}{p:PV}{w:World}{imm:Nat→Nat→Prop}(h:cG (bG T p) w imm):cG aM w imm:=by
 have key:∀ g,aM g≠[]→bG T p g=aM g:=by
  intro g hg
  unfold bG
  by_cases h0:g=6
  ·subst h0;exact absurd rfl hg
  ·rw[if_neg h0]
 refine⟨fun g o p hp=>h.1 g o p ?_,fun g hg=>?_⟩
 ·rw[key g (by intro e;rw[e] at hp;simp at hp)];exact hp
 ·rw[← key g hg]
  exact h.2 g (by rw[key g hg];exact hg)
theorem toE {T:Nat}{p:PV}{f:Nat}{args:List PV}{r:PV}(h:au Tryz.prog aM f args r):au Tryz.prog (bG T p) f args r:=
 ⟨h.1,fun w imm vals hG=>h.2 w imm vals (Rn hG)⟩
theorem jr {T:Nat}{p:PV}{k f:Nat}{args:List AV}{bs:List Blk}{v:AV}{bs':List Blk}(h:aF Tryz.prog aM k f args bs v bs'):aF Tryz.prog (bG T p) k f args bs v bs':=by
 have key:∀ g,aM g≠[]→bG T p g=aM g:=by
  intro g hg
  unfold bG
  by_cases h0:g=6
  ·subst h0;exact absurd rfl hg
  ·rw[if_neg h0]
 obtain⟨hc,h⟩:=h
 refine⟨hc,fun κ vals hS hf hsz hv=>?_⟩
 have hS1:SRel (cp κ (fun r=>lookB r (bW bs 0)) aM) κ (fun r=>lookB r (bW bs 0)):=by
  refine⟨hS.blk,hS.apart,hS.mine,hS.immLt,fun g o p hp=>hS.glob.1 g o p ?_,fun g hg=>?_⟩
  ·show (bG T _ g)[o]? = some p
   have hp':(aM g)[o]? = some p:=hp
   rw[key g (by intro e;rw[e] at hp';simp at hp')];exact hp'
  ·have hg':aM g≠[]:=hg
   have:=hS.glob.2 g (show bG T _ g≠[] by rw[key g hg'];exact hg')
   obtain⟨h1,h2,cs,T',fz,h3,h4⟩:=this
   exact⟨h1,h2,cs,T',fz,h3,h4.trans (congrArg List.length (key g hg'))⟩
 refine (h κ vals hS1 hf hsz hv).mono ?_
 rintro e w' ⟨u,v',κ',sto',next',h1,h2,he,hL,hv',hS',hf',hQ⟩
 exact⟨u,v',κ',sto',next',h1,h2,he,⟨hL.os,hL.tape,hL.output,hL.size,hL.block,hL.imm⟩,hv',⟨hS'.blk,hS'.apart,hS'.mine,hS'.immLt,SRel.glob_ext (κ:=κ.cut k) he hS.glob hL.block⟩,hf',hQ⟩
def CC:PV:=.iface 243 (.eptr [.str [65,116,111,105]] 0 0)
def Kr:Option Int→PV
 | some n=>.tup [.int .i64 n,.nili]
 | none=>.tup [.int .i64 0,CC]
theorem Ks {T:Nat}{p:PV}(s:List UInt8)(hl:s.length≤18):au Tryz.prog (bG T p) 185 [.str s] (Kr (Lib.atoi s)):=by
 refine⟨by kernel_rfl,fun w imm vals hG hlt hsz hargs=>?_⟩
 have hv:=xT hsz
 obtain⟨h1,_⟩:=ip (hargs 0 (.str s) rfl)
 rw[hv,h1]
 have hbl:(⟨s.toArray⟩:ByteArray).size≤18:=by show s.toArray.size≤18;simpa using hl
 have hbd:(⟨s.toArray⟩:ByteArray).data.toList=s:=rfl
 cases ha:Lib.atoi s with
 | some n=>
   refine (Any.strconv_Atoi Tryz.lays172 ⟨s.toArray⟩ n hbl (by rw[hbd];exact ha) w).mono ?_
   rintro e w' ⟨rfl,t,rfl⟩
   have hb:=Lib.bytesWorld_below w (Tryz.lays172_ren.t 5) t
   refine⟨_,imm,rfl,hb,fun _ _ h=>h,fun _ _ h=>.inl h,fun b o h=>Nat.lt_of_lt_of_le (hlt b o h) hb.size,?_⟩
   refine PRel.tup _ _ rfl fun i x hx=>?_
   match i,hx with
   | 0,hx=>cases hx;exact .int _ _
   | 1,hx=>cases hx;exact .nili
   | i+2,hx=>simp at hx
 | none=>
   obtain⟨_,ev,hev,_,hrel⟩:=hG.1 6 0 (.iface T p) rfl
   have hev2:ev = .nilIface∨∃ te pe,ev = .iface te pe:=by cases hrel;exact .inr ⟨_,_,rfl⟩
   refine (Tryz.strconv_Atoi_err ⟨s.toArray⟩ hbl (by rw[hbd];exact ha) ev w hev hev2).mono ?_
   rintro e w' ⟨N,rfl,hN,hcells,hb⟩
   have hNl:N<w'.heap.size:=(Array.getElem?_eq_some_iff.1 hcells).1
   refine⟨_,fun b o=>imm b o∨b=N,rfl,hb,fun _ _ h=>.inl h,fun b o h=>h.elim .inl fun e=>.inr (e▸hN),fun b o h=>h.elim (fun h=>Nat.lt_of_lt_of_le (hlt b o h) hb.size) fun e=>e▸hNl,?_⟩
   refine PRel.tup _ _ rfl fun i x hx=>?_
   match i,hx with
   | 0,hx=>cases hx;exact .int _ _
   | 1,hx=>
     cases hx
     refine .iface _ _ _ ?_
     refine PRel.eptr [.str [65,116,111,105]] N 0 1 1 (fun _ _=>.string ⟨#[65,116,111,105]⟩) 0 0 (by simp) (by unfold maxLen;omega) ?_ ?_ ?_ (by simp)
     ·intro i x hx
      match i,hx with
      | 0,hx=>cases hx;rfl
      | i+1,hx=>simp at hx
     ·intro i x j y hx hy
      match i,hx with
      | 0,hx=>
        cases hx
        match j,hy with
        | 0,hy=>
          refine⟨.inr rfl,?_,rfl⟩
          have:=cell_of_row w' N 0 _ _ _ hcells
          simpa using this
        | j+1,hy=>simp[PV.cells] at hy
      | i+1,hx=>simp at hx
     ·intro i x j y hx hy
      match i,hx with
      | 0,hx=>
        cases hx
        match j,hy with
        | 0,hy=>
          cases hy
          exact PRel.str ⟨#[65,116,111,105]⟩ (by unfold maxLen;decide)
        | j+1,hy=>simp[PV.cells] at hy
      | i+1,hx=>simp at hx
   | i+2,hx=>simp at hx
end Go.Proofs.YtamoeblcphjbaaaGreatDoor
-- many steps
namespace Go.Proofs.YtamoeblcphjbaaaGreatDoor
open Go Go.Ab
attribute [local irreducible] vc
def fV (d:UInt8):List UInt8→Option (List UInt8×List UInt8)
 | []=>none
 | c::r=>if c=d then some ([],r) else (fV d r).map fun q=>(c::q.1,q.2)
theorem pP {d:UInt8}:∀ {s:List UInt8} (k:Nat),fV d s=none→e6 d s k = -1
 | [],k,_=>rfl
 | c::r,k,h=>by
   rw[fV] at h
   split at h
   ·cases h
   ·rename_i hc
    rw[e6,if_neg (by simpa using hc)]
    exact pP (k+1) (by simpa using h)
theorem fw {d:UInt8}:∀ {s a b:List UInt8} (k:Nat),fV d s=some (a,b)→e6 d s k=(k:Int)+a.length∧s=a++d::b
 | [],a,b,k,h=>by simp[fV] at h
 | c::r,a,b,k,h=>by
   rw[fV] at h
   split at h
   ·rename_i hc
    cases h
    subst hc
    rw[e6,if_pos (by simp)]
    exact⟨by simp,rfl⟩
   ·rename_i hc
    simp only[Option.map_eq_some_iff] at h
    obtain⟨q,hq,he⟩:=h
    cases he
    have ih:=fw (k+1) hq
    rw[e6,if_neg (by simpa using hc),ih.1]
    refine⟨by simp;omega,?_⟩
    conv=>lhs;rw[ih.2]
    rfl
def nF (d:UInt8)(s:List UInt8):PV:=
 match fV d s with
 | some (a,b)=>.tup [.str a,.str b,.bool true]
 | none=>.tup [.str s,.str [],.bool false]
theorem Fz (s:List UInt8)(d:UInt8):au Tryz.prog aM 248 [.str s,.str [d]] (.int .i64 (e6 d s 0)):=by
 by_cases h:s=[d]
 ·subst h
  refine au.intro CU (by simp[PM]) ?_
  rw[show e6 d [d] 0=0 by simp[e6]]
  simp(disch:=try exact dI) only[PM,push_cast,seval]
 ·have hi:=ue s (d.toNat:Int)
  rw[show ((d.toNat:Int)).toNat.toUInt8=d by simp] at hi
  have hb:decide ([d]=s)=false:=decide_eq_false fun e=>h e.symm
  generalize e6 d s 0=q at *
  refine au.intro CU (by simp[PM]) ?_
  simp(disch:=try exact dI) only[PM,hb,push_cast,seval]
  refine ab.pure hi rfl ?_
  exact qsZ
theorem OE (d:UInt8)(s:List UInt8)(hl:s.length≤100000):au Tryz.prog aM 220 [.str s,.str [d]] (nF d s):=by
 have hi:=Fz s d
 unfold nF
 cases hc:fV d s with
 | none=>
   rw[pP 0 hc] at hi
   refine au.intro CW (by simp[PO]) ?_
   simp(disch:=try exact dI) only[PO,push_cast,seval]
   refine ab.pure hi rfl ?_
   exact qsZ
 | some q=>
   obtain⟨a,b⟩:=q
   obtain⟨h1,h2⟩:=fw 0 hc
   rw[h1] at hi
   have hsl:s.length=a.length+(b.length+1):=by rw[h2];simp
   have t1:s.take a.length=a:=by rw[h2];simp
   have t2:s.drop (a.length+1)=b:=by rw[h2];simp
   have ez:((0:Nat):Int)+(a.length:Int)=(a.length:Int):=by omega
   rw[ez] at hi
   have e1:((a.length:Int)).toNat=a.length:=by omega
   have e2:((a.length:Int)+1).toNat=a.length+1:=by omega
   refine au.intro CW (by simp[PO]) ?_
   simp(disch:=try exact dI) only[PO,push_cast,seval]
   refine ab.pure hi rfl ?_
   simp(disch:=try exact dI) only[t1,t2,e1,e2,List.take_length,push_cast,seval]
theorem B9 (d:UInt8)(s:List UInt8)(hl:s.length≤100000):au Tryz.prog aM 184 [.str s,.str [d]] (nF d s):=by
 have h:=OE d s hl
 unfold nF at h ⊢
 cases hc:fV d s with
 | none=>
   rw[hc] at h
   refine au.intro CY (by simp[PU]) ?_
   simp(disch:=try exact dI) only[PU,push_cast,seval]
   refine ab.pure h rfl ?_
   exact qsZ
 | some q=>
   obtain⟨a,b⟩:=q
   rw[hc] at h
   refine au.intro CY (by simp[PU]) ?_
   simp(disch:=try exact dI) only[PU,push_cast,seval]
   refine ab.pure h rfl ?_
   exact qsZ
def qt:List UInt8→Option (List UInt8×List UInt8)
 | []=>none
 | c::r=>if c=46 then some ([],r) else (qt r).map fun q=>(c::q.1,q.2)
theorem B6:∀ s:List UInt8,qt s=fV 46 s
 | []=>rfl
 | c::r=>by rw[qt,fV,B6 r]
theorem B5 {s a b:List UInt8}(k:Nat)(h:qt s=some (a,b)):e6 46 s k=(k:Int)+a.length∧s=a++46::b:=fw k ((B6 s).symm.trans h)
def Qj (s:List UInt8):PV:=
 match qt s with
 | some (a,b)=>.tup [.str a,.str b,.bool true]
 | none=>.tup [.str s,.str [],.bool false]
theorem RD (s:List UInt8)(hl:s.length≤100000):au Tryz.prog aM 184 [.str s,.str [46]] (Qj s):=by
 have:=B9 46 s hl
 unfold nF at this;unfold Qj;rw[B6];exact this
end Go.Proofs.YtamoeblcphjbaaaGreatDoor
