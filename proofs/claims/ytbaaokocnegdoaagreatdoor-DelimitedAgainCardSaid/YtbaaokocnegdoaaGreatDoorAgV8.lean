/- A part of the proof. -/
import Derived.Test.YtbaaokocnegdoaaGreatDoorAgV5
import Derived.Shelf.Strings.Builder1
import Derived.Shelf.Strings.Builder2
import Derived.Shelf.LaysM
import Derived.Shelf.Strings.Replace
import Derived.Test.YtbaaokocnegdoaaGreatDoorProg
import Derived.Shelf.Strings.IndexAnyAll
import Derived.Shelf.Small.Utf8
import Derived.Laws.RangeAny
import Derived.Laws.Runes
import Derived.WalkMore
import Derived.Laws.Strings3
import Derived.Shelf.RegionOpenPlain
import Derived.WalkKit
import Derived.Deep.LoopGhost
import Derived.Deep.Draws
set_option linter.unusedVariables false
set_option linter.unusedSimpArgs false
set_option maxHeartbeats 16000000
namespace Go.Ab
open Go
def dbl:List UInt8->List UInt8
 | []=>[]
 | c::r=>if c=34 then 34::34::dbl r else c::dbl r
def spc (sep:UInt8)(t:List UInt8):Bool:=t.any fun c=>c == sep||bad c
def wrt (c:Cel):List UInt8:=if c.2=true then 34::(dbl c.1++[34]) else c.1
def bY (sep:UInt8):List Cel->List UInt8
 | []=>[]
 | c::r=>wrt c++r.flatMap fun d=>sep::wrt d
def jd (sep:UInt8)(c:Cel):Bool:=!c.2&&spc sep c.1
theorem yu (sep:UInt8)(C:List Cel)(c:Cel):bY sep (C++[c])=(if C.length=0 then [] else bY sep C++[sep])++wrt c:=by
 cases C with
 | nil=>simp[bY]
 | cons d r=>simp[bY]
theorem ou:∀ t:List UInt8,(dbl t).length<=2*t.length
 | []=>by simp[dbl]
 | c::r=>by
   have:=ou r
   simp only[dbl];split<;>simp<;>omega
theorem AR (c:Cel):(wrt c).length<=2*c.1.length+2:=by
 have:=ou c.1
 unfold wrt;split<;>simp<;>omega
theorem lf (sep:UInt8)(C:List Cel)(m:Nat)(h:∀ c,c∈C->c.1.length<=m):(bY sep C).length<=C.length*(2*m+3):=by
 have key:∀ r:List Cel,(∀ c,c∈r->c.1.length<=m)->(r.flatMap fun d=>sep::wrt d).length<=r.length*(2*m+3):=by
  intro r
  induction r with
  | nil=>simp
  | cons c r ih=>
    intro h
    have h1:=ih fun d hd=>h d (by simp[hd])
    have h2:=AR c
    have h3:=h c (by simp)
    simp only[List.flatMap_cons,List.length_append,List.length_cons,Nat.succ_mul] at *
    omega
 cases C with
 | nil=>simp[bY]
 | cons c r=>
   have h1:=key r fun d hd=>h d (by simp[hd])
   have h2:=AR c
   have h3:=h c (by simp)
   simp only[bY,List.length_append,List.length_cons,Nat.succ_mul] at *
   omega
theorem pg {sep:UInt8}:∀ {t R:List UInt8},spc sep t=false->(R=[]\/∃ r,R=sep::r)->dj sep (t++R)=(t.length,false)
 | [],R,_,h=>by
   rcases h with rfl | ⟨r,rfl⟩<;>simp[dj]
 | c::t,R,hs,h=>by
   simp only[spc,List.any_cons,Bool.or_eq_false_iff,beq_eq_false_iff_ne] at hs
   have ih:=pg (t:=t) (R:=R) (by simpa[spc] using hs.2) h
   simp only[List.cons_append,dj,if_neg hs.1.1,hs.1.2,ih]
   simp
theorem pf {R:List UInt8}(h:R[0]?≠some 34):∀ t:List UInt8,bD (dbl t++34::R)=some (t,(dbl t).length+1)
 | []=>by
   simp only[dbl,List.nil_append]
   rw[nG,J5,if_neg h];rfl
 | c::t=>by
   have ih:=pf h t
   simp only[dbl]
   by_cases hc:c=34
   ·subst hc
    simp only[if_true,List.cons_append]
    rw[uu,ih];rfl
   ·rw[if_neg hc,List.cons_append,jR hc,ih];rfl
theorem qV {sep:UInt8}(hs:sep≠34){pre R:List UInt8}{c:Cel}(hc:jd sep c=false)(hR:R=[]\/∃ r,R=sep::r) :
  mp (pre++(wrt c++R)) sep pre.length = .ok c (pre.length+(wrt c).length):=by
 obtain⟨t,q⟩:=c
 have hR0:R[0]?≠some 34:=by
  rcases hR with rfl | ⟨r,rfl⟩
  ·simp
  ·simpa using hs
 unfold mp
 cases q with
 | true=>
   have e:(pre++(wrt (t,true)++R))[pre.length]? = some 34:=by simp[wrt]
   rw[if_pos e]
   have e2:(pre++(wrt (t,true)++R)).drop (pre.length+1)=dbl t++34::R:=by
    rw[<- List.drop_drop,List.drop_left];simp[wrt]
   rw[f9,e2,pf hR0]
   have e3:(rr [] (pre.length+1) (t,(dbl t).length+1))=(t,pre.length+(wrt (t,true)).length):=by simp[rr,wrt];omega
   rw[Option.map_some,e3]
   simp only[bG]
   have e4:(pre++(wrt (t,true)++R))[pre.length+(wrt (t,true)).length]? = R[0]?:=by
    rw[List.getElem?_append_right (by omega),List.getElem?_append_right (by omega)];congr 1;omega
   rw[e4]
   rcases hR with rfl | ⟨r,rfl⟩
   ·simp
   ·simp
 | false=>
   have hsp:spc sep t=false:=by simpa[jd] using hc
   have e:(pre++(wrt (t,false)++R))[pre.length]?≠some 34:=by
    rw[List.getElem?_append_right (by omega),Nat.sub_self]
    cases t with
    | nil=>simpa[wrt] using hR0
    | cons c t=>
      simp only[spc,List.any_cons,Bool.or_eq_false_iff,beq_eq_false_iff_ne] at hsp
      have:bad c=false:=hsp.1.2
      simp only[wrt,Bool.false_eq_true,if_false,List.cons_append,List.getElem?_cons_zero,ne_eq,Option.some.injEq]
      rintro rfl;exact absurd this (by decide)
   rw[if_neg e,bP,List.drop_left]
   have e5:wrt (t,false)=t:=by simp[wrt]
   rw[e5,pg hsp hR]
   simp
def Mc (C:List Cel):Nat->List Nat
 | a=>match C with
   | []=>[]
   | c::r=>a::Mc r (a+(wrt c).length+1)
theorem uD {sep:UInt8}(hs:sep≠34):∀ (C:List Cel) (c:Cel) (pre:List UInt8) (D:List Cel) (Pl:List Nat),D.length+C.length+1<=64->(∀ d,d∈c::C->jd sep d=false) ->
  runN (pre++bY sep (c::C)) sep pre.length D Pl = .ok (D++c::C) (Pl++Mc (c::C) pre.length)
 | [],c,pre,D,Pl,h1,h2=>by
   rw[runN_eq (by simp),if_neg (by simp at h1;omega)]
   have:=qV (pre:=pre) (R:=[]) hs (h2 c (by simp)) (.inl rfl)
   simp only[bY,List.flatMap_nil] at this ⊢
   rw[this]
   simp[lR,Nj,Mc]
 | d::C,c,pre,D,Pl,h1,h2=>by
   rw[runN_eq (by simp),if_neg (by simp at h1;omega)]
   have:=qV (pre:=pre) (R:=sep::bY sep (d::C)) hs (h2 c (by simp)) (.inr ⟨_,rfl⟩)
   have e:bY sep (c::d::C)=wrt c++sep::bY sep (d::C):=by simp[bY]
   rw[e,this]
   have ih:=uD hs C d (pre++wrt c++[sep]) (D++[c]) (Pl++[pre.length]) (by simp at h1 ⊢;omega) fun x hx=>h2 x (List.mem_cons_of_mem _ hx)
   simp only[lR,Nj]
   rw[if_neg (by simp)]
   have e2:pre.length+(wrt c).length+1=(pre++wrt c++[sep]).length:=by simp;omega
   have e3:pre++(wrt c++sep::bY sep (d::C))=(pre++wrt c++[sep])++bY sep (d::C):=by simp
   rw[e2,e3,ih]
   simp[Mc,Nat.add_assoc]
def fK (sepOk:Bool)(sep:UInt8)(C:List Cel):List UInt8×Int:=
 if sepOk=false then ([],2) else if C.length=0 then ([],4) else if 64<C.length then ([],9)
 else if C.any (jd sep)=true then ([],6) else if 65536<(bY sep C).length then ([],5) else (bY sep C,0)
end Go.Ab
set_option maxRecDepth 100000
namespace Go.Proofs.YtbaaokocnegdoaaGreatDoor
open Go Go.Ab
attribute [local irreducible] vc
def hdJ (n:Int)(C:List Cel):Nat×Bool×List UInt8->St
 | (i,t,[])=>⟨[(1,.pv (.int .i64 n)),(6,.ptr 0 0),(21,.pv (.list (C.map g9))),(22,.pv (.int .i64 (C.length:Int))),(23,.pv (.int .i64 (i:Int)))],[(0,.cells 89 true [aB t,.pv .nils])],1⟩
 | (i,t,b::r)=>⟨[(1,.pv (.int .i64 n)),(6,.ptr 0 0),(21,.pv (.list (C.map g9))),(22,.pv (.int .i64 (C.length:Int))),(23,.pv (.int .i64 (i:Int)))],[(0,.cells 89 true [.ptr 0 0,.row 1 1 0 (r.length+1)]),(1,.cells 5 false ((aF (b::r)).map .pv))],2⟩
def exJ (C:List Cel):Bool×List UInt8->St
 | (t,[])=>⟨[(6,.ptr 0 0)],[(0,.cells 89 true [aB t,.pv .nils])],1⟩
 | (t,b::r)=>⟨[(6,.ptr 0 0)],[(0,.cells 89 true [.ptr 0 0,.row 1 1 0 (r.length+1)]),(1,.cells 5 false ((aF (b::r)).map .pv))],2⟩
theorem fg (sep:UInt8):∀ t:List UInt8,Lib.containsAny t [34,13,10,sep]=spc sep t
 | []=>rfl
 | c::t=>by
   have ih:=fg sep t
   have hg:=Lib.indexAny_ge [34,13,10,sep] t
   have hc:([34,13,10,sep]:List UInt8).contains c=(c == sep||bad c):=by
    simp only[List.contains_cons,List.contains_nil,Bool.or_false,bad]
    cases c == 34<;>cases c == 13<;>cases c == 10<;>cases c == sep<;>rfl
   simp only[Lib.containsAny,Lib.indexAny,spc,List.any_cons,hc] at ih ⊢
   cases (c == sep||bad c) with
   | true=>simp
   | false=>
     simp only[Bool.false_eq_true,if_false,Bool.false_or]
     rw[<- ih]
     by_cases h:Lib.indexAny t [34,13,10,sep] = -1
     ·simp[h]
     ·simp[h];constructor<;>intro<;>omega
theorem oX {sep:UInt8}(hs:jx (sep.toNat:Int)=true){t:List UInt8}{b:Bool}(h:ae Tryz.prog au 101 [.str t,.str [34,13,10,sep]] (.bool b)) :
  ae Tryz.prog au 53 [.str t,.int .i64 (sep.toNat:Int)] (.bool b):=by
 have hss:=sep.toNat_lt
 have he:(Utf8.encode (sep.toNat:Int)).data.toList=[sep]:=by
  have key:∀ k:Fin 128,(Utf8.encode ((k.val:Nat):Int)).data.toList=[UInt8.ofNat k.val]:=by decide +kernel
  have hn:sep.toNat<128:=by unfold jx at hs;simp at hs;omega
  have:=key ⟨sep.toNat,hn⟩
  simpa using this
 have hw:=ug (n:=(sep.toNat:Int)) (by omega) (by omega)
 refine ae.intro Q53.2 (by simp[Q53]) ?_
 simp(disch:=try exact dI) only[Q53,hw,he,push_cast,seval]
 refine ab.pure h rfl ?_
 exact qsZ
end Go.Proofs.YtbaaokocnegdoaaGreatDoor
/-
 DERIVED: THE SHELF's CONTRACTS AT THIS DUMP,IN PLAIN WORDS (tools/lay-plain.mjs out of 'TryzRep.lean',which tools/lay-shelf.mjs wrote): THE SAME DECLARATIONS UNDER THE SAME NAMES: 'import','namespace','open','def','theorem' AND NOTHING ELSE: no command of the shelf's: FOR A HAND-IN. Each laying: the table of numbers ('.._ren') and one theorem,a field a fact of the dump's own or the kernel's comparison;each fD: ONE APPLICATION.
-/
namespace Go.Proofs
open Go.Shelf
def Tryz.lays155_ren:Go.Shelf.Ren:=⟨fun | 155=>67 | 154=>119 | 138=>166 | 165=>141 | 143=>167 | 166=>66 | 197=>168 | 169=>44 | 195=>223 | 218=>224 | 240=>90 | 241=>186 | 219=>169 | 260=>225 | 276=>142 | 277=>238 | 217=>123 | 225=>226 | 224=>227 | 267=>228 | 266=>175 | 314=>260 | n=>n,fun | 9=>9 | 3=>3 | 4=>4 | 72=>89 | 0=>0 | 76=>114 | 105=>198 | 21=>21 | 5=>5 | 70=>87 | 20=>20 | 37=>64 | 75=>91 | 127=>140 | 164=>181 | 46=>93 | 119=>270 | 139=>273 | 138=>272 | 146=>211 | 51=>210 | 80=>94 | n=>n,fun | 1=>0 | 3=>3 | 4=>4 | n=>n⟩
theorem Tryz.lays155:Go.Proofs.Lays.n155 Tryz.prog Tryz.lays155_ren:={
 mixed:=by kernel_rfl
 f138:=Tryz.func166.trans (congrArg some (by kernel_rfl))
 f143:=Tryz.func167.trans (congrArg some (by kernel_rfl))
 f154:=Tryz.func119.trans (congrArg some (by kernel_rfl))
 f155:=Tryz.func67.trans (congrArg some (by kernel_rfl))
 f165:=Tryz.func141.trans (congrArg some (by kernel_rfl))
 f166:=Tryz.func66.trans (congrArg some (by kernel_rfl))
 f169:=Tryz.func44.trans (congrArg some (by kernel_rfl))
 f195:=Tryz.func223.trans (congrArg some (by kernel_rfl))
 f197:=Tryz.func168.trans (congrArg some (by kernel_rfl))
 f217:=Tryz.func123.trans (congrArg some (by kernel_rfl))
 f218:=Tryz.func224.trans (congrArg some (by kernel_rfl))
 f219:=Tryz.func169.trans (congrArg some (by kernel_rfl))
 f224:=Tryz.func227.trans (congrArg some (by kernel_rfl))
 f225:=Tryz.func226.trans (congrArg some (by kernel_rfl))
 f240:=Tryz.func90.trans (congrArg some (by kernel_rfl))
 f241:=Tryz.func186.trans (congrArg some (by kernel_rfl))
 f260:=Tryz.func225.trans (congrArg some (by kernel_rfl))
 f266:=Tryz.func175.trans (congrArg some (by kernel_rfl))
 f267:=Tryz.func228.trans (congrArg some (by kernel_rfl))
 f276:=Tryz.func142.trans (congrArg some (by kernel_rfl))
 f277:=Tryz.func238.trans (congrArg some (by kernel_rfl))
 f314:=Tryz.func260.trans (congrArg some (by kernel_rfl))
 t0:=Tryz.underlying0
 a0:=Tryz.isAgg0
 z0:=Tryz.sizeOf0
 v0:=Tryz.zeroValue0
 t3:=Tryz.underlying3
 a3:=Tryz.isAgg3
 z3:=Tryz.sizeOf3
 v3:=Tryz.zeroValue3
 t4:=Tryz.underlying4
 a4:=Tryz.isAgg4
 z4:=Tryz.sizeOf4
 v4:=Tryz.zeroValue4
 t5:=Tryz.underlying5
 a5:=Tryz.isAgg5
 z5:=Tryz.sizeOf5
 v5:=Tryz.zeroValue5
 t9:=Tryz.underlying9
 a9:=Tryz.isAgg9
 z9:=Tryz.sizeOf9
 v9:=Tryz.zeroValue9
 t20:=Tryz.underlying20
 a20:=Tryz.isAgg20
 z20:=Tryz.sizeOf20
 v20:=Tryz.zeroValue20
 t21:=Tryz.underlying21
 a21:=Tryz.isAgg21
 z21:=Tryz.sizeOf21
 v21:=Tryz.zeroValue21
 t37:=Tryz.underlying64
 a37:=Tryz.isAgg64
 z37:=Tryz.sizeOf64
 v37:=Tryz.zeroValue64
 t46:=Tryz.underlying93
 a46:=Tryz.isAgg93
 z46:=Tryz.sizeOf93
 v46:=Tryz.zeroValue93
 t51:=Tryz.underlying210
 a51:=Tryz.isAgg210
 z51:=Tryz.sizeOf210
 v51:=Tryz.zeroValue210
 t70:=Tryz.underlying87
 a70:=Tryz.isAgg87
 z70:=Tryz.sizeOf87
 v70:=Tryz.zeroValue87
 t72:=Tryz.underlying89
 a72:=Tryz.isAgg89
 z72:=Tryz.sizeOf89
 v72:=Tryz.zeroValue89
 t75:=Tryz.underlying91
 a75:=Tryz.isAgg91
 z75:=Tryz.sizeOf91
 v75:=Tryz.zeroValue91
 t76:=Tryz.underlying114
 a76:=Tryz.isAgg114
 z76:=Tryz.sizeOf114
 v76:=Tryz.zeroValue114
 t105:=Tryz.underlying198
 a105:=Tryz.isAgg198
 z105:=Tryz.sizeOf198
 v105:=Tryz.zeroValue198
 t119:=Tryz.underlying270
 a119:=Tryz.isAgg270
 z119:=Tryz.sizeOf270
 t127:=Tryz.underlying140
 a127:=Tryz.isAgg140
 z127:=Tryz.sizeOf140
 v127:=Tryz.zeroValue140
 t138:=Tryz.underlying272
 a138:=Tryz.isAgg272
 z138:=Tryz.sizeOf272
 v138:=Tryz.zeroValue272
 t139:=Tryz.underlying273
 a139:=Tryz.isAgg273
 z139:=Tryz.sizeOf273
 v139:=Tryz.zeroValue273
 t146:=Tryz.underlying211
 a146:=Tryz.isAgg211
 z146:=Tryz.sizeOf211
 v146:=Tryz.zeroValue211
 t164:=Tryz.underlying181
 a164:=Tryz.isAgg181
 z164:=Tryz.sizeOf181
 v164:=Tryz.zeroValue181
 g1:=by kernel_rfl
 g3:=by kernel_rfl
 g4:=by kernel_rfl }
theorem Tryz.Builder_Extra_155:Builder.Extra Tryz.prog Tryz.lays155_ren:={
 sizeBuilder:=by kernel_rfl
 liesBuilder:=by kernel_rfl
 t5:=Tryz.underlying5
 a5:=Tryz.isAgg5
 z5:=Tryz.sizeOf5
 v5:=Tryz.zeroValue5
 infoByte:=by kernel_rfl
 cellsByte:=by kernel_rfl
 sizeByte:=by kernel_rfl
 neB5:=by decide }
open Go.RowKit Go.Lib in
theorem Tryz.strings_ReplaceAll (s old new:ByteArray)(m:Int)(w:World)(hs:s.size<4294967281)(hm:w.cell? ⟨0,0,none⟩=some (.int .i64 m))(h1:1<=old.size)(hlen:s.size+Lib.countB s old*new.size<=140737488355328) :
  Calls Tryz.prog 67 #[.string s,.string old,.string new] w fun e w'=>
   e = .returned (.string ⟨(Lib.replaceAll s.data.toList old.data.toList new.data.toList).toArray⟩)/\Below w.heap.size w w':=Any.strings_ReplaceAll Tryz.lays155 Tryz.Builder_Extra_155 s old new m w hs hm h1 hlen
end Go.Proofs
namespace Go.Ab
open Go Go.Shelf Go.RowKit Go.Lib Go.Proofs
variable {P:Program}{ρ:Ren}
theorem eA {l:List UInt8}{c:UInt8}(h:∀ b,b∈l->b≠c):Lib.indexByte l c = -1:=by
 have h1:=Lib.contains_iff_indexByte l c
 have h2:=Lib.indexByte_ge l c
 have h3:l.contains c=false:=by
  rw[Bool.eq_false_iff]
  intro hc
  rw[List.contains_iff_mem] at hc
  exact h c hc rfl
 rw[h3] at h1
 have:=of_decide_eq_false h1.symm
 omega
set_option maxRecDepth 1000000 in
theorem n7 (L:Lays.n152 P ρ)(s:ByteArray)(w:World)(hascii:∀ (j:Nat) b,s.data.toList[j]? = some b->b.toNat<128) :
  Calls P (ρ.f 152) #[.string s,.int .i32 65533] w fun e w'=>e = .returned (.int .i64 (-1))/\Below w.heap.size w w':=by
 have HA:Aside (∀ (j:Nat) b,s.data.toList[j]? = some b->b.toNat<128):=hascii
 clear hascii
 have t3:=L.t3;have a3:=L.a3;have z3:=L.z3;have v3:=L.v3
 have t4:=L.t4;have a4:=L.a4;have z4:=L.z4;have v4:=L.v4
 have t5:=L.t5;have a5:=L.a5;have z5:=L.z5;have v5:=L.v5
 have t9:=L.t9;have a9:=L.a9;have z9:=L.z9;have v9:=L.v9
 have t21:=L.t21;have a21:=L.a21;have z21:=L.z21;have v21:=L.v21
 go_enter L.f152,Body.n152_ntmps ρ
 go_wp2
 go_loopg [5,6] s.size (fun g _ _ wx=>∃ i:Nat,i+g=s.size/\wx=w.iter s i)
 case atStart=>exact⟨0,by omega,rfl⟩
 case round=>
  obtain⟨i,hig,rfl⟩:=hrel
  cases gk with
  | zero=>
    obtain rfl:i=s.size:=by omega
    have hnx:=run_next_end (P:=P) w s s.size
    go_wp2
    go_ret
    exact⟨rfl,(Below.refl _ _).alloc (Nat.le_refl _) _⟩
  | succ g=>
    have hi:i<s.size:=by omega
    obtain⟨x,hx⟩:∃ x:UInt8,s[i]'hi=x:=⟨_,rfl⟩
    have hxl:s.data.toList[i]? = some x:=by rw[<- hx];exact Lib.data_getElem? s i hi
    have hx128:x.toNat<128:=HA.out i x hxl
    have hnx:=fun ty=>run_next_ascii (P:=P) w s i ty hi (by rw[hx];exact hx128)
    rw[hx] at hnx
    clear hxl hx
    go_wp2
    go_roundg g
    case measure=>omega
    case rel=>exact⟨i+1,by omega,rfl⟩
set_option maxRecDepth 1000000 in
theorem mj (L:Lays.n152 P ρ)(s:ByteArray)(r:Int)(w:World)(h1:128<=r)(h2:r<=2147483647)(h3:r≠65533)(hascii:∀ (j:Nat) b,s.data.toList[j]? = some b->b.toNat<128) :
  Calls P (ρ.f 152) #[.string s,.int .i32 r] w fun e w'=>e = .returned (.int .i64 (-1))/\Below w.heap.size w w':=by
 have HA:Aside (∀ (j:Nat) b,s.data.toList[j]? = some b->b.toNat<128):=hascii
 clear hascii
 have t3:=L.t3;have a3:=L.a3;have z3:=L.z3;have v3:=L.v3
 have t4:=L.t4;have a4:=L.a4;have z4:=L.z4;have v4:=L.v4
 have t5:=L.t5;have a5:=L.a5;have z5:=L.z5;have v5:=L.v5
 have t9:=L.t9;have a9:=L.a9;have z9:=L.z9;have v9:=L.v9
 have t21:=L.t21;have a21:=L.a21;have z21:=L.z21;have v21:=L.v21
 have mixed:=L.mixed
 have u3:=run_underlying L.t3;have u4:=run_underlying L.t4;have u5:=run_underlying L.t5;have u9:=run_underlying L.t9;have u21:=run_underlying L.t21
 have e137:∀ args w,(callFunc (ρ.f 137) args).run P w = .ok (.enter (ρ.f 137) args) w:=enters_of L.f137 (by kernel_rfl) rfl
 have e119:∀ args w,(callFunc (ρ.f 119) args).run P w = .ok (.enter (ρ.f 119) args) w:=enters_of L.f119 (by kernel_rfl) rfl
 have hr1:¬ r<128:=by omega
 have hr2:(r == 65533)=false:=beq_eq_false_iff_ne.2 h3
 go_enter L.f152,Body.n152_ntmps ρ
 cases hv:Lib.validRune r with
 | false=>
   go_wp2_with (go_at_fn (ρ.f 119);refine (Any.utf8_ValidRune { L with } r _).mono ?_;rintro e w' ⟨rfl,hw⟩;rw[hw,hv])
   go_ret
   exact⟨rfl,Below.refl _ _⟩
 | true=>
   obtain⟨f1,f2,f3⟩:=encode_facts r (by rw[validRune_eq];simpa[Go.validRune,Lib.validRune] using hv) h1
   obtain⟨k,hk⟩:∃ k,(Utf8.encode r).size=k+1:=⟨(Utf8.encode r).size - 1,by omega⟩
   have hkl:k<=3/\1<=k:=by omega
   have hw1:wrap64 (((k+1:Nat):Int) - 1)=(k:Int):=by unfold wrap64;omega
   obtain⟨rs,hrs⟩:∃ rs,rs=Utf8.encode r:=⟨_,rfl⟩
   rw[<- hrs] at f1 f2 f3 hk
   have hk1:k<rs.size:=hk▸Nat.lt_succ_self k
   have hconv:∀ w',(convert (ρ.t 21) (ρ.t 9) (.int .i32 r)).run P w' = .ok (.string rs) w':=fun w'=>by
    rw[hrs];exact run_convert_int_string w' _ _ _ _ (by rw[t21];rfl) t9
   have hc:128<=(rs[k]'hk1).toNat:=by
    have:=f3 (by omega)
    simpa[hk] using this
   obtain⟨c,hcx⟩:∃ c:UInt8,rs[k]'hk1=c:=⟨_,rfl⟩
   rw[hcx] at hc
   clear f1 f2 f3
   go_wp2_with (go_at_fn (ρ.f 119);refine (Any.utf8_ValidRune { L with } r _).mono ?_;rintro e w' ⟨rfl,hw⟩;rw[hw,hv])
   go_step3
   go_wp2
   rw[<- hrs,hk,hw1]
   clear hrs hconv hw1
   go_loopg [9,10] 1 (fun g s9 s10 wx=>g=1/\s9 = .int .i64 (k:Int)/\wx=w)
   case atStart=>exact⟨rfl,rfl,rfl⟩
   case round=>
    obtain⟨rfl,rfl,rfl⟩:=hrel
    by_cases hlt:k<s.size
    ·obtain⟨x,hx⟩:∃ x:UInt8,s[k]'hlt=x:=⟨_,rfl⟩
     have hxl:s.data.toList[k]? = some x:=by rw[<- hx];exact Lib.data_getElem? s k hlt
     have hx128:x.toNat<128:=HA.out k x hxl
     have hk2:(k:Int)<(rs.size:Int):=by omega
     have hlt2:(k:Int)<(s.size:Int):=by omega
     have hk0:(0:Int)<=(k:Int):=by omega
     have hk5:k+1<=s.size:=hlt
     have hk6:(k:Int)+1<=(s.size:Int):=by omega
     have hk7:(0:Int)<=(k:Int)+1:=by omega
     have hne:((x.toNat:Int) == (c.toNat:Int))=false:=beq_eq_false_iff_ne.2 (by omega)
     have hk123:k=1\/k=2\/k=3:=by omega
     clear hk5 hk6 hk7 hk2 hlt2 hk0
     rcases hk123 with rfl | rfl | rfl
     ·have hq:(2:Int)<=(s.size:Int):=by omega
      have hw2:IntKind.i64.wrap 2=2:=by decide
      have hix:Lib.indexByte (List.take (s.size - 2) (List.drop 2 s.data.toList)) c = -1:=by
       refine eA fun b hb=>?_
       have hb2:=List.mem_of_mem_drop (List.mem_of_mem_take hb)
       obtain⟨j,hj⟩:=List.getElem?_of_mem hb2
       have:=HA.out j b hj
       intro e
       rw[e] at this
       omega
      go_wp2_with fail
      go_step3
      go_wp2_with fail
      go_region_o
      go_wp2_with fail
      go_region_with_o (first | (go_at_fn (ρ.f 137);refine (Any.strings_IndexByte { L with } _ _ _).mono ?_;rintro e w' ⟨rfl,hw⟩;rw[hw]))
      go_wp2
      rw[Exit.noGoto_ret]
      go_wp2
      rw[Exit.noGoto_ret]
      go_ret
      exact⟨rfl,(Below.drew (Below.refl _ _)).drew⟩
     ·have hq:(3:Int)<=(s.size:Int):=by omega
      have hw2:IntKind.i64.wrap 3=3:=by decide
      have hix:Lib.indexByte (List.take (s.size - 3) (List.drop 3 s.data.toList)) c = -1:=by
       refine eA fun b hb=>?_
       have hb2:=List.mem_of_mem_drop (List.mem_of_mem_take hb)
       obtain⟨j,hj⟩:=List.getElem?_of_mem hb2
       have:=HA.out j b hj
       intro e
       rw[e] at this
       omega
      go_wp2_with fail
      go_step3
      go_wp2_with fail
      go_region_o
      go_wp2_with fail
      go_region_with_o (first | (go_at_fn (ρ.f 137);refine (Any.strings_IndexByte { L with } _ _ _).mono ?_;rintro e w' ⟨rfl,hw⟩;rw[hw]))
      go_wp2
      rw[Exit.noGoto_ret]
      go_wp2
      rw[Exit.noGoto_ret]
      go_ret
      exact⟨rfl,(Below.drew (Below.refl _ _)).drew⟩
     ·have hq:(4:Int)<=(s.size:Int):=by omega
      have hw2:IntKind.i64.wrap 4=4:=by decide
      have hix:Lib.indexByte (List.take (s.size - 4) (List.drop 4 s.data.toList)) c = -1:=by
       refine eA fun b hb=>?_
       have hb2:=List.mem_of_mem_drop (List.mem_of_mem_take hb)
       obtain⟨j,hj⟩:=List.getElem?_of_mem hb2
       have:=HA.out j b hj
       intro e
       rw[e] at this
       omega
      go_wp2_with fail
      go_step3
      go_wp2_with fail
      go_region_o
      go_wp2_with fail
      go_region_with_o (first | (go_at_fn (ρ.f 137);refine (Any.strings_IndexByte { L with } _ _ _).mono ?_;rintro e w' ⟨rfl,hw⟩;rw[hw]))
      go_wp2
      rw[Exit.noGoto_ret]
      go_wp2
      rw[Exit.noGoto_ret]
      go_ret
      exact⟨rfl,(Below.drew (Below.refl _ _)).drew⟩
    ·go_wp2
     rw[Exit.noGoto_ret]
     go_ret
     exact⟨rfl,Below.refl _ _⟩
end Go.Ab
