/- A part of the proof. -/
import Derived.Shelf.Strings.Builder1
import Derived.Shelf.Strings.Builder2
import Derived.Shelf.LaysM
import Derived.Shelf.Strings.Replace
import Derived.Test.YtbaaokocnegdoaaGreatDoorProg
import Derived.Shelf.Strings.IndexAnyAll
import Derived.Shelf.Small.Utf8
import Derived.Laws.RangeAny
import Derived.Laws.Runes
import Derived.WalkMore
import Derived.Laws.Strings3
import Derived.Shelf.RegionOpenPlain
import Derived.WalkKit
import Derived.Deep.LoopGhost
import Derived.Deep.Draws
import Derived.Lib.OthersKept
import Derived.Lib.CountLaws
import Derived.Lib.SplitLaws
import Derived.Test.YtbaaokocnegdoaaGreatDoorDeV6
set_option linter.unusedVariables false
set_option linter.unusedSimpArgs false
/-
 DERIVED: THE SHELF's CONTRACTS AT THIS DUMP,IN PLAIN WORDS (tools/lay-plain.mjs out of 'TryzRep.lean',which tools/lay-shelf.mjs wrote): THE SAME DECLARATIONS UNDER THE SAME NAMES: 'import','namespace','open','def','theorem' AND NOTHING ELSE: no command of the shelf's: FOR A HAND-IN. Each laying: the table of numbers ('.._ren') and one theorem,a field a fact of the dump's own or the kernel's comparison;each fY: ONE APPLICATION.
-/
namespace Go.Proofs
open Go.Shelf
def Tryz.lays155_ren:Go.Shelf.Ren:=⟨fun | 155=>67 | 154=>119 | 138=>166 | 165=>141 | 143=>167 | 166=>66 | 197=>168 | 169=>44 | 195=>223 | 218=>224 | 240=>90 | 241=>186 | 219=>169 | 260=>225 | 276=>142 | 277=>238 | 217=>123 | 225=>226 | 224=>227 | 267=>228 | 266=>175 | 314=>260 | n=>n,fun | 9=>9 | 3=>3 | 4=>4 | 72=>89 | 0=>0 | 76=>114 | 105=>198 | 21=>21 | 5=>5 | 70=>87 | 20=>20 | 37=>64 | 75=>91 | 127=>140 | 164=>181 | 46=>93 | 119=>270 | 139=>273 | 138=>272 | 146=>211 | 51=>210 | 80=>94 | n=>n,fun | 1=>0 | 3=>3 | 4=>4 | n=>n⟩
theorem Tryz.lays155:Go.Proofs.Lays.n155 Tryz.prog Tryz.lays155_ren:={
 mixed:=by kernel_rfl
 f138:=Tryz.func166.trans (congrArg some (by kernel_rfl))
 f143:=Tryz.func167.trans (congrArg some (by kernel_rfl))
 f154:=Tryz.func119.trans (congrArg some (by kernel_rfl))
 f155:=Tryz.func67.trans (congrArg some (by kernel_rfl))
 f165:=Tryz.func141.trans (congrArg some (by kernel_rfl))
 f166:=Tryz.func66.trans (congrArg some (by kernel_rfl))
 f169:=Tryz.func44.trans (congrArg some (by kernel_rfl))
 f195:=Tryz.func223.trans (congrArg some (by kernel_rfl))
 f197:=Tryz.func168.trans (congrArg some (by kernel_rfl))
 f217:=Tryz.func123.trans (congrArg some (by kernel_rfl))
 f218:=Tryz.func224.trans (congrArg some (by kernel_rfl))
 f219:=Tryz.func169.trans (congrArg some (by kernel_rfl))
 f224:=Tryz.func227.trans (congrArg some (by kernel_rfl))
 f225:=Tryz.func226.trans (congrArg some (by kernel_rfl))
 f240:=Tryz.func90.trans (congrArg some (by kernel_rfl))
 f241:=Tryz.func186.trans (congrArg some (by kernel_rfl))
 f260:=Tryz.func225.trans (congrArg some (by kernel_rfl))
 f266:=Tryz.func175.trans (congrArg some (by kernel_rfl))
 f267:=Tryz.func228.trans (congrArg some (by kernel_rfl))
 f276:=Tryz.func142.trans (congrArg some (by kernel_rfl))
 f277:=Tryz.func238.trans (congrArg some (by kernel_rfl))
 f314:=Tryz.func260.trans (congrArg some (by kernel_rfl))
 t0:=Tryz.underlying0
 a0:=Tryz.isAgg0
 z0:=Tryz.sizeOf0
 v0:=Tryz.zeroValue0
 t3:=Tryz.underlying3
 a3:=Tryz.isAgg3
 z3:=Tryz.sizeOf3
 v3:=Tryz.zeroValue3
 t4:=Tryz.underlying4
 a4:=Tryz.isAgg4
 z4:=Tryz.sizeOf4
 v4:=Tryz.zeroValue4
 t5:=Tryz.underlying5
 a5:=Tryz.isAgg5
 z5:=Tryz.sizeOf5
 v5:=Tryz.zeroValue5
 t9:=Tryz.underlying9
 a9:=Tryz.isAgg9
 z9:=Tryz.sizeOf9
 v9:=Tryz.zeroValue9
 t20:=Tryz.underlying20
 a20:=Tryz.isAgg20
 z20:=Tryz.sizeOf20
 v20:=Tryz.zeroValue20
 t21:=Tryz.underlying21
 a21:=Tryz.isAgg21
 z21:=Tryz.sizeOf21
 v21:=Tryz.zeroValue21
 t37:=Tryz.underlying64
 a37:=Tryz.isAgg64
 z37:=Tryz.sizeOf64
 v37:=Tryz.zeroValue64
 t46:=Tryz.underlying93
 a46:=Tryz.isAgg93
 z46:=Tryz.sizeOf93
 v46:=Tryz.zeroValue93
 t51:=Tryz.underlying210
 a51:=Tryz.isAgg210
 z51:=Tryz.sizeOf210
 v51:=Tryz.zeroValue210
 t70:=Tryz.underlying87
 a70:=Tryz.isAgg87
 z70:=Tryz.sizeOf87
 v70:=Tryz.zeroValue87
 t72:=Tryz.underlying89
 a72:=Tryz.isAgg89
 z72:=Tryz.sizeOf89
 v72:=Tryz.zeroValue89
 t75:=Tryz.underlying91
 a75:=Tryz.isAgg91
 z75:=Tryz.sizeOf91
 v75:=Tryz.zeroValue91
 t76:=Tryz.underlying114
 a76:=Tryz.isAgg114
 z76:=Tryz.sizeOf114
 v76:=Tryz.zeroValue114
 t105:=Tryz.underlying198
 a105:=Tryz.isAgg198
 z105:=Tryz.sizeOf198
 v105:=Tryz.zeroValue198
 t119:=Tryz.underlying270
 a119:=Tryz.isAgg270
 z119:=Tryz.sizeOf270
 t127:=Tryz.underlying140
 a127:=Tryz.isAgg140
 z127:=Tryz.sizeOf140
 v127:=Tryz.zeroValue140
 t138:=Tryz.underlying272
 a138:=Tryz.isAgg272
 z138:=Tryz.sizeOf272
 v138:=Tryz.zeroValue272
 t139:=Tryz.underlying273
 a139:=Tryz.isAgg273
 z139:=Tryz.sizeOf273
 v139:=Tryz.zeroValue273
 t146:=Tryz.underlying211
 a146:=Tryz.isAgg211
 z146:=Tryz.sizeOf211
 v146:=Tryz.zeroValue211
 t164:=Tryz.underlying181
 a164:=Tryz.isAgg181
 z164:=Tryz.sizeOf181
 v164:=Tryz.zeroValue181
 g1:=by kernel_rfl
 g3:=by kernel_rfl
 g4:=by kernel_rfl }
theorem Tryz.Builder_Extra_155:Builder.Extra Tryz.prog Tryz.lays155_ren:={
 sizeBuilder:=by kernel_rfl
 liesBuilder:=by kernel_rfl
 t5:=Tryz.underlying5
 a5:=Tryz.isAgg5
 z5:=Tryz.sizeOf5
 v5:=Tryz.zeroValue5
 infoByte:=by kernel_rfl
 cellsByte:=by kernel_rfl
 sizeByte:=by kernel_rfl
 neB5:=by decide }
open Go.RowKit Go.Lib in
theorem Tryz.strings_ReplaceAll (s old new:ByteArray)(m:Int)(w:World)(hs:s.size<4294967281)(hm:w.cell? ⟨0,0,none⟩=some (.int .i64 m))(h1:1<=old.size)(hlen:s.size+Lib.countB s old*new.size<=140737488355328) :
  Calls Tryz.prog 67 #[.string s,.string old,.string new] w fun e w'=>
   e = .returned (.string ⟨(Lib.replaceAll s.data.toList old.data.toList new.data.toList).toArray⟩)/\Below w.heap.size w w':=Any.strings_ReplaceAll Tryz.lays155 Tryz.Builder_Extra_155 s old new m w hs hm h1 hlen
end Go.Proofs
namespace Go.Ab
open Go Go.Shelf Go.RowKit Go.Lib Go.Proofs
variable {P:Program}{ρ:Ren}
variable {P:Program}{ρ:Ren}
end Go.Ab
set_option maxRecDepth 100000
namespace Go.Proofs.YtbaaokocnegdoaaGreatDoor
open Go Go.Ab
attribute [local irreducible] vc
def OG (m:Int):Nat->List PV:=fun g=>if g=0 then [.int .i64 m] else aq g
variable (m:Int)
end Go.Proofs.YtbaaokocnegdoaaGreatDoor
namespace Go.Ab
open Go
def gx (y:Int):Bool:=decide (y % 4=0)&&(!decide (y % 100=0)||decide (y % 400=0))
def mdI (y m:Int):Int:=if m=2 then (if gx y=true then 29 else 28) else if m=4\/m=6\/m=9\/m=11 then 30 else 31
def j4 (y:Int):Int:=365*(y - 1)+(y - 1) / 4 - (y - 1) / 100+(y - 1) / 400
def gu (y:Int):Nat->Int
 | 0=>0
 | k+1=>gu y k+mdI y (k+1:Nat)
theorem fl (y m:Int):28<=mdI y m/\mdI y m<=31:=by
 unfold mdI;split
 ·split<;>omega
 ·split<;>omega
theorem uS (y:Int):gx y=true↔y % 4=0/\(¬ y % 100=0\/y % 400=0):=by simp[gx]
theorem JA (y:Int):j4 (y+1)=j4 y+365+(if gx y=true then 1 else 0):=by
 have h:y+1 - 1=y:=by omega
 unfold j4
 rw[h]
 by_cases hl:gx y=true
 ·rw[if_pos hl]
  have:=(uS y).1 hl
  omega
 ·rw[if_neg hl]
  have:¬ (y % 4=0/\(¬ y % 100=0\/y % 400=0)):=fun h=>hl ((uS y).2 h)
  omega
theorem Pk (y:Int):gu y 12=365+(if gx y=true then 1 else 0):=by
 have e (k:Nat):gu y (k+1)=gu y k+mdI y (k+1:Nat):=rfl
 have z:gu y 0=0:=rfl
 rw[e 11,e 10,e 9,e 8,e 7,e 6,e 5,e 4,e 3,e 2,e 1,e 0,z]
 by_cases hl:gx y=true<;>simp[mdI,hl]
theorem en (y:Int):∀ (k j:Nat),gu y j+28*k<=gu y (j+k)
 | 0,j=>by simp
 | k+1,j=>by
   have h1:=en y k j
   have h2:=fl y ((j+k:Nat)+1:Nat)
   have e:gu y (j+(k+1))=gu y (j+k)+mdI y (j+k+1:Nat):=rfl
   rw[e]
   omega
structure DateOk (y:Int)(m:Nat)(d:Int):Prop where
 y1:1<=y
 y2:y<=9999
 m1:1<=m
 m2:m<=12
 d1:1<=d
 d2:d<=mdI y m
def rz (y:Int)(m:Nat)(d:Int):Int:=j4 y+gu y (m - 1)+d - 1
theorem EH {y:Int}{m:Nat}{d:Int}(h:DateOk y m d):j4 y<=rz y m d/\rz y m d<j4 (y+1):=by
 obtain⟨h1,h2,h3,h4,h5,h6⟩:=h
 have hs0:=en y (m - 1) 0
 have z:gu y 0=0:=rfl
 simp only[Nat.zero_add] at hs0
 have hs1:gu y m=gu y (m - 1)+mdI y m:=by
  obtain⟨k,rfl⟩:∃ k,m=k+1:=⟨m - 1,by omega⟩
  rfl
 have hs2:=en y (12 - m) m
 rw[show m+(12 - m)=12 by omega,Pk] at hs2
 have hb:=JA y
 unfold rz
 omega
theorem iA {y:Int}(h1:1<=y)(h2:y<=10000):0<=j4 y/\j4 y<=3652059:=by
 unfold j4;omega
theorem iw {y:Int}{m:Nat}{d:Int}(h:DateOk y m d):0<=rz y m d/\rz y m d<=3652058:=by
 have:=EH h
 have h1:=iA h.y1 (by have:=h.y2;omega)
 have h2:=iA (y:=y+1) (by have:=h.y1;omega) (by have:=h.y2;omega)
 omega
end Go.Ab
namespace Go.Proofs.YtbaaokocnegdoaaGreatDoor
open Go Go.Ab
attribute [local irreducible] vc
theorem Qv (n lo hi:Int):ak Tryz.prog aq 125 [.int .i64 n,.int .i64 lo,.int .i64 hi] (.bool (decide (lo<=n)&&decide (n<=hi))):=by
 refine ak.intro Oy.2 (by simp[Oy]) ?_
 by_cases h1:lo<=n
 ·by_cases h2:n<=hi
  ·rw[show (decide (lo<=n)&&decide (n<=hi))=true by simp[h1,h2]]
   simp(disch:=try exact dI) only[Oy,push_cast,seval]
  ·rw[show (decide (lo<=n)&&decide (n<=hi))=false by simp[h2]]
   simp(disch:=try exact dI) only[Oy,push_cast,seval]
 ·rw[show (decide (lo<=n)&&decide (n<=hi))=false by simp[h1]]
  simp(disch:=try exact dI) only[Oy,push_cast,seval]
theorem fp {n lo hi:Int}(h:lo<=n/\n<=hi):ak Tryz.prog aq 125 [.int .i64 n,.int .i64 lo,.int .i64 hi] (.bool true):=by
 have:=Qv n lo hi
 rwa [show (decide (lo<=n)&&decide (n<=hi))=true by simp[h]] at this
theorem oe {n lo hi:Int}(h:¬ (lo<=n/\n<=hi)):ak Tryz.prog aq 125 [.int .i64 n,.int .i64 lo,.int .i64 hi] (.bool false):=by
 have:=Qv n lo hi
 rwa [show (decide (lo<=n)&&decide (n<=hi))=false by rw[<- Bool.decide_and];exact decide_eq_false h] at this
theorem Ng {y:Int}(h1:1<=y)(h2:y<=9999):ak Tryz.prog aq 176 [.int .i64 y] (.bool (gx y)):=by
 have hi:=fp (n:=y) (lo:=1) (hi:=9999) ⟨h1,h2⟩
 have e4:=fc (a:=y) (b:=4) (by omega)
 have e100:=fc (a:=y) (b:=100) (by omega)
 have e400:=fc (a:=y) (b:=400) (by omega)
 refine ak.intro K0.2 (by simp[K0]) ?_
 unfold gx
 by_cases a:y % 4=0
 ·by_cases b:y % 100=0
  ·by_cases c:y % 400=0
   ·simp only[a,b,c,decide_true,Bool.not_true,Bool.or_true,Bool.and_true]
    simp(disch:=try exact dI) only[K0,e4,e100,e400,push_cast,seval]
    refine ab.pure hi rfl ?_
    simp(disch:=try exact dI) only[e4,e100,e400,a,b,c,push_cast,seval]
   ·simp only[a,b,c,decide_true,decide_false,Bool.not_true,Bool.or_false,Bool.and_false]
    simp(disch:=try exact dI) only[K0,e4,e100,e400,push_cast,seval]
    refine ab.pure hi rfl ?_
    simp(disch:=try exact dI) only[e4,e100,e400,a,b,c,push_cast,seval]
  ·simp only[a,b,decide_true,decide_false,Bool.not_false,Bool.true_or,Bool.and_true]
   simp(disch:=try exact dI) only[K0,e4,e100,e400,push_cast,seval]
   refine ab.pure hi rfl ?_
   simp(disch:=try exact dI) only[e4,e100,e400,a,b,push_cast,seval]
 ·simp only[a,decide_false,Bool.false_and]
  simp(disch:=try exact dI) only[K0,e4,e100,e400,push_cast,seval]
  refine ab.pure hi rfl ?_
  simp(disch:=try exact dI) only[e4,e100,e400,a,push_cast,seval]
theorem Rv {y:Int}(h1:1<=y)(h2:y<=100000):ak Tryz.prog aq 126 [.int .i64 y] (.int .i64 (j4 y)):=by
 have e4:=gK (a:=y - 1) (b:=4) (by omega)
 have e100:=gK (a:=y - 1) (b:=100) (by omega)
 have e400:=gK (a:=y - 1) (b:=400) (by omega)
 refine ak.intro RX.2 (by simp[RX]) ?_
 simp(disch:=try exact dI) only[RX,j4,e4,e100,e400,push_cast,seval]
open Nat renaming reduceEqDiff->qa,reduceAdd->qb,reduceMul->qc,reduceLeDiff->qd,reduceLT->qe,reduceBEq->qf,reduceSub->qg
open Int renaming reduceToNat->qh,reduceNeg->qi
def Lw (m:Nat):Int:=if m=2 then 28 else if m=4\/m=6\/m=9\/m=11 then 30 else 31
theorem uN (y:Int)(m:Nat)(h:¬ (m=2/\gx y=true)):mdI y m=Lw m:=by
 unfold mdI Lw
 by_cases h2:m=2
 ·subst h2
  have:¬ gx y=true:=fun hl=>h ⟨rfl,hl⟩
  simp[this]
 ·have:¬ (m:Int)=2:=by omega
  rw[if_neg this,if_neg h2]
  by_cases h4:m=4\/m=6\/m=9\/m=11
  ·rw[if_pos h4,if_pos (by omega)]
  ·rw[if_neg h4,if_neg (by omega)]
theorem SZ (m:Nat)(h1:1<=m)(h2:m<=12):fi false 12 1 (.pv (.agg [.int .i64 31,.int .i64 28,.int .i64 31,.int .i64 30,.int .i64 31,.int .i64 30,.int .i64 31,.int .i64 31,.int .i64 30,.int .i64 31,.int .i64 30,.int .i64 31])) (.pv (.int .i64 ((m:Int) - 1)))=some (.pv (.int .i64 (Lw m))):=by
 have h12:m=1\/m=2\/m=3\/m=4\/m=5\/m=6\/m=7\/m=8\/m=9\/m=10\/m=11\/m=12:=by omega
 rcases h12 with rfl | rfl | rfl | rfl | rfl | rfl | rfl | rfl | rfl | rfl | rfl | rfl<;>rfl
theorem Qk {y:Int}(h1:1<=y)(h2:y<=9999)(m:Nat)(h3:1<=m)(h4:m<=12):ak Tryz.prog aq 127 [.int .i64 y,.int .i64 (m:Int)] (.int .i64 (mdI y m)):=by
 have hl:=Ng h1 h2
 have hx:=SZ m h3 h4
 refine ak.intro Ox.2 (by simp[Ox]) ?_
 by_cases h:m=2
 ·subst h
  cases hb:gx y with
  | true=>
    rw[hb] at hl
    rw[show mdI y ((2:Nat):Int)=29 by simp[mdI,hb]]
    simp(disch:=try exact dI) only[Ox,push_cast,↓reduceIte,qa,qb,qc,qd,qe,qf,qg,qh,qi]
    refine ab.pure hl rfl ?_
    simp(disch:=try exact dI) only[push_cast,↓reduceIte,qa,qb,qc,qd,qe,qf,qg,qh,qi]
  | false=>
    rw[hb] at hl
    rw[uN y 2 (by simp[hb])]
    have hx2:fi false 12 1 (.pv (.agg [.int .i64 31,.int .i64 28,.int .i64 31,.int .i64 30,.int .i64 31,.int .i64 30,.int .i64 31,.int .i64 31,.int .i64 30,.int .i64 31,.int .i64 30,.int .i64 31])) (.pv (.int .i64 (2 - 1)))=some (.pv (.int .i64 28)):=rfl
    rw[show Lw 2=28 from rfl]
    simp(disch:=try exact dI) only[Ox,push_cast,↓reduceIte,qa,qb,qc,qd,qe,qf,qg,qh,qi]
    refine ab.pure hl rfl ?_
    simp(disch:=try exact dI) only[hx2,push_cast,↓reduceIte,qa,qb,qc,qd,qe,qf,qg,qh,qi]
 ·rw[uN y m (by simp[h])]
  simp(disch:=try exact dI) only[Ox,hx,push_cast,↓reduceIte,qa,qb,qc,qd,qe,qf,qg,qh,qi]
theorem k8 {y:Int}(h1:1<=y)(h2:y<=9999)(m:Nat)(h3:1<=m)(h4:m<=12):ak Tryz.prog aq 124 [.int .i64 y,.int .i64 (m:Int)] (.tup [.int .i64 (mdI y m),.int .i64 0]):=by
 have hi1:=fp (n:=y) (lo:=1) (hi:=9999) ⟨h1,h2⟩
 have hi2:=fp (n:=(m:Int)) (lo:=1) (hi:=12) ⟨by omega,by omega⟩
 have hm:=Qk h1 h2 m h3 h4
 refine ak.intro J3.2 (by simp[J3]) ?_
 simp(disch:=try exact dI) only[J3,push_cast,↓reduceIte,qa,qb,qc,qd,qe,qf,qg,qh,qi]
 refine ab.pure hi1 rfl ?_
 simp(disch:=try exact dI) only[push_cast,↓reduceIte,qa,qb,qc,qd,qe,qf,qg,qh,qi]
 refine ab.pure hi2 rfl ?_
 simp(disch:=try exact dI) only[push_cast,↓reduceIte,qa,qb,qc,qd,qe,qf,qg,qh,qi]
 refine ab.pure hm rfl ?_
 simp(disch:=try exact dI) only[push_cast,↓reduceIte,qa,qb,qc,qd,qe,qf,qg,qh,qi]
theorem sM {y m:Int}(h:¬ (1<=y/\y<=9999/\1<=m/\m<=12)):ak Tryz.prog aq 124 [.int .i64 y,.int .i64 m] (.tup [.int .i64 0,.int .i64 17]):=by
 refine ak.intro J3.2 (by simp[J3]) ?_
 by_cases hy:1<=y/\y<=9999
 ·have hi1:=fp (n:=y) (lo:=1) (hi:=9999) hy
  have hi2:=oe (n:=m) (lo:=1) (hi:=12) (by omega)
  simp(disch:=try exact dI) only[J3,push_cast,↓reduceIte,qa,qb,qc,qd,qe,qf,qg,qh,qi]
  refine ab.pure hi1 rfl ?_
  simp(disch:=try exact dI) only[push_cast,↓reduceIte,qa,qb,qc,qd,qe,qf,qg,qh,qi]
  refine ab.pure hi2 rfl ?_
  simp(disch:=try exact dI) only[push_cast,↓reduceIte,qa,qb,qc,qd,qe,qf,qg,qh,qi]
 ·have hi1:=oe (n:=y) (lo:=1) (hi:=9999) hy
  simp(disch:=try exact dI) only[J3,push_cast,↓reduceIte,qa,qb,qc,qd,qe,qf,qg,qh,qi]
  refine ab.pure hi1 rfl ?_
  simp(disch:=try exact dI) only[push_cast,↓reduceIte,qa,qb,qc,qd,qe,qf,qg,qh,qi]
theorem QR {y:Int}{m:Nat}{d:Int}(h:DateOk y m d):ak Tryz.prog aq 75 [.int .i64 y,.int .i64 (m:Int),.int .i64 d] (.tup [.int .i64 (rz y m d - 719162),.int .i64 0]):=by
 have hm:=k8 h.y1 h.y2 m h.m1 h.m2
 have hi:=fp (n:=d) (lo:=1) (hi:=mdI y m) ⟨h.d1,h.d2⟩
 have hb:=Rv h.y1 (by have:=h.y2;omega)
 have hbb:=iA h.y1 (by have:=h.y2;omega)
 have hmd:=fl y m
 have hd1:=h.d1
 have hd2:=h.d2
 have hdr:=iw h
 have hdn:rz y m d=j4 y+gu y (m - 1)+d - 1:=rfl
 refine ak.intro Q75.2 (by simp[Q75]) ?_
 simp(disch:=try exact dI) only[Q75,push_cast,↓reduceIte,qa,qb,qc,qd,qe,qf,qg,qh,qi]
 refine ab.pure hm rfl ?_
 simp(disch:=try exact dI) only[push_cast,↓reduceIte,qa,qb,qc,qd,qe,qf,qg,qh,qi]
 refine ab.pure hi rfl ?_
 simp(disch:=try exact dI) only[push_cast,↓reduceIte,qa,qb,qc,qd,qe,qf,qg,qh,qi]
 refine ab.pure hb rfl ?_
 simp(disch:=try exact dI) only[push_cast,↓reduceIte,qa,qb,qc,qd,qe,qf,qg,qh,qi]
 have e0:((0:Nat):Int)+1=1:=rfl
 have e1:-719162+j4 y+d - 1+gu y 0 = -719162+j4 y+d - 1:=by
  have z:gu y 0=0:=rfl
  omega
 refine ap ([]) (fun k:Nat=>[(10,.pv (.int .i64 (-719162+j4 y+d - 1+gu y k))),(11,.pv (.int .i64 ((k:Int)+1)))]) (fun _=>[]) (fun k=>k<=m - 1) (fun k=>m - 1 - k) (0) ?_;intro e0 σ0 n0 h0;simp(disch:=try exact dI) only[push_cast,↓reduceIte,qa,qb,qc,qd,qe,qf,qg,qh,qi] at h0;obtain⟨rfl,rfl,rfl⟩:=h0;refine⟨?_,?_,?_⟩
 ·simp(disch:=try exact dI) only[e1,Int.zero_add,push_cast,↓reduceIte,qa,qb,qc,qd,qe,qf,qg,qh,qi]
 ·omega
 intro k hk
 have hs0:=en y k 0
 have z:gu y 0=0:=rfl
 simp only[Nat.zero_add] at hs0
 have hsm:=en y (m - 1 - k) k
 rw[show k+(m - 1 - k)=m - 1 by omega] at hsm
 by_cases hlt:k<m - 1
 ·have hmk:=Qk h.y1 h.y2 (k+1) (by omega) (by have:=h.m2;omega)
  have hmdk:=fl y ((k+1:Nat):Int)
  have hsk:gu y (k+1)=gu y k+mdI y ((k+1:Nat):Int):=rfl
  rw[show ((k+1:Nat):Int)=(k:Int)+1 by omega] at hmk hmdk hsk
  have hs2:-719162+j4 y+d - 1+gu y (k+1) = -719162+j4 y+d - 1+gu y k+mdI y ((k:Int)+1):=by omega
  simp(disch:=try exact dI) only[push_cast,↓reduceIte,qa,qb,qc,qd,qe,qf,qg,qh,qi]
  refine ab.pure hmk rfl ?_
  simp(disch:=try exact dI) only[push_cast,↓reduceIte,qa,qb,qc,qd,qe,qf,qg,qh,qi]
  exact⟨k+1,aK (by simp(disch:=try exact dI) only[hs2,push_cast,↓reduceIte,qa,qb,qc,qd,qe,qf,qg,qh,qi]),by omega,by omega⟩
 ·have:k=m - 1:=by omega
  subst this
  have hfin:-719162+j4 y+d - 1+gu y (m - 1)=rz y m d - 719162:=by omega
  simp(disch:=try exact dI) only[hfin,push_cast,↓reduceIte,qa,qb,qc,qd,qe,qf,qg,qh,qi]
theorem QS {y m d:Int}(h:∀ k:Nat,m=k->¬ DateOk y k d):ak Tryz.prog aq 75 [.int .i64 y,.int .i64 m,.int .i64 d] (.tup [.int .i64 0,.int .i64 17]):=by
 refine ak.intro Q75.2 (by simp[Q75]) ?_
 by_cases hm:1<=y/\y<=9999/\1<=m/\m<=12
 ·obtain⟨k,rfl⟩:∃ k:Nat,m=k:=⟨m.toNat,by omega⟩
  have hmt:=k8 hm.1 hm.2.1 k (by omega) (by omega)
  have hi:=oe (n:=d) (lo:=1) (hi:=mdI y k) (fun hd=>h k rfl ⟨hm.1,hm.2.1,by omega,by omega,hd.1,hd.2⟩)
  simp(disch:=try exact dI) only[Q75,push_cast,↓reduceIte,qa,qb,qc,qd,qe,qf,qg,qh,qi]
  refine ab.pure hmt rfl ?_
  simp(disch:=try exact dI) only[push_cast,↓reduceIte,qa,qb,qc,qd,qe,qf,qg,qh,qi]
  refine ab.pure hi rfl ?_
  simp(disch:=try exact dI) only[push_cast,↓reduceIte,qa,qb,qc,qd,qe,qf,qg,qh,qi]
 ·have hmf:=sM hm
  simp(disch:=try exact dI) only[Q75,push_cast,↓reduceIte,qa,qb,qc,qd,qe,qf,qg,qh,qi]
  refine ab.pure hmf rfl ?_
  simp(disch:=try exact dI) only[push_cast,↓reduceIte,qa,qb,qc,qd,qe,qf,qg,qh,qi]
end Go.Proofs.YtbaaokocnegdoaaGreatDoor
