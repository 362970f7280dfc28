/- A part. -/
import Derived.Test.YtbaaokocnegdoaaGreatDoorEnV18
set_option linter.unusedVariables false
set_option linter.unusedSimpArgs false
set_option maxRecDepth 100000
open Nat renaming zero_add->VA
open Bool renaming and_true->Ww,and_false->WB,false_and->Wc
namespace Go.Proofs.YtbaaokocnegdoaaGreatDoor
open Go Go.Ab
attribute [local irreducible] vc
theorem IJ (C:List Cel):(C.map Ay).map Prod.fst=C:=by
 rw[List.map_map]
 conv=>rhs;rw[<- List.map_id C]
 rfl
theorem nG {n:Int}(h:eh n=true):n=((n.toNat.toUInt8).toNat:Int)/\n.toNat.toUInt8≠34:=by
 have hn:0<=n/\n<128/\n≠34:=by unfold eh at h;simp at h;omega
 have e:((n.toNat.toUInt8).toNat:Int)=n:=by simp;omega
 refine⟨e.symm,fun h4=>?_⟩
 rw[h4] at e
 have:((34:UInt8).toNat:Int)=34:=rfl
 omega
theorem M0 (m:Int)(D:List Cel)(n:Int)(hD:∀ c,c∈D->c.1.length<=70000) :
  ae Tryz.prog (m6 m) 26 [.list (D.map iZ),.int .i64 n] (.tup [.str (cw (eh n) n.toNat.toUInt8 D).1,.int .i64 (cw (eh n) n.toNat.toUInt8 D).2]):=by
 refine MZ m D n n.toNat.toUInt8 (fun h=>(nG h).1) hD ?_ ?_
 ·intro hs c hc _
  obtain⟨h1,h2⟩:=nG hs
  rw[<- fR]
  have hb:eh ((n.toNat.toUInt8).toNat:Int)=true:=by rw[<- h1];exact hs
  have hn:n<128:=by unfold eh at hs;simp at hs;omega
  have h128:(n.toNat.toUInt8).toNat<128:=by omega
  have:=pU hb (j4 c.1 [34,13,10,n.toNat.toUInt8] (by have:=hD c hc;omega) (by simp) (by simp) (by simp;simpa using h128))
  rw[<- h1] at this
  exact toM this
 ·intro c hc _
  exact xS m c.1 (by have:=hD c hc;omega)
end Go.Proofs.YtbaaokocnegdoaaGreatDoor
namespace Go.Ab
open Go
def gD (y:Int):Bool:=decide (y % 4=0)&&(!decide (y % 100=0)||decide (y % 400=0))
def mdI (y m:Int):Int:=if m=2 then (if gD y=true then 29 else 28) else if m=4\/m=6\/m=9\/m=11 then 30 else 31
def bV (y:Int):Int:=365*(y - 1)+(y - 1) / 4 - (y - 1) / 100+(y - 1) / 400
def cb (y:Int):Nat->Int
 | 0=>0
 | k+1=>cb y k+mdI y (k+1:Nat)
theorem bx (y m:Int):28<=mdI y m/\mdI y m<=31:=by
 unfold mdI;split
 ·split<;>omega
 ·split<;>omega
theorem vV (y:Int):gD y=true↔y % 4=0/\(¬ y % 100=0\/y % 400=0):=by simp[gD]
theorem pA (y:Int):bV (y+1)=bV y+365+(if gD y=true then 1 else 0):=by
 have h:y+1 - 1=y:=by omega
 unfold bV
 rw[h]
 by_cases hl:gD y=true
 ·rw[if_pos hl]
  have:=(vV y).1 hl
  omega
 ·rw[if_neg hl]
  have:¬ (y % 4=0/\(¬ y % 100=0\/y % 400=0)):=fun h=>hl ((vV y).2 h)
  omega
theorem wR:∀ (k:Nat) (y:Int),bV y+365*k<=bV (y+k)
 | 0,y=>by simp
 | k+1,y=>by
   have h1:=wR k y
   have h2:=pA (y+k)
   have e:y+((k+1:Nat):Int)=y+k+1:=by omega
   rw[e,h2]
   have:(0:Int)<=if gD (y+k)=true then 1 else 0:=by split<;>omega
   omega
theorem Ri {y z:Int}(h:y<z):bV (y+1)<=bV z:=by
 have:=wR (z - (y+1)).toNat (y+1)
 have e:y+1+((z - (y+1)).toNat:Int)=z:=by omega
 rw[e] at this
 omega
theorem JV (y:Int):cb y 12=365+(if gD y=true then 1 else 0):=by
 have e (k:Nat):cb y (k+1)=cb y k+mdI y (k+1:Nat):=rfl
 have z:cb y 0=0:=rfl
 rw[e 11,e 10,e 9,e 8,e 7,e 6,e 5,e 4,e 3,e 2,e 1,e 0,z]
 by_cases hl:gD y=true<;>simp[mdI,hl]
theorem bK (y:Int):∀ (k j:Nat),cb y j+28*k<=cb y (j+k)
 | 0,j=>by simp
 | k+1,j=>by
   have h1:=bK y k j
   have h2:=bx y ((j+k:Nat)+1:Nat)
   have e:cb y (j+(k+1))=cb y (j+k)+mdI y (j+k+1:Nat):=rfl
   rw[e]
   omega
structure DateOk (y:Int)(m:Nat)(d:Int):Prop where
 y1:1<=y
 y2:y<=9999
 m1:1<=m
 m2:m<=12
 d1:1<=d
 d2:d<=mdI y m
def dT (y:Int)(m:Nat)(d:Int):Int:=bV y+cb y (m - 1)+d - 1
theorem mN {y:Int}{m:Nat}{d:Int}(h:DateOk y m d):bV y<=dT y m d/\dT y m d<bV (y+1):=by
 obtain⟨h1,h2,h3,h4,h5,h6⟩:=h
 have hs0:=bK y (m - 1) 0
 have z:cb y 0=0:=rfl
 simp only[VA] at hs0
 have hs1:cb y m=cb y (m - 1)+mdI y m:=by
  obtain⟨k,rfl⟩:∃ k,m=k+1:=⟨m - 1,by omega⟩
  rfl
 have hs2:=bK y (12 - m) m
 rw[show m+(12 - m)=12 by omega,JV] at hs2
 have hb:=pA y
 unfold dT
 omega
theorem fW {y:Int}(h1:1<=y)(h2:y<=10000):0<=bV y/\bV y<=3652059:=by
 unfold bV;omega
theorem cq {y:Int}{m:Nat}{d:Int}(h:DateOk y m d):0<=dT y m d/\dT y m d<=3652058:=by
 have:=mN h
 have h1:=fW h.y1 (by have:=h.y2;omega)
 have h2:=fW (y:=y+1) (by have:=h.y1;omega) (by have:=h.y2;omega)
 omega
end Go.Ab
namespace Go.Proofs.YtbaaokocnegdoaaGreatDoor
open Go Go.Ab
attribute [local irreducible] vc
theorem Qg (n lo hi:Int):ae Tryz.prog aq 125 [.int .i64 n,.int .i64 lo,.int .i64 hi] (.bool (decide (lo<=n)&&decide (n<=hi))):=by
 refine ae.intro Od.2 (by simp[Od]) ?_
 by_cases h1:lo<=n
 ·by_cases h2:n<=hi
  ·rw[show (decide (lo<=n)&&decide (n<=hi))=true by simp[h1,h2]]
   simp(disch:=try exact dI) only[Od,push_cast,seval]
  ·rw[show (decide (lo<=n)&&decide (n<=hi))=false by simp[h2]]
   simp(disch:=try exact dI) only[Od,push_cast,seval]
 ·rw[show (decide (lo<=n)&&decide (n<=hi))=false by simp[h1]]
  simp(disch:=try exact dI) only[Od,push_cast,seval]
theorem d9 {n lo hi:Int}(h:lo<=n/\n<=hi):ae Tryz.prog aq 125 [.int .i64 n,.int .i64 lo,.int .i64 hi] (.bool true):=by
 have:=Qg n lo hi
 rwa [show (decide (lo<=n)&&decide (n<=hi))=true by simp[h]] at this
theorem pc {n lo hi:Int}(h:¬ (lo<=n/\n<=hi)):ae Tryz.prog aq 125 [.int .i64 n,.int .i64 lo,.int .i64 hi] (.bool false):=by
 have:=Qg n lo hi
 rwa [show (decide (lo<=n)&&decide (n<=hi))=false by rw[<- Bool.decide_and];exact decide_eq_false h] at this
theorem MX {y:Int}(h1:1<=y)(h2:y<=9999):ae Tryz.prog aq 176 [.int .i64 y] (.bool (gD y)):=by
 have hi:=d9 (n:=y) (lo:=1) (hi:=9999) ⟨h1,h2⟩
 have e4:=cY (a:=y) (b:=4) (by omega)
 have e100:=cY (a:=y) (b:=100) (by omega)
 have e400:=cY (a:=y) (b:=400) (by omega)
 refine ae.intro KO.2 (by simp[KO]) ?_
 unfold gD
 by_cases a:y % 4=0
 ·by_cases b:y % 100=0
  ·by_cases c:y % 400=0
   ·simp only[a,b,c,decide_true,Bool.not_true,Bool.or_true,Ww]
    simp(disch:=try exact dI) only[KO,e4,e100,e400,push_cast,seval]
    refine ab.pure hi rfl ?_
    simp(disch:=try exact dI) only[e4,e100,e400,a,b,c,push_cast,seval]
   ·simp only[a,b,c,decide_true,decide_false,Bool.not_true,Bool.or_false,WB]
    simp(disch:=try exact dI) only[KO,e4,e100,e400,push_cast,seval]
    refine ab.pure hi rfl ?_
    simp(disch:=try exact dI) only[e4,e100,e400,a,b,c,push_cast,seval]
  ·simp only[a,b,decide_true,decide_false,Bool.not_false,Bool.true_or,Ww]
   simp(disch:=try exact dI) only[KO,e4,e100,e400,push_cast,seval]
   refine ab.pure hi rfl ?_
   simp(disch:=try exact dI) only[e4,e100,e400,a,b,push_cast,seval]
 ·simp only[a,decide_false,Wc]
  simp(disch:=try exact dI) only[KO,e4,e100,e400,push_cast,seval]
  refine ab.pure hi rfl ?_
  simp(disch:=try exact dI) only[e4,e100,e400,a,push_cast,seval]
theorem KK {y:Int}(h1:1<=y)(h2:y<=100000):ae Tryz.prog aq 126 [.int .i64 y] (.int .i64 (bV y)):=by
 have e4:=cZ (a:=y - 1) (b:=4) (by omega)
 have e100:=cZ (a:=y - 1) (b:=100) (by omega)
 have e400:=cZ (a:=y - 1) (b:=400) (by omega)
 refine ae.intro RP.2 (by simp[RP]) ?_
 simp(disch:=try exact dI) only[RP,bV,e4,e100,e400,push_cast,seval]
open Nat renaming reduceEqDiff->qa,reduceAdd->qb,reduceMul->qc,reduceLeDiff->qd,reduceLT->qe,reduceBEq->qf,reduceSub->qg
open Int renaming reduceToNat->qh,reduceNeg->qi
def Lo (m:Nat):Int:=if m=2 then 28 else if m=4\/m=6\/m=9\/m=11 then 30 else 31
theorem vQ (y:Int)(m:Nat)(h:¬ (m=2/\gD y=true)):mdI y m=Lo m:=by
 unfold mdI Lo
 by_cases h2:m=2
 ·subst h2
  have:¬ gD y=true:=fun hl=>h ⟨rfl,hl⟩
  simp[this]
 ·have:¬ (m:Int)=2:=by omega
  rw[if_neg this,if_neg h2]
  by_cases h4:m=4\/m=6\/m=9\/m=11
  ·rw[if_pos h4,if_pos (by omega)]
  ·rw[if_neg h4,if_neg (by omega)]
theorem SY (m:Nat)(h1:1<=m)(h2:m<=12):fJ false 12 1 (.pv (.agg [.int .i64 31,.int .i64 28,.int .i64 31,.int .i64 30,.int .i64 31,.int .i64 30,.int .i64 31,.int .i64 31,.int .i64 30,.int .i64 31,.int .i64 30,.int .i64 31])) (.pv (.int .i64 ((m:Int) - 1)))=some (.pv (.int .i64 (Lo m))):=by
 have h12:m=1\/m=2\/m=3\/m=4\/m=5\/m=6\/m=7\/m=8\/m=9\/m=10\/m=11\/m=12:=by omega
 rcases h12 with rfl | rfl | rfl | rfl | rfl | rfl | rfl | rfl | rfl | rfl | rfl | rfl<;>rfl
theorem MM {y:Int}(h1:1<=y)(h2:y<=9999)(m:Nat)(h3:1<=m)(h4:m<=12):ae Tryz.prog aq 127 [.int .i64 y,.int .i64 (m:Int)] (.int .i64 (mdI y m)):=by
 have hl:=MX h1 h2
 have hx:=SY m h3 h4
 refine ae.intro Oc.2 (by simp[Oc]) ?_
 by_cases h:m=2
 ·subst h
  cases hb:gD y with
  | true=>
    rw[hb] at hl
    rw[show mdI y ((2:Nat):Int)=29 by simp[mdI,hb]]
    simp(disch:=try exact dI) only[Oc,push_cast,↓reduceIte,qa,qb,qc,qd,qe,qf,qg,qh,qi]
    refine ab.pure hl rfl ?_
    simp(disch:=try exact dI) only[push_cast,↓reduceIte,qa,qb,qc,qd,qe,qf,qg,qh,qi]
  | false=>
    rw[hb] at hl
    rw[vQ y 2 (by simp[hb])]
    have hx2:fJ false 12 1 (.pv (.agg [.int .i64 31,.int .i64 28,.int .i64 31,.int .i64 30,.int .i64 31,.int .i64 30,.int .i64 31,.int .i64 31,.int .i64 30,.int .i64 31,.int .i64 30,.int .i64 31])) (.pv (.int .i64 (2 - 1)))=some (.pv (.int .i64 28)):=rfl
    rw[show Lo 2=28 from rfl]
    simp(disch:=try exact dI) only[Oc,push_cast,↓reduceIte,qa,qb,qc,qd,qe,qf,qg,qh,qi]
    refine ab.pure hl rfl ?_
    simp(disch:=try exact dI) only[hx2,push_cast,↓reduceIte,qa,qb,qc,qd,qe,qf,qg,qh,qi]
 ·rw[vQ y m (by simp[h])]
  simp(disch:=try exact dI) only[Oc,hx,push_cast,↓reduceIte,qa,qb,qc,qd,qe,qf,qg,qh,qi]
theorem l7 {y:Int}(h1:1<=y)(h2:y<=9999)(m:Nat)(h3:1<=m)(h4:m<=12):ae Tryz.prog aq 124 [.int .i64 y,.int .i64 (m:Int)] (.tup [.int .i64 (mdI y m),.int .i64 0]):=by
 have hi1:=d9 (n:=y) (lo:=1) (hi:=9999) ⟨h1,h2⟩
 have hi2:=d9 (n:=(m:Int)) (lo:=1) (hi:=12) ⟨by omega,by omega⟩
 have hm:=MM h1 h2 m h3 h4
 refine ae.intro JJ.2 (by simp[JJ]) ?_
 simp(disch:=try exact dI) only[JJ,push_cast,↓reduceIte,qa,qb,qc,qd,qe,qf,qg,qh,qi]
 refine ab.pure hi1 rfl ?_
 simp(disch:=try exact dI) only[push_cast,↓reduceIte,qa,qb,qc,qd,qe,qf,qg,qh,qi]
 refine ab.pure hi2 rfl ?_
 simp(disch:=try exact dI) only[push_cast,↓reduceIte,qa,qb,qc,qd,qe,qf,qg,qh,qi]
 refine ab.pure hm rfl ?_
 simp(disch:=try exact dI) only[push_cast,↓reduceIte,qa,qb,qc,qd,qe,qf,qg,qh,qi]
theorem tB {y m:Int}(h:¬ (1<=y/\y<=9999/\1<=m/\m<=12)):ae Tryz.prog aq 124 [.int .i64 y,.int .i64 m] (.tup [.int .i64 0,.int .i64 17]):=by
 refine ae.intro JJ.2 (by simp[JJ]) ?_
 by_cases hy:1<=y/\y<=9999
 ·have hi1:=d9 (n:=y) (lo:=1) (hi:=9999) hy
  have hi2:=pc (n:=m) (lo:=1) (hi:=12) (by omega)
  simp(disch:=try exact dI) only[JJ,push_cast,↓reduceIte,qa,qb,qc,qd,qe,qf,qg,qh,qi]
  refine ab.pure hi1 rfl ?_
  simp(disch:=try exact dI) only[push_cast,↓reduceIte,qa,qb,qc,qd,qe,qf,qg,qh,qi]
  refine ab.pure hi2 rfl ?_
  simp(disch:=try exact dI) only[push_cast,↓reduceIte,qa,qb,qc,qd,qe,qf,qg,qh,qi]
 ·have hi1:=pc (n:=y) (lo:=1) (hi:=9999) hy
  simp(disch:=try exact dI) only[JJ,push_cast,↓reduceIte,qa,qb,qc,qd,qe,qf,qg,qh,qi]
  refine ab.pure hi1 rfl ?_
  simp(disch:=try exact dI) only[push_cast,↓reduceIte,qa,qb,qc,qd,qe,qf,qg,qh,qi]
theorem QF {y:Int}{m:Nat}{d:Int}(h:DateOk y m d):ae Tryz.prog aq 75 [.int .i64 y,.int .i64 (m:Int),.int .i64 d] (.tup [.int .i64 (dT y m d - 719162),.int .i64 0]):=by
 have hm:=l7 h.y1 h.y2 m h.m1 h.m2
 have hi:=d9 (n:=d) (lo:=1) (hi:=mdI y m) ⟨h.d1,h.d2⟩
 have hb:=KK h.y1 (by have:=h.y2;omega)
 have hbb:=fW h.y1 (by have:=h.y2;omega)
 have hmd:=bx y m
 have hd1:=h.d1
 have hd2:=h.d2
 have hdr:=cq h
 have hdn:dT y m d=bV y+cb y (m - 1)+d - 1:=rfl
 refine ae.intro Q75.2 (by simp[Q75]) ?_
 simp(disch:=try exact dI) only[Q75,push_cast,↓reduceIte,qa,qb,qc,qd,qe,qf,qg,qh,qi]
 refine ab.pure hm rfl ?_
 simp(disch:=try exact dI) only[push_cast,↓reduceIte,qa,qb,qc,qd,qe,qf,qg,qh,qi]
 refine ab.pure hi rfl ?_
 simp(disch:=try exact dI) only[push_cast,↓reduceIte,qa,qb,qc,qd,qe,qf,qg,qh,qi]
 refine ab.pure hb rfl ?_
 simp(disch:=try exact dI) only[push_cast,↓reduceIte,qa,qb,qc,qd,qe,qf,qg,qh,qi]
 have e0:((0:Nat):Int)+1=1:=rfl
 have e1:-719162+bV y+d - 1+cb y 0 = -719162+bV y+d - 1:=by
  have z:cb y 0=0:=rfl
  omega
 refine ap ([]) (fun k:Nat=>[(10,.pv (.int .i64 (-719162+bV y+d - 1+cb y k))),(11,.pv (.int .i64 ((k:Int)+1)))]) (fun _=>[]) (fun k=>k<=m - 1) (fun k=>m - 1 - k) (0) ?_;intro e0 σ0 n0 h0;simp(disch:=try exact dI) only[push_cast,↓reduceIte,qa,qb,qc,qd,qe,qf,qg,qh,qi] at h0;obtain⟨rfl,rfl,rfl⟩:=h0;refine⟨?_,?_,?_⟩
 ·simp(disch:=try exact dI) only[e1,Int.zero_add,push_cast,↓reduceIte,qa,qb,qc,qd,qe,qf,qg,qh,qi]
 ·omega
 intro k hk
 have hs0:=bK y k 0
 have z:cb y 0=0:=rfl
 simp only[VA] at hs0
 have hsm:=bK y (m - 1 - k) k
 rw[show k+(m - 1 - k)=m - 1 by omega] at hsm
 by_cases hlt:k<m - 1
 ·have hmk:=MM h.y1 h.y2 (k+1) (by omega) (by have:=h.m2;omega)
  have hmdk:=bx y ((k+1:Nat):Int)
  have hsk:cb y (k+1)=cb y k+mdI y ((k+1:Nat):Int):=rfl
  rw[show ((k+1:Nat):Int)=(k:Int)+1 by omega] at hmk hmdk hsk
  have hs2:-719162+bV y+d - 1+cb y (k+1) = -719162+bV y+d - 1+cb y k+mdI y ((k:Int)+1):=by omega
  simp(disch:=try exact dI) only[push_cast,↓reduceIte,qa,qb,qc,qd,qe,qf,qg,qh,qi]
  refine ab.pure hmk rfl ?_
  simp(disch:=try exact dI) only[push_cast,↓reduceIte,qa,qb,qc,qd,qe,qf,qg,qh,qi]
  exact⟨k+1,aI (by simp(disch:=try exact dI) only[hs2,push_cast,↓reduceIte,qa,qb,qc,qd,qe,qf,qg,qh,qi]),by omega,by omega⟩
 ·have:k=m - 1:=by omega
  subst this
  have hfin:-719162+bV y+d - 1+cb y (m - 1)=dT y m d - 719162:=by omega
  simp(disch:=try exact dI) only[hfin,push_cast,↓reduceIte,qa,qb,qc,qd,qe,qf,qg,qh,qi]
theorem QG {y m d:Int}(h:∀ k:Nat,m=k->¬ DateOk y k d):ae Tryz.prog aq 75 [.int .i64 y,.int .i64 m,.int .i64 d] (.tup [.int .i64 0,.int .i64 17]):=by
 refine ae.intro Q75.2 (by simp[Q75]) ?_
 by_cases hm:1<=y/\y<=9999/\1<=m/\m<=12
 ·obtain⟨k,rfl⟩:∃ k:Nat,m=k:=⟨m.toNat,by omega⟩
  have hmt:=l7 hm.1 hm.2.1 k (by omega) (by omega)
  have hi:=pc (n:=d) (lo:=1) (hi:=mdI y k) (fun hd=>h k rfl ⟨hm.1,hm.2.1,by omega,by omega,hd.1,hd.2⟩)
  simp(disch:=try exact dI) only[Q75,push_cast,↓reduceIte,qa,qb,qc,qd,qe,qf,qg,qh,qi]
  refine ab.pure hmt rfl ?_
  simp(disch:=try exact dI) only[push_cast,↓reduceIte,qa,qb,qc,qd,qe,qf,qg,qh,qi]
  refine ab.pure hi rfl ?_
  simp(disch:=try exact dI) only[push_cast,↓reduceIte,qa,qb,qc,qd,qe,qf,qg,qh,qi]
 ·have hmf:=tB hm
  simp(disch:=try exact dI) only[Q75,push_cast,↓reduceIte,qa,qb,qc,qd,qe,qf,qg,qh,qi]
  refine ab.pure hmf rfl ?_
  simp(disch:=try exact dI) only[push_cast,↓reduceIte,qa,qb,qc,qd,qe,qf,qg,qh,qi]
theorem ND {y:Int}{m:Nat}{d:Int}(h:DateOk y m d):ae Tryz.prog aq 91 [.int .i64 (dT y m d - 719162)] (.tup [.int .i64 y,.int .i64 (m:Int),.int .i64 d,.int .i64 0]):=by
 have hdr:=cq h
 have hdb:=mN h
 have hy1:=h.y1
 have hy2:=h.y2
 have hm1:=h.m1
 have hm2:=h.m2
 have hd1:=h.d1
 have hd2:=h.d2
 have hdn:dT y m d=bV y+cb y (m - 1)+d - 1:=rfl
 obtain⟨n,hn⟩:∃ n,n=dT y m d:=⟨_,rfl⟩
 rw[<- hn] at hdr hdb hdn ⊢
 have hin:=d9 (n:=n - 719162) (lo:=-719162) (hi:=2932896) ⟨by omega,by omega⟩
 have hq:=cZ (a:=n) (b:=365) (by omega)
 have hs0:=bK y (m - 1) 0
 have z:cb y 0=0:=rfl
 simp only[VA] at hs0
 have hbb:=fW hy1 (by omega)
 have hb365:365*(y - 1)<=bV y:=by unfold bV;omega
 have e1:n - 719162 - -719162=n:=by omega
 refine ae.intro Q91.2 (by simp[Q91]) ?_
 simp(disch:=try exact dI) only[Q91,push_cast,seval]
 refine ab.pure hin rfl ?_
 have hmin:y<=n / 365+1:=by omega
 have hloop:∀ Y:Int,y<=Y->Y<=9999->(n<bV Y↔y<Y):=by
  intro Y h1 h2
  constructor
  ·intro h3
   by_cases e:Y=y
   ·subst e;omega
   ·omega
  ·intro h3
   have:=Ri h3
   omega
 simp(disch:=try exact dI) only[e1,hq,push_cast,seval]
 refine ap ([]) (fun Y:Int=>[(2,.pv (.int .i64 Y))]) (fun _=>[]) (fun Y=>y<=Y/\Y<=9999) (fun Y=>(Y - y).toNat) (min (n / 365+1) 9999) ?_;intro e0 σ0 n0 h0;simp(disch:=try exact dI) only[push_cast,seval] at h0;obtain⟨rfl,rfl,rfl⟩:=h0;refine⟨?_,?_,?_⟩
 ·exact qsZ
 ·exact⟨by omega,by omega⟩
 rintro Y ⟨g1,g2⟩
 have hbY:=KK (y:=Y) (by omega) (by omega)
 by_cases hY:y<Y
 ·have hgt:=(hloop Y g1 g2).2 hY
  refine zgZ ?_
  refine ab.pure hbY rfl ?_
  refine zgZ ?_
  exact⟨Y - 1,aI qsZ,⟨by omega,by omega⟩,by omega⟩
 ·have:Y=y:=by omega
  subst this
  refine zgZ ?_
  refine ab.pure hbY rfl ?_
  refine zgZ ?_
  refine ab.pure hbY rfl ?_
  refine zgZ ?_
  refine ap ([]) (fun k:Nat=>[(3,.pv (.int .i64 ((k:Int)+1))),(6,.pv (.int .i64 (n - bV Y - cb Y k)))]) (fun _=>[]) (fun k=>k<=m - 1) (fun k=>m - 1 - k) (0) ?_;intro e0 σ0 n0 h0;simp(disch:=try exact dI) only[push_cast,seval] at h0;obtain⟨rfl,rfl,rfl⟩:=h0;refine⟨?_,?_,?_⟩
  ·simp(disch:=try exact dI) only[z,Int.zero_add,Int.sub_zero,push_cast,seval]
  ·omega
  intro k hk
  have hsm:=bK Y (m - 1 - k) k
  rw[show k+(m - 1 - k)=m - 1 by omega] at hsm
  have hs1:=bK Y k 0
  simp only[VA] at hs1
  have hmk:=MM hy1 hy2 (k+1) (by omega) (by omega)
  have hmdk:=bx Y ((k+1:Nat):Int)
  have hsk:cb Y (k+1)=cb Y k+mdI Y ((k+1:Nat):Int):=rfl
  rw[show ((k+1:Nat):Int)=(k:Int)+1 by omega] at hmk hmdk hsk
  by_cases hlt:k<m - 1
  ·have hge:mdI Y ((k:Int)+1)<=n - bV Y - cb Y k:=by
    have hs2:=bK Y (m - 1 - (k+1)) (k+1)
    rw[show k+1+(m - 1 - (k+1))=m - 1 by omega] at hs2
    omega
   have he:n - bV Y - cb Y (k+1)=n - bV Y - cb Y k - mdI Y ((k:Int)+1):=by omega
   refine zgZ ?_
   refine ab.pure hmk rfl ?_
   refine zgZ ?_
   refine ab.pure hmk rfl ?_
   refine zgZ ?_
   exact⟨k+1,aI (by simp(disch:=try exact dI) only[he,push_cast,seval]),by omega,by omega⟩
  ·have hkm:k=m - 1:=by omega
   subst hkm
   have em:((m - 1:Nat):Int)+1=(m:Int):=by omega
   have em2:(m:Int) - 1+1=(m:Int):=by omega
   rw[em] at hmk hmdk hsk
   have hnge:¬ mdI Y (m:Int)<=n - bV Y - cb Y (m - 1):=by omega
   have efin:n - bV Y - cb Y (m - 1)+1=d:=by omega
   simp(disch:=try exact dI) only[em2,push_cast,seval]
   refine ab.pure hmk rfl ?_
   simp(disch:=try exact dI) only[em2,efin,push_cast,seval]
theorem MW {y:Int}(h1:1<=y)(h2:y<=9999):ae Tryz.prog aq 233 [.int .i64 y] (.bool (gD y)):=by
 have e4:=cY (a:=y) (b:=4) (by omega)
 have e100:=cY (a:=y) (b:=100) (by omega)
 have e400:=cY (a:=y) (b:=400) (by omega)
 refine ae.intro OG.2 (by simp[OG]) ?_
 unfold gD
 by_cases a:y % 4=0
 ·by_cases b:y % 100=0
  ·by_cases c:y % 400=0
   ·simp only[a,b,c,decide_true,Bool.not_true,Bool.or_true,Ww]
    simp(disch:=try exact dI) only[OG,e4,e100,e400,a,b,c,push_cast,↓reduceIte,qa,qb,qc,qd,qe,qf,qg,qh,qi]
   ·simp only[a,b,c,decide_true,decide_false,Bool.not_true,Bool.or_false,WB]
    simp(disch:=try exact dI) only[OG,e4,e100,e400,a,b,c,push_cast,↓reduceIte,qa,qb,qc,qd,qe,qf,qg,qh,qi]
  ·simp only[a,b,decide_true,decide_false,Bool.not_false,Bool.true_or,Ww]
   simp(disch:=try exact dI) only[OG,e4,e100,e400,a,b,push_cast,↓reduceIte,qa,qb,qc,qd,qe,qf,qg,qh,qi]
 ·have c:¬ y % 400=0:=by omega
  simp only[a,decide_false,Wc]
  simp(disch:=try exact dI) only[OG,e4,e100,e400,a,c,push_cast,↓reduceIte,qa,qb,qc,qd,qe,qf,qg,qh,qi]
theorem Qx (m:Nat)(h1:1<=m)(h2:m<=12):eS 1 [.int .i64 31,.int .i64 28,.int .i64 31,.int .i64 30,.int .i64 31,.int .i64 30,.int .i64 31,.int .i64 31,.int .i64 30,.int .i64 31,.int .i64 30,.int .i64 31] ((m:Int) - 1)=dO 1 [.int .i64 31,.int .i64 28,.int .i64 31,.int .i64 30,.int .i64 31,.int .i64 30,.int .i64 31,.int .i64 31,.int .i64 30,.int .i64 31,.int .i64 30,.int .i64 31] (m - 1) (some (.int .i64 (Lo m))):=by
 rw[Cx _ _ (by omega),show ((m:Int) - 1).toNat=m - 1 by omega]
 have h12:m=1\/m=2\/m=3\/m=4\/m=5\/m=6\/m=7\/m=8\/m=9\/m=10\/m=11\/m=12:=by omega
 rcases h12 with rfl | rfl | rfl | rfl | rfl | rfl | rfl | rfl | rfl | rfl | rfl | rfl<;>rfl
theorem Nt (m:Nat)(h1:1<=m)(h2:m<=12):([.int .i64 31,.int .i64 28,.int .i64 31,.int .i64 30,.int .i64 31,.int .i64 30,.int .i64 31,.int .i64 31,.int .i64 30,.int .i64 31,.int .i64 30,.int .i64 31]:List PV)[m - 1]? = some (.int .i64 (Lo m)):=by
 have h12:m=1\/m=2\/m=3\/m=4\/m=5\/m=6\/m=7\/m=8\/m=9\/m=10\/m=11\/m=12:=by omega
 rcases h12 with rfl | rfl | rfl | rfl | rfl | rfl | rfl | rfl | rfl | rfl | rfl | rfl<;>rfl
theorem oV {y:Int}(h1:1<=y)(h2:y<=9999)(m:Nat)(h3:1<=m)(h4:m<=12):ae Tryz.prog aq 182 [.int .i64 y,.int .i64 (m:Int)] (.int .i64 (mdI y m)):=by
 have hl:=MW h1 h2
 refine ae.intro RK.2 (by simp[RK]) ?_
 by_cases h:m=2
 ·subst h
  cases hb:gD y with
  | true=>
    rw[hb] at hl
    rw[show mdI y ((2:Nat):Int)=29 by simp[mdI,hb]]
    simp(disch:=try exact dI) only[RK,push_cast,↓reduceIte,qa,qb,qc,qd,qe,qf,qg,qh,qi]
    refine ab.pure hl rfl ?_
    simp(disch:=try exact dI) only[push_cast,↓reduceIte,qa,qb,qc,qd,qe,qf,qg,qh,qi]
  | false=>
    rw[hb] at hl
    rw[vQ y 2 (by simp[hb])]
    rw[show Lo 2=28 from rfl]
    have hx2:eS 1 [.int .i64 31,.int .i64 28,.int .i64 31,.int .i64 30,.int .i64 31,.int .i64 30,.int .i64 31,.int .i64 31,.int .i64 30,.int .i64 31,.int .i64 30,.int .i64 31] (2 - 1)=dO 1 [.int .i64 31,.int .i64 28,.int .i64 31,.int .i64 30,.int .i64 31,.int .i64 30,.int .i64 31,.int .i64 31,.int .i64 30,.int .i64 31,.int .i64 30,.int .i64 31] 1 (some (.int .i64 28)):=rfl
    simp(disch:=try exact dI) only[RK,push_cast,↓reduceIte,qa,qb,qc,qd,qe,qf,qg,qh,qi]
    refine ab.pure hl rfl ?_
    simp(disch:=try exact dI) only[hx2,push_cast,↓reduceIte,qa,qb,qc,qd,qe,qf,qg,qh,qi]
 ·rw[vQ y m (by simp[h])]
  simp(disch:=try exact dI) only[RK,Qx m h3 h4,Nt m h3 h4,push_cast,↓reduceIte,qa,qb,qc,qd,qe,qf,qg,qh,qi]
theorem Cg {y:Int}{m:Nat}{d:Int}(h:DateOk y m d):ae Tryz.prog aq 136 [.int .i64 y,.int .i64 (m:Int),.int .i64 d] (.tup [.int .i64 (dT y m d - 719162),.bool true]):=by
 have hm:=oV h.y1 h.y2 m h.m1 h.m2
 have hbb:=fW h.y1 (by have:=h.y2;omega)
 have hmd:=bx y m
 have hy1:=h.y1
 have hy2:=h.y2
 have hm2:=h.m2
 have hd1:=h.d1
 have hd2:=h.d2
 have hdr:=cq h
 have hdn:dT y m d=bV y+cb y (m - 1)+d - 1:=rfl
 have e4:=cZ (a:=y - 1) (b:=4) (by omega)
 have e100:=cZ (a:=y - 1) (b:=100) (by omega)
 have e400:=cZ (a:=y - 1) (b:=400) (by omega)
 have hbf:365*(y - 1)+(y - 1) / 4 - (y - 1) / 100+(y - 1) / 400=bV y:=rfl
 have z:cb y 0=0:=rfl
 refine ae.intro Un.2 (by simp[Un]) ?_
 simp(disch:=try exact dI) only[Un,push_cast,↓reduceIte,qa,qb,qc,qd,qe,qf,qg,qh,qi]
 refine ab.pure hm rfl ?_
 simp(disch:=try exact dI) only[e4,e100,e400,push_cast,↓reduceIte,qa,qb,qc,qd,qe,qf,qg,qh,qi]
 refine ap ([]) (fun k:Nat=>[(6,.pv (.int .i64 (bV y+cb y k))),(9,.pv (.int .i64 ((k:Int)+1)))]) (fun _=>[]) (fun k=>k<=m - 1) (fun k=>m - 1 - k) (0) ?_;intro e0 σ0 n0 h0;simp(disch:=try exact dI) only[push_cast,↓reduceIte,qa,qb,qc,qd,qe,qf,qg,qh,qi] at h0;obtain⟨rfl,rfl,rfl⟩:=h0;refine⟨?_,?_,?_⟩
 ·simp(disch:=try exact dI) only[hbf,z,Int.zero_add,Int.add_zero,push_cast,↓reduceIte,qa,qb,qc,qd,qe,qf,qg,qh,qi]
 ·omega
 intro k hk
 have hs0:=bK y k 0
 simp only[VA] at hs0
 have hsm:=bK y (m - 1 - k) k
 rw[show k+(m - 1 - k)=m - 1 by omega] at hsm
 by_cases hlt:k<m - 1
 ·have hmk:=oV hy1 hy2 (k+1) (by omega) (by omega)
  have hmdk:=bx y ((k+1:Nat):Int)
  have hsk:cb y (k+1)=cb y k+mdI y ((k+1:Nat):Int):=rfl
  rw[show ((k+1:Nat):Int)=(k:Int)+1 by omega] at hmk hmdk hsk
  have hs2:bV y+cb y (k+1)=bV y+cb y k+mdI y ((k:Int)+1):=by omega
  simp(disch:=try exact dI) only[push_cast,↓reduceIte,qa,qb,qc,qd,qe,qf,qg,qh,qi]
  refine ab.pure hmk rfl ?_
  simp(disch:=try exact dI) only[push_cast,↓reduceIte,qa,qb,qc,qd,qe,qf,qg,qh,qi]
  exact⟨k+1,aI (by simp(disch:=try exact dI) only[hs2,push_cast,↓reduceIte,qa,qb,qc,qd,qe,qf,qg,qh,qi]),by omega,by omega⟩
 ·have:k=m - 1:=by omega
  subst this
  have hfin:bV y+cb y (m - 1)+d - 1 + -719162=dT y m d - 719162:=by omega
  simp(disch:=try exact dI) only[hfin,push_cast,↓reduceIte,qa,qb,qc,qd,qe,qf,qg,qh,qi]
