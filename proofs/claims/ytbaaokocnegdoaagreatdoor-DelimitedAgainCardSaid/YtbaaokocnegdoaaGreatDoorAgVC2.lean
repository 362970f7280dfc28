/- A part of the proof. -/
import Derived.Test.YtbaaokocnegdoaaGreatDoorAgV18
set_option linter.unusedVariables false
set_option linter.unusedSimpArgs false
set_option maxRecDepth 100000
namespace Go.Proofs.YtbaaokocnegdoaaGreatDoor
open Go Go.Ab
attribute [local irreducible] vc
theorem PO (n lo hi:Int):ae Tryz.prog au 125 [.int .i64 n,.int .i64 lo,.int .i64 hi] (.bool (decide (lo<=n)&&decide (n<=hi))):=by
 refine ae.intro N1.2 (by simp[N1]) ?_
 by_cases h1:lo<=n
 ·by_cases h2:n<=hi
  ·rw[show (decide (lo<=n)&&decide (n<=hi))=true by simp[h1,h2]]
   simp(disch:=try exact dI) only[N1,push_cast,seval]
  ·rw[show (decide (lo<=n)&&decide (n<=hi))=false by simp[h2]]
   simp(disch:=try exact dI) only[N1,push_cast,seval]
 ·rw[show (decide (lo<=n)&&decide (n<=hi))=false by simp[h1]]
  simp(disch:=try exact dI) only[N1,push_cast,seval]
theorem dC {n lo hi:Int}(h:lo<=n/\n<=hi):ae Tryz.prog au 125 [.int .i64 n,.int .i64 lo,.int .i64 hi] (.bool true):=by
 have:=PO n lo hi
 rwa [show (decide (lo<=n)&&decide (n<=hi))=true by simp[h]] at this
theorem n9 {n lo hi:Int}(h:¬ (lo<=n/\n<=hi)):ae Tryz.prog au 125 [.int .i64 n,.int .i64 lo,.int .i64 hi] (.bool false):=by
 have:=PO n lo hi
 rwa [show (decide (lo<=n)&&decide (n<=hi))=false by rw[<- Bool.decide_and];exact decide_eq_false h] at this
theorem MJ {y:Int}(h1:1<=y)(h2:y<=9999):ae Tryz.prog au 176 [.int .i64 y] (.bool (iP y)):=by
 have hi:=dC (n:=y) (lo:=1) (hi:=9999) ⟨h1,h2⟩
 have e4:=gx (a:=y) (b:=4) (by omega)
 have e100:=gx (a:=y) (b:=100) (by omega)
 have e400:=gx (a:=y) (b:=400) (by omega)
 refine ae.intro KG.2 (by simp[KG]) ?_
 unfold iP
 by_cases a:y % 4=0
 ·by_cases b:y % 100=0
  ·by_cases c:y % 400=0
   ·simp only[a,b,c,decide_true,Bool.not_true,Bool.or_true,Bool.and_true]
    simp(disch:=try exact dI) only[KG,e4,e100,e400,push_cast,seval]
    refine ab.pure hi rfl ?_
    simp(disch:=try exact dI) only[e4,e100,e400,a,b,c,push_cast,seval]
   ·simp only[a,b,c,decide_true,decide_false,Bool.not_true,Bool.or_false,Bool.and_false]
    simp(disch:=try exact dI) only[KG,e4,e100,e400,push_cast,seval]
    refine ab.pure hi rfl ?_
    simp(disch:=try exact dI) only[e4,e100,e400,a,b,c,push_cast,seval]
  ·simp only[a,b,decide_true,decide_false,Bool.not_false,Bool.true_or,Bool.and_true]
   simp(disch:=try exact dI) only[KG,e4,e100,e400,push_cast,seval]
   refine ab.pure hi rfl ?_
   simp(disch:=try exact dI) only[e4,e100,e400,a,b,push_cast,seval]
 ·simp only[a,decide_false,Bool.false_and]
  simp(disch:=try exact dI) only[KG,e4,e100,e400,push_cast,seval]
  refine ab.pure hi rfl ?_
  simp(disch:=try exact dI) only[e4,e100,e400,a,push_cast,seval]
theorem KC {y:Int}(h1:1<=y)(h2:y<=100000):ae Tryz.prog au 126 [.int .i64 y] (.int .i64 (d7 y)):=by
 have e4:=gy (a:=y - 1) (b:=4) (by omega)
 have e100:=gy (a:=y - 1) (b:=100) (by omega)
 have e400:=gy (a:=y - 1) (b:=400) (by omega)
 refine ae.intro Rl.2 (by simp[Rl]) ?_
 simp(disch:=try exact dI) only[Rl,d7,e4,e100,e400,push_cast,seval]
open Nat renaming reduceEqDiff->qa,reduceAdd->qb,reduceMul->qc,reduceLeDiff->qd,reduceLT->qe,reduceBEq->qf,reduceSub->qg
open Int renaming reduceToNat->qh,reduceNeg->qi
def Ru (m:Nat):Int:=if m=2 then 28 else if m=4\/m=6\/m=9\/m=11 then 30 else 31
theorem Kc (y:Int)(m:Nat)(h:¬ (m=2/\iP y=true)):mdI y m=Ru m:=by
 unfold mdI Ru
 by_cases h2:m=2
 ·subst h2
  have:¬ iP y=true:=fun hl=>h ⟨rfl,hl⟩
  simp[this]
 ·have:¬ (m:Int)=2:=by omega
  rw[if_neg this,if_neg h2]
  by_cases h4:m=4\/m=6\/m=9\/m=11
  ·rw[if_pos h4,if_pos (by omega)]
  ·rw[if_neg h4,if_neg (by omega)]
theorem Sj (m:Nat)(h1:1<=m)(h2:m<=12):fb false 12 1 (.pv (.agg [.int .i64 31,.int .i64 28,.int .i64 31,.int .i64 30,.int .i64 31,.int .i64 30,.int .i64 31,.int .i64 31,.int .i64 30,.int .i64 31,.int .i64 30,.int .i64 31])) (.pv (.int .i64 ((m:Int) - 1)))=some (.pv (.int .i64 (Ru m))):=by
 have h12:m=1\/m=2\/m=3\/m=4\/m=5\/m=6\/m=7\/m=8\/m=9\/m=10\/m=11\/m=12:=by omega
 rcases h12 with rfl | rfl | rfl | rfl | rfl | rfl | rfl | rfl | rfl | rfl | rfl | rfl<;>rfl
theorem Mz {y:Int}(h1:1<=y)(h2:y<=9999)(m:Nat)(h3:1<=m)(h4:m<=12):ae Tryz.prog au 127 [.int .i64 y,.int .i64 (m:Int)] (.int .i64 (mdI y m)):=by
 have hl:=MJ h1 h2
 have hx:=Sj m h3 h4
 refine ae.intro N0.2 (by simp[N0]) ?_
 by_cases h:m=2
 ·subst h
  cases hb:iP y with
  | true=>
    rw[hb] at hl
    rw[show mdI y ((2:Nat):Int)=29 by simp[mdI,hb]]
    simp(disch:=try exact dI) only[N0,push_cast,↓reduceIte,qa,qb,qc,qd,qe,qf,qg,qh,qi]
    refine ab.pure hl rfl ?_
    simp(disch:=try exact dI) only[push_cast,↓reduceIte,qa,qb,qc,qd,qe,qf,qg,qh,qi]
  | false=>
    rw[hb] at hl
    rw[Kc y 2 (by simp[hb])]
    have hx2:fb false 12 1 (.pv (.agg [.int .i64 31,.int .i64 28,.int .i64 31,.int .i64 30,.int .i64 31,.int .i64 30,.int .i64 31,.int .i64 31,.int .i64 30,.int .i64 31,.int .i64 30,.int .i64 31])) (.pv (.int .i64 (2 - 1)))=some (.pv (.int .i64 28)):=rfl
    rw[show Ru 2=28 from rfl]
    simp(disch:=try exact dI) only[N0,push_cast,↓reduceIte,qa,qb,qc,qd,qe,qf,qg,qh,qi]
    refine ab.pure hl rfl ?_
    simp(disch:=try exact dI) only[hx2,push_cast,↓reduceIte,qa,qb,qc,qd,qe,qf,qg,qh,qi]
 ·rw[Kc y m (by simp[h])]
  simp(disch:=try exact dI) only[N0,hx,push_cast,↓reduceIte,qa,qb,qc,qd,qe,qf,qg,qh,qi]
theorem kW {y:Int}(h1:1<=y)(h2:y<=9999)(m:Nat)(h3:1<=m)(h4:m<=12):ae Tryz.prog au 124 [.int .i64 y,.int .i64 (m:Int)] (.tup [.int .i64 (mdI y m),.int .i64 0]):=by
 have hi1:=dC (n:=y) (lo:=1) (hi:=9999) ⟨h1,h2⟩
 have hi2:=dC (n:=(m:Int)) (lo:=1) (hi:=12) ⟨by omega,by omega⟩
 have hm:=Mz h1 h2 m h3 h4
 refine ae.intro JC.2 (by simp[JC]) ?_
 simp(disch:=try exact dI) only[JC,push_cast,↓reduceIte,qa,qb,qc,qd,qe,qf,qg,qh,qi]
 refine ab.pure hi1 rfl ?_
 simp(disch:=try exact dI) only[push_cast,↓reduceIte,qa,qb,qc,qd,qe,qf,qg,qh,qi]
 refine ab.pure hi2 rfl ?_
 simp(disch:=try exact dI) only[push_cast,↓reduceIte,qa,qb,qc,qd,qe,qf,qg,qh,qi]
 refine ab.pure hm rfl ?_
 simp(disch:=try exact dI) only[push_cast,↓reduceIte,qa,qb,qc,qd,qe,qf,qg,qh,qi]
theorem sQ {y m:Int}(h:¬ (1<=y/\y<=9999/\1<=m/\m<=12)):ae Tryz.prog au 124 [.int .i64 y,.int .i64 m] (.tup [.int .i64 0,.int .i64 17]):=by
 refine ae.intro JC.2 (by simp[JC]) ?_
 by_cases hy:1<=y/\y<=9999
 ·have hi1:=dC (n:=y) (lo:=1) (hi:=9999) hy
  have hi2:=n9 (n:=m) (lo:=1) (hi:=12) (by omega)
  simp(disch:=try exact dI) only[JC,push_cast,↓reduceIte,qa,qb,qc,qd,qe,qf,qg,qh,qi]
  refine ab.pure hi1 rfl ?_
  simp(disch:=try exact dI) only[push_cast,↓reduceIte,qa,qb,qc,qd,qe,qf,qg,qh,qi]
  refine ab.pure hi2 rfl ?_
  simp(disch:=try exact dI) only[push_cast,↓reduceIte,qa,qb,qc,qd,qe,qf,qg,qh,qi]
 ·have hi1:=n9 (n:=y) (lo:=1) (hi:=9999) hy
  simp(disch:=try exact dI) only[JC,push_cast,↓reduceIte,qa,qb,qc,qd,qe,qf,qg,qh,qi]
  refine ab.pure hi1 rfl ?_
  simp(disch:=try exact dI) only[push_cast,↓reduceIte,qa,qb,qc,qd,qe,qf,qg,qh,qi]
theorem Qc {y:Int}{m:Nat}{d:Int}(h:DateOk y m d):ae Tryz.prog au 75 [.int .i64 y,.int .i64 (m:Int),.int .i64 d] (.tup [.int .i64 (iX y m d - 719162),.int .i64 0]):=by
 have hm:=kW h.y1 h.y2 m h.m1 h.m2
 have hi:=dC (n:=d) (lo:=1) (hi:=mdI y m) ⟨h.d1,h.d2⟩
 have hb:=KC h.y1 (by have:=h.y2;omega)
 have hbb:=ig h.y1 (by have:=h.y2;omega)
 have hmd:=dS y m
 have hd1:=h.d1
 have hd2:=h.d2
 have hdr:=ff h
 have hdn:iX y m d=d7 y+dG y (m - 1)+d - 1:=rfl
 refine ae.intro Q75.2 (by simp[Q75]) ?_
 simp(disch:=try exact dI) only[Q75,push_cast,↓reduceIte,qa,qb,qc,qd,qe,qf,qg,qh,qi]
 refine ab.pure hm rfl ?_
 simp(disch:=try exact dI) only[push_cast,↓reduceIte,qa,qb,qc,qd,qe,qf,qg,qh,qi]
 refine ab.pure hi rfl ?_
 simp(disch:=try exact dI) only[push_cast,↓reduceIte,qa,qb,qc,qd,qe,qf,qg,qh,qi]
 refine ab.pure hb rfl ?_
 simp(disch:=try exact dI) only[push_cast,↓reduceIte,qa,qb,qc,qd,qe,qf,qg,qh,qi]
 have e0:((0:Nat):Int)+1=1:=rfl
 have e1:-719162+d7 y+d - 1+dG y 0 = -719162+d7 y+d - 1:=by
  have z:dG y 0=0:=rfl
  omega
 refine aC ([]) (fun k:Nat=>[(10,.pv (.int .i64 (-719162+d7 y+d - 1+dG y k))),(11,.pv (.int .i64 ((k:Int)+1)))]) (fun _=>[]) (fun k=>k<=m - 1) (fun k=>m - 1 - k) (0) ?_;intro e0 σ0 n0 h0;simp(disch:=try exact dI) only[push_cast,↓reduceIte,qa,qb,qc,qd,qe,qf,qg,qh,qi] at h0;obtain⟨rfl,rfl,rfl⟩:=h0;refine⟨?_,?_,?_⟩
 ·simp(disch:=try exact dI) only[e1,Int.zero_add,push_cast,↓reduceIte,qa,qb,qc,qd,qe,qf,qg,qh,qi]
 ·omega
 intro k hk
 have hs0:=cB y k 0
 have z:dG y 0=0:=rfl
 simp only[Nat.zero_add] at hs0
 have hsm:=cB y (m - 1 - k) k
 rw[show k+(m - 1 - k)=m - 1 by omega] at hsm
 by_cases hlt:k<m - 1
 ·have hmk:=Mz h.y1 h.y2 (k+1) (by omega) (by have:=h.m2;omega)
  have hmdk:=dS y ((k+1:Nat):Int)
  have hsk:dG y (k+1)=dG y k+mdI y ((k+1:Nat):Int):=rfl
  rw[show ((k+1:Nat):Int)=(k:Int)+1 by omega] at hmk hmdk hsk
  have hs2:-719162+d7 y+d - 1+dG y (k+1) = -719162+d7 y+d - 1+dG y k+mdI y ((k:Int)+1):=by omega
  simp(disch:=try exact dI) only[push_cast,↓reduceIte,qa,qb,qc,qd,qe,qf,qg,qh,qi]
  refine ab.pure hmk rfl ?_
  simp(disch:=try exact dI) only[push_cast,↓reduceIte,qa,qb,qc,qd,qe,qf,qg,qh,qi]
  exact⟨k+1,aR (by simp(disch:=try exact dI) only[hs2,push_cast,↓reduceIte,qa,qb,qc,qd,qe,qf,qg,qh,qi]),by omega,by omega⟩
 ·have:k=m - 1:=by omega
  subst this
  have hfin:-719162+d7 y+d - 1+dG y (m - 1)=iX y m d - 719162:=by omega
  simp(disch:=try exact dI) only[hfin,push_cast,↓reduceIte,qa,qb,qc,qd,qe,qf,qg,qh,qi]
theorem Qd {y m d:Int}(h:∀ k:Nat,m=k->¬ DateOk y k d):ae Tryz.prog au 75 [.int .i64 y,.int .i64 m,.int .i64 d] (.tup [.int .i64 0,.int .i64 17]):=by
 refine ae.intro Q75.2 (by simp[Q75]) ?_
 by_cases hm:1<=y/\y<=9999/\1<=m/\m<=12
 ·obtain⟨k,rfl⟩:∃ k:Nat,m=k:=⟨m.toNat,by omega⟩
  have hmt:=kW hm.1 hm.2.1 k (by omega) (by omega)
  have hi:=n9 (n:=d) (lo:=1) (hi:=mdI y k) (fun hd=>h k rfl ⟨hm.1,hm.2.1,by omega,by omega,hd.1,hd.2⟩)
  simp(disch:=try exact dI) only[Q75,push_cast,↓reduceIte,qa,qb,qc,qd,qe,qf,qg,qh,qi]
  refine ab.pure hmt rfl ?_
  simp(disch:=try exact dI) only[push_cast,↓reduceIte,qa,qb,qc,qd,qe,qf,qg,qh,qi]
  refine ab.pure hi rfl ?_
  simp(disch:=try exact dI) only[push_cast,↓reduceIte,qa,qb,qc,qd,qe,qf,qg,qh,qi]
 ·have hmf:=sQ hm
  simp(disch:=try exact dI) only[Q75,push_cast,↓reduceIte,qa,qb,qc,qd,qe,qf,qg,qh,qi]
  refine ab.pure hmf rfl ?_
  simp(disch:=try exact dI) only[push_cast,↓reduceIte,qa,qb,qc,qd,qe,qf,qg,qh,qi]
theorem Nt {y:Int}{m:Nat}{d:Int}(h:DateOk y m d):ae Tryz.prog au 91 [.int .i64 (iX y m d - 719162)] (.tup [.int .i64 y,.int .i64 (m:Int),.int .i64 d,.int .i64 0]):=by
 have hdr:=ff h
 have hdb:=qO h
 have hy1:=h.y1
 have hy2:=h.y2
 have hm1:=h.m1
 have hm2:=h.m2
 have hd1:=h.d1
 have hd2:=h.d2
 have hdn:iX y m d=d7 y+dG y (m - 1)+d - 1:=rfl
 obtain⟨n,hn⟩:∃ n,n=iX y m d:=⟨_,rfl⟩
 rw[<- hn] at hdr hdb hdn ⊢
 have hin:=dC (n:=n - 719162) (lo:=-719162) (hi:=2932896) ⟨by omega,by omega⟩
 have hq:=gy (a:=n) (b:=365) (by omega)
 have hs0:=cB y (m - 1) 0
 have z:dG y 0=0:=rfl
 simp only[Nat.zero_add] at hs0
 have hbb:=ig hy1 (by omega)
 have hb365:365*(y - 1)<=d7 y:=by unfold d7;omega
 have e1:n - 719162 - -719162=n:=by omega
 refine ae.intro Q91.2 (by simp[Q91]) ?_
 simp(disch:=try exact dI) only[Q91,push_cast,seval]
 refine ab.pure hin rfl ?_
 have hmin:y<=n / 365+1:=by omega
 have hloop:∀ Y:Int,y<=Y->Y<=9999->(n<d7 Y↔y<Y):=by
  intro Y h1 h2
  constructor
  ·intro h3
   by_cases e:Y=y
   ·subst e;omega
   ·omega
  ·intro h3
   have:=QR h3
   omega
 simp(disch:=try exact dI) only[e1,hq,push_cast,seval]
 refine aC ([]) (fun Y:Int=>[(2,.pv (.int .i64 Y))]) (fun _=>[]) (fun Y=>y<=Y/\Y<=9999) (fun Y=>(Y - y).toNat) (min (n / 365+1) 9999) ?_;intro e0 σ0 n0 h0;simp(disch:=try exact dI) only[push_cast,seval] at h0;obtain⟨rfl,rfl,rfl⟩:=h0;refine⟨?_,?_,?_⟩
 ·exact qsZ
 ·exact⟨by omega,by omega⟩
 rintro Y ⟨g1,g2⟩
 have hbY:=KC (y:=Y) (by omega) (by omega)
 by_cases hY:y<Y
 ·have hgt:=(hloop Y g1 g2).2 hY
  refine zgZ ?_
  refine ab.pure hbY rfl ?_
  refine zgZ ?_
  exact⟨Y - 1,aR qsZ,⟨by omega,by omega⟩,by omega⟩
 ·have:Y=y:=by omega
  subst this
  refine zgZ ?_
  refine ab.pure hbY rfl ?_
  refine zgZ ?_
  refine ab.pure hbY rfl ?_
  refine zgZ ?_
  refine aC ([]) (fun k:Nat=>[(3,.pv (.int .i64 ((k:Int)+1))),(6,.pv (.int .i64 (n - d7 Y - dG Y k)))]) (fun _=>[]) (fun k=>k<=m - 1) (fun k=>m - 1 - k) (0) ?_;intro e0 σ0 n0 h0;simp(disch:=try exact dI) only[push_cast,seval] at h0;obtain⟨rfl,rfl,rfl⟩:=h0;refine⟨?_,?_,?_⟩
  ·simp(disch:=try exact dI) only[z,Int.zero_add,Int.sub_zero,push_cast,seval]
  ·omega
  intro k hk
  have hsm:=cB Y (m - 1 - k) k
  rw[show k+(m - 1 - k)=m - 1 by omega] at hsm
  have hs1:=cB Y k 0
  simp only[Nat.zero_add] at hs1
  have hmk:=Mz hy1 hy2 (k+1) (by omega) (by omega)
  have hmdk:=dS Y ((k+1:Nat):Int)
  have hsk:dG Y (k+1)=dG Y k+mdI Y ((k+1:Nat):Int):=rfl
  rw[show ((k+1:Nat):Int)=(k:Int)+1 by omega] at hmk hmdk hsk
  by_cases hlt:k<m - 1
  ·have hge:mdI Y ((k:Int)+1)<=n - d7 Y - dG Y k:=by
    have hs2:=cB Y (m - 1 - (k+1)) (k+1)
    rw[show k+1+(m - 1 - (k+1))=m - 1 by omega] at hs2
    omega
   have he:n - d7 Y - dG Y (k+1)=n - d7 Y - dG Y k - mdI Y ((k:Int)+1):=by omega
   refine zgZ ?_
   refine ab.pure hmk rfl ?_
   refine zgZ ?_
   refine ab.pure hmk rfl ?_
   refine zgZ ?_
   exact⟨k+1,aR (by simp(disch:=try exact dI) only[he,push_cast,seval]),by omega,by omega⟩
  ·have hkm:k=m - 1:=by omega
   subst hkm
   have em:((m - 1:Nat):Int)+1=(m:Int):=by omega
   have em2:(m:Int) - 1+1=(m:Int):=by omega
   rw[em] at hmk hmdk hsk
   have hnge:¬ mdI Y (m:Int)<=n - d7 Y - dG Y (m - 1):=by omega
   have efin:n - d7 Y - dG Y (m - 1)+1=d:=by omega
   simp(disch:=try exact dI) only[em2,push_cast,seval]
   refine ab.pure hmk rfl ?_
   simp(disch:=try exact dI) only[em2,efin,push_cast,seval]
def isD (c:UInt8):Bool:=decide (48<=c.toNat)&&decide (c.toNat<=57)
def io:Int->List UInt8->Int
 | n,[]=>n
 | n,c::r=>io (10*n+((c.toNat:Int) - 48)) r
theorem jZ (c:UInt8):∀ (l:List UInt8) (n:Int),io n (l++[c])=10*io n l+((c.toNat:Int) - 48)
 | [],n=>rfl
 | d::l,n=>by simp only[List.cons_append,io];exact jZ c l _
theorem lh {c:UInt8}(h:isD c=true):48<=c.toNat/\c.toNat<=57:=by simpa[isD] using h
theorem cN:∀ (l:List UInt8) (n:Int),0<=n->l.all isD=true->0<=io n l/\io n l+1<=(n+1)*((10 ^ l.length:Nat):Int)
 | [],n,h0,_=>by simp[io];omega
 | c::r,n,h0,hd=>by
   simp only[List.all_cons,Bool.and_eq_true] at hd
   have hc:=lh hd.1
   have ih:=cN r (10*n+((c.toNat:Int) - 48)) (by omega) hd.2
   refine⟨ih.1,Int.le_trans ih.2 ?_⟩
   rw[List.length_cons,Nat.pow_succ]
   have hp:(0:Int)<=((10 ^ r.length:Nat):Int):=Int.natCast_nonneg _
   have h1:(10*n+((c.toNat:Int) - 48)+1)*((10 ^ r.length:Nat):Int)<=((n+1)*10)*((10 ^ r.length:Nat):Int):=Int.mul_le_mul_of_nonneg_right (by omega) hp
   have h2:((n+1)*10)*((10 ^ r.length:Nat):Int)=(n+1)*((10 ^ r.length*10:Nat):Int):=by
    rw[Int.mul_assoc,Int.natCast_mul,Int.mul_comm (10:Int)];rfl
   exact Int.le_trans h1 (Int.le_of_eq h2)
theorem P7 {l:List UInt8}(h:l.all isD=true)(hl:l.length<=9):0<=io 0 l/\io 0 l<=999999999:=by
 have:=cN l 0 (by omega) h
 have hp:10 ^ l.length<=10 ^ 9:=Nat.pow_le_pow_right (by omega) hl
 omega
def sJ (k:Nat)(s:List UInt8):Option (Int×List UInt8):=if k<=s.length/\(s.take k).all isD=true then some (io 0 (s.take k),s.drop k) else none
def J9 (s:List UInt8):Option (Int×List UInt8)->PV
 | some p=>.tup [.int .i64 p.1,.str p.2,.bool true]
 | none=>.tup [.int .i64 0,.str s,.bool false]
theorem uT (s:List UInt8)(k:Nat)(hk:k<=8):ae Tryz.prog au 77 [.str s,.int .i64 (k:Int)] (J9 s (sJ k s)):=by
 refine ae.intro Q77.2 (by simp[Q77]) ?_
 by_cases hl:s.length<k
 ·rw[show sJ k s=none from if_neg (by omega)]
  simp(disch:=try exact dI) only[Q77,J9,push_cast,seval]
 ·obtain⟨R,hR⟩:∃ R,R=sJ k s:=⟨_,rfl⟩
  rw[<- hR]
  simp(disch:=try exact dI) only[Q77,push_cast,seval]
  refine aC ([]) (fun i:Nat=>[(4,.pv (.int .i64 (io 0 (s.take i)))),(14,.pv (.int .i64 (i:Int)))]) (fun _=>[]) (fun i=>i<=k/\(s.take i).all isD=true) (fun i=>k - i) (0) ?_;intro e0 σ0 n0 h0;simp(disch:=try exact dI) only[push_cast,seval] at h0;obtain⟨rfl,rfl,rfl⟩:=h0;refine⟨?_,?_,?_⟩
  ·refine zgZ ?_
   rfl
  ·exact⟨by omega,by simp⟩
  rintro i ⟨hi,hd⟩
  have hdl:=P7 hd (by simp;omega)
  by_cases hlt:i<k
  ·obtain⟨c,hc⟩:∃ c,s[i]? = some c:=⟨_,List.getElem?_eq_getElem (by omega)⟩
   have hcl:=c.toNat_lt
   have hw:=jJ (n:=(c.toNat:Int)) (by omega) (by omega)
   have hts:=aG hc
   by_cases hcd:isD c=true
   ·have hb:=lh hcd
    have hin:=dC (n:=(c.toNat:Int)) (lo:=48) (hi:=57) ⟨by omega,by omega⟩
    have hw2:=jJ (n:=(c.toNat:Int) - 48) (by omega) (by omega)
    have hdv:io 0 (s.take (i+1))=10*io 0 (s.take i)+((c.toNat:Int) - 48):=by rw[hts,jZ]
    have hd2:(s.take (i+1)).all isD=true:=by rw[hts,List.all_append,hd];simp[hcd]
    simp(disch:=try exact dI) only[hc,aq,hw,push_cast,seval]
    refine ab.pure hin rfl ?_
    simp(disch:=try exact dI) only[hc,aq,hw2,push_cast,seval]
    exact⟨i+1,aR (by simp(disch:=try exact dI) only[hdv,push_cast,seval]),⟨by omega,hd2⟩,by omega⟩
   ·have hin:=n9 (n:=(c.toNat:Int)) (lo:=48) (hi:=57) (fun h=>hcd (by simp[isD];omega))
    have hnone:R=none:=by
     rw[hR]
     refine if_neg fun h=>hcd ?_
     exact List.all_eq_true.1 h.2 c (List.mem_of_getElem? (i:=i) (by rw[List.getElem?_take_of_lt hlt];exact hc))
    rw[hnone]
    simp(disch:=try exact dI) only[hc,aq,hw,push_cast,seval]
    refine ab.pure hin rfl ?_
    simp(disch:=try exact dI) only[J9,push_cast,seval]
  ·have hik:i=k:=by omega
   subst hik
   have hsome:R=some (io 0 (s.take i),s.drop i):=by rw[hR];exact if_pos ⟨by omega,hd⟩
   rw[hsome]
   simp(disch:=try exact dI) only[J9,List.take_length,push_cast,seval]
theorem DO (s p:List UInt8):ae Tryz.prog au 177 [.str s,.str p] (.bool (decide (s.take p.length=p/\p.length<=s.length))):=by
 refine ae.intro NX.2 (by simp[NX]) ?_
 by_cases hl:p.length<=s.length
 ·by_cases he:s.take p.length=p
  ·rw[show decide (s.take p.length=p/\p.length<=s.length)=true from decide_eq_true ⟨he,hl⟩]
   simp(disch:=try exact dI) only[NX,he,push_cast,seval]
  ·rw[show decide (s.take p.length=p/\p.length<=s.length)=false from decide_eq_false (fun h=>he h.1)]
   simp(disch:=try exact dI) only[NX,he,push_cast,seval]
 ·rw[show decide (s.take p.length=p/\p.length<=s.length)=false from decide_eq_false (fun h=>hl h.2)]
  simp(disch:=try exact dI) only[NX,push_cast,seval]
end Go.Proofs.YtbaaokocnegdoaaGreatDoor
