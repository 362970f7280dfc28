/- A part. -/
import Derived.Test.YtamoeblcphjbaaaGreatDoorBlLC1
import Derived.Test.YtamoeblcphjbaaaGreatDoorBlF
set_option linter.unusedVariables false
set_option linter.unusedSimpArgs false
set_option maxRecDepth 100000
open Nat renaming zero_add->UI,pow_succ->Vq,pow_le_pow_right->Vd,mul_comm->Vm
open List renaming replicate->U4
open Int renaming toNat_natCast->VB
namespace Go.Proofs.YtamoeblcphjbaaaGreatDoor
open Go Go.Ab
attribute [local irreducible] vc
theorem PA (n lo hi:Int):au Tryz.prog aH 154 [.int .i64 n,.int .i64 lo,.int .i64 hi] (.bool (decide (lo<=n)&&decide (n<=hi))):=by
 refine au.intro QR.2 (by simp[QR]) ?_
 by_cases h1:lo<=n
 ·by_cases h2:n<=hi
  ·rw[show (decide (lo<=n)&&decide (n<=hi))=true by simp[h1,h2]]
   simp(disch:=try exact dI) only[QR,push_cast,seval]
  ·rw[show (decide (lo<=n)&&decide (n<=hi))=false by simp[h2]]
   simp(disch:=try exact dI) only[QR,push_cast,seval]
 ·rw[show (decide (lo<=n)&&decide (n<=hi))=false by simp[h1]]
  simp(disch:=try exact dI) only[QR,push_cast,seval]
theorem ep {n lo hi:Int}(h:lo<=n/\n<=hi):au Tryz.prog aH 154 [.int .i64 n,.int .i64 lo,.int .i64 hi] (.bool true):=by
 have:=PA n lo hi
 rwa [show (decide (lo<=n)&&decide (n<=hi))=true by simp[h]] at this
theorem oF {n lo hi:Int}(h:¬ (lo<=n/\n<=hi)):au Tryz.prog aH 154 [.int .i64 n,.int .i64 lo,.int .i64 hi] (.bool false):=by
 have:=PA n lo hi
 rwa [show (decide (lo<=n)&&decide (n<=hi))=false by rw[<- Bool.decide_and];exact decide_eq_false h] at this
theorem L0 {y:Int}(h1:1<=y)(h2:y<=9999):au Tryz.prog aH 205 [.int .i64 y] (.bool (js y)):=by
 have hi:=ep (n:=y) (lo:=1) (hi:=9999) ⟨h1,h2⟩
 have e4:=jG (a:=y) (b:=4) (by omega)
 have e100:=jG (a:=y) (b:=100) (by omega)
 have e400:=jG (a:=y) (b:=400) (by omega)
 refine au.intro NT.2 (by simp[NT]) ?_
 unfold js
 by_cases a:y % 4=0
 ·by_cases b:y % 100=0
  ·by_cases c:y % 400=0
   ·simp only[a,b,c,decide_true,Bool.not_true,Bool.or_true,Bool.and_true]
    simp(disch:=try exact dI) only[NT,e4,e100,e400,push_cast,seval]
    refine ae.pure hi rfl ?_
    simp(disch:=try exact dI) only[e4,e100,e400,a,b,c,push_cast,seval]
   ·simp only[a,b,c,decide_true,decide_false,Bool.not_true,Bool.or_false,Bool.and_false]
    simp(disch:=try exact dI) only[NT,e4,e100,e400,push_cast,seval]
    refine ae.pure hi rfl ?_
    simp(disch:=try exact dI) only[e4,e100,e400,a,b,c,push_cast,seval]
  ·simp only[a,b,decide_true,decide_false,Bool.not_false,Bool.true_or,Bool.and_true]
   simp(disch:=try exact dI) only[NT,e4,e100,e400,push_cast,seval]
   refine ae.pure hi rfl ?_
   simp(disch:=try exact dI) only[e4,e100,e400,a,b,push_cast,seval]
 ·simp only[a,decide_false,Bool.false_and]
  simp(disch:=try exact dI) only[NT,e4,e100,e400,push_cast,seval]
  refine ae.pure hi rfl ?_
  simp(disch:=try exact dI) only[e4,e100,e400,a,push_cast,seval]
theorem JF {y:Int}(h1:1<=y)(h2:y<=100000):au Tryz.prog aH 155 [.int .i64 y] (.int .i64 (eR y)):=by
 have e4:=ik (a:=y - 1) (b:=4) (by omega)
 have e100:=ik (a:=y - 1) (b:=100) (by omega)
 have e400:=ik (a:=y - 1) (b:=400) (by omega)
 refine au.intro Tl.2 (by simp[Tl]) ?_
 simp(disch:=try exact dI) only[Tl,eR,e4,e100,e400,push_cast,seval]
open Nat renaming reduceEqDiff->qa,reduceAdd->qb,reduceMul->qc,reduceLeDiff->qd,reduceLT->qe,reduceBEq->qf,reduceSub->qg
open Int renaming reduceToNat->qh,reduceNeg->qi
def QZ (m:Nat):Int:=if m=2 then 28 else if m=4\/m=6\/m=9\/m=11 then 30 else 31
theorem Jf (y:Int)(m:Nat)(h:¬ (m=2/\js y=true)):mdI y m=QZ m:=by
 unfold mdI QZ
 by_cases h2:m=2
 ·subst h2
  have:¬ js y=true:=fun hl=>h ⟨rfl,hl⟩
  simp[this]
 ·have:¬ (m:Int)=2:=by omega
  rw[if_neg this,if_neg h2]
  by_cases h4:m=4\/m=6\/m=9\/m=11
  ·rw[if_pos h4,if_pos (by omega)]
  ·rw[if_neg h4,if_neg (by omega)]
theorem Sd (m:Nat)(h1:1<=m)(h2:m<=12):eW false 12 1 (.pv (.agg [.int .i64 31,.int .i64 28,.int .i64 31,.int .i64 30,.int .i64 31,.int .i64 30,.int .i64 31,.int .i64 31,.int .i64 30,.int .i64 31,.int .i64 30,.int .i64 31])) (.pv (.int .i64 ((m:Int) - 1)))=some (.pv (.int .i64 (QZ m))):=by
 have h12:m=1\/m=2\/m=3\/m=4\/m=5\/m=6\/m=7\/m=8\/m=9\/m=10\/m=11\/m=12:=by omega
 rcases h12 with rfl | rfl | rfl | rfl | rfl | rfl | rfl | rfl | rfl | rfl | rfl | rfl<;>rfl
theorem LJ {y:Int}(h1:1<=y)(h2:y<=9999)(m:Nat)(h3:1<=m)(h4:m<=12):au Tryz.prog aH 156 [.int .i64 y,.int .i64 (m:Int)] (.int .i64 (mdI y m)):=by
 have hl:=L0 h1 h2
 have hx:=Sd m h3 h4
 refine au.intro QQ.2 (by simp[QQ]) ?_
 by_cases h:m=2
 ·subst h
  cases hb:js y with
  | true=>
    rw[hb] at hl
    rw[show mdI y ((2:Nat):Int)=29 by simp[mdI,hb]]
    simp(disch:=try exact dI) only[QQ,push_cast,↓reduceIte,qa,qb,qc,qd,qe,qf,qg,qh,qi]
    refine ae.pure hl rfl ?_
    simp(disch:=try exact dI) only[push_cast,↓reduceIte,qa,qb,qc,qd,qe,qf,qg,qh,qi]
  | false=>
    rw[hb] at hl
    rw[Jf y 2 (by simp[hb])]
    have hx2:eW false 12 1 (.pv (.agg [.int .i64 31,.int .i64 28,.int .i64 31,.int .i64 30,.int .i64 31,.int .i64 30,.int .i64 31,.int .i64 31,.int .i64 30,.int .i64 31,.int .i64 30,.int .i64 31])) (.pv (.int .i64 (2 - 1)))=some (.pv (.int .i64 28)):=rfl
    rw[show QZ 2=28 from rfl]
    simp(disch:=try exact dI) only[QQ,push_cast,↓reduceIte,qa,qb,qc,qd,qe,qf,qg,qh,qi]
    refine ae.pure hl rfl ?_
    simp(disch:=try exact dI) only[hx2,push_cast,↓reduceIte,qa,qb,qc,qd,qe,qf,qg,qh,qi]
 ·rw[Jf y m (by simp[h])]
  simp(disch:=try exact dI) only[QQ,hx,push_cast,↓reduceIte,qa,qb,qc,qd,qe,qf,qg,qh,qi]
theorem lG {y:Int}(h1:1<=y)(h2:y<=9999)(m:Nat)(h3:1<=m)(h4:m<=12):au Tryz.prog aH 223 [.int .i64 y,.int .i64 (m:Int)] (.tup [.int .i64 (mdI y m),.int .i64 0]):=by
 have hi1:=ep (n:=y) (lo:=1) (hi:=9999) ⟨h1,h2⟩
 have hi2:=ep (n:=(m:Int)) (lo:=1) (hi:=12) ⟨by omega,by omega⟩
 have hm:=LJ h1 h2 m h3 h4
 refine au.intro Nf.2 (by simp[Nf]) ?_
 simp(disch:=try exact dI) only[Nf,push_cast,↓reduceIte,qa,qb,qc,qd,qe,qf,qg,qh,qi]
 refine ae.pure hi1 rfl ?_
 simp(disch:=try exact dI) only[push_cast,↓reduceIte,qa,qb,qc,qd,qe,qf,qg,qh,qi]
 refine ae.pure hi2 rfl ?_
 simp(disch:=try exact dI) only[push_cast,↓reduceIte,qa,qb,qc,qd,qe,qf,qg,qh,qi]
 refine ae.pure hm rfl ?_
 simp(disch:=try exact dI) only[push_cast,↓reduceIte,qa,qb,qc,qd,qe,qf,qg,qh,qi]
theorem sO {y m:Int}(h:¬ (1<=y/\y<=9999/\1<=m/\m<=12)):au Tryz.prog aH 223 [.int .i64 y,.int .i64 m] (.tup [.int .i64 0,.int .i64 17]):=by
 refine au.intro Nf.2 (by simp[Nf]) ?_
 by_cases hy:1<=y/\y<=9999
 ·have hi1:=ep (n:=y) (lo:=1) (hi:=9999) hy
  have hi2:=oF (n:=m) (lo:=1) (hi:=12) (by omega)
  simp(disch:=try exact dI) only[Nf,push_cast,↓reduceIte,qa,qb,qc,qd,qe,qf,qg,qh,qi]
  refine ae.pure hi1 rfl ?_
  simp(disch:=try exact dI) only[push_cast,↓reduceIte,qa,qb,qc,qd,qe,qf,qg,qh,qi]
  refine ae.pure hi2 rfl ?_
  simp(disch:=try exact dI) only[push_cast,↓reduceIte,qa,qb,qc,qd,qe,qf,qg,qh,qi]
 ·have hi1:=oF (n:=y) (lo:=1) (hi:=9999) hy
  simp(disch:=try exact dI) only[Nf,push_cast,↓reduceIte,qa,qb,qc,qd,qe,qf,qg,qh,qi]
  refine ae.pure hi1 rfl ?_
  simp(disch:=try exact dI) only[push_cast,↓reduceIte,qa,qb,qc,qd,qe,qf,qg,qh,qi]
theorem P2 {y:Int}{m:Nat}{d:Int}(h:DateOk y m d):au Tryz.prog aH 191 [.int .i64 y,.int .i64 (m:Int),.int .i64 d] (.tup [.int .i64 (kz y m d - 719162),.int .i64 0]):=by
 have hm:=lG h.y1 h.y2 m h.m1 h.m2
 have hi:=ep (n:=d) (lo:=1) (hi:=mdI y m) ⟨h.d1,h.d2⟩
 have hb:=JF h.y1 (by have:=h.y2;omega)
 have hbb:=iY h.y1 (by have:=h.y2;omega)
 have hmd:=fU y m
 have hd1:=h.d1
 have hd2:=h.d2
 have hdr:=fZ h
 have hdn:kz y m d=eR y+ew y (m - 1)+d - 1:=rfl
 refine au.intro Ng.2 (by simp[Ng]) ?_
 simp(disch:=try exact dI) only[Ng,push_cast,↓reduceIte,qa,qb,qc,qd,qe,qf,qg,qh,qi]
 refine ae.pure hm rfl ?_
 simp(disch:=try exact dI) only[push_cast,↓reduceIte,qa,qb,qc,qd,qe,qf,qg,qh,qi]
 refine ae.pure hi rfl ?_
 simp(disch:=try exact dI) only[push_cast,↓reduceIte,qa,qb,qc,qd,qe,qf,qg,qh,qi]
 refine ae.pure hb rfl ?_
 simp(disch:=try exact dI) only[push_cast,↓reduceIte,qa,qb,qc,qd,qe,qf,qg,qh,qi]
 have e0:((0:Nat):Int)+1=1:=rfl
 have e1:-719162+eR y+d - 1+ew y 0 = -719162+eR y+d - 1:=by
  have z:ew y 0=0:=rfl
  omega
 refine aK ([]) (fun k:Nat=>[(10,.pv (.int .i64 (-719162+eR y+d - 1+ew y k))),(11,.pv (.int .i64 ((k:Int)+1)))]) (fun _=>[]) (fun k=>k<=m - 1) (fun k=>m - 1 - k) (0) ?_;intro e0 σ0 n0 h0;simp(disch:=try exact dI) only[push_cast,↓reduceIte,qa,qb,qc,qd,qe,qf,qg,qh,qi] at h0;obtain⟨rfl,rfl,rfl⟩:=h0;refine⟨?_,?_,?_⟩
 ·simp(disch:=try exact dI) only[e1,Int.zero_add,push_cast,↓reduceIte,qa,qb,qc,qd,qe,qf,qg,qh,qi]
 ·omega
 intro k hk
 have hs0:=dB y k 0
 have z:ew y 0=0:=rfl
 simp only[UI] at hs0
 have hsm:=dB y (m - 1 - k) k
 rw[show k+(m - 1 - k)=m - 1 by omega] at hsm
 by_cases hlt:k<m - 1
 ·have hmk:=LJ h.y1 h.y2 (k+1) (by omega) (by have:=h.m2;omega)
  have hmdk:=fU y ((k+1:Nat):Int)
  have hsk:ew y (k+1)=ew y k+mdI y ((k+1:Nat):Int):=rfl
  rw[show ((k+1:Nat):Int)=(k:Int)+1 by omega] at hmk hmdk hsk
  have hs2:-719162+eR y+d - 1+ew y (k+1) = -719162+eR y+d - 1+ew y k+mdI y ((k:Int)+1):=by omega
  simp(disch:=try exact dI) only[push_cast,↓reduceIte,qa,qb,qc,qd,qe,qf,qg,qh,qi]
  refine ae.pure hmk rfl ?_
  simp(disch:=try exact dI) only[push_cast,↓reduceIte,qa,qb,qc,qd,qe,qf,qg,qh,qi]
  exact⟨k+1,bu (by simp(disch:=try exact dI) only[hs2,push_cast,↓reduceIte,qa,qb,qc,qd,qe,qf,qg,qh,qi]),by omega,by omega⟩
 ·have:k=m - 1:=by omega
  subst this
  have hfin:-719162+eR y+d - 1+ew y (m - 1)=kz y m d - 719162:=by omega
  simp(disch:=try exact dI) only[hfin,push_cast,↓reduceIte,qa,qb,qc,qd,qe,qf,qg,qh,qi]
theorem P3 {y m d:Int}(h:∀ k:Nat,m=k->¬ DateOk y k d):au Tryz.prog aH 191 [.int .i64 y,.int .i64 m,.int .i64 d] (.tup [.int .i64 0,.int .i64 17]):=by
 refine au.intro Ng.2 (by simp[Ng]) ?_
 by_cases hm:1<=y/\y<=9999/\1<=m/\m<=12
 ·obtain⟨k,rfl⟩:∃ k:Nat,m=k:=⟨m.toNat,by omega⟩
  have hmt:=lG hm.1 hm.2.1 k (by omega) (by omega)
  have hi:=oF (n:=d) (lo:=1) (hi:=mdI y k) (fun hd=>h k rfl ⟨hm.1,hm.2.1,by omega,by omega,hd.1,hd.2⟩)
  simp(disch:=try exact dI) only[Ng,push_cast,↓reduceIte,qa,qb,qc,qd,qe,qf,qg,qh,qi]
  refine ae.pure hmt rfl ?_
  simp(disch:=try exact dI) only[push_cast,↓reduceIte,qa,qb,qc,qd,qe,qf,qg,qh,qi]
  refine ae.pure hi rfl ?_
  simp(disch:=try exact dI) only[push_cast,↓reduceIte,qa,qb,qc,qd,qe,qf,qg,qh,qi]
 ·have hmf:=sO hm
  simp(disch:=try exact dI) only[Ng,push_cast,↓reduceIte,qa,qb,qc,qd,qe,qf,qg,qh,qi]
  refine ae.pure hmf rfl ?_
  simp(disch:=try exact dI) only[push_cast,↓reduceIte,qa,qb,qc,qd,qe,qf,qg,qh,qi]
theorem MO {y:Int}{m:Nat}{d:Int}(h:DateOk y m d):au Tryz.prog aH 89 [.int .i64 (kz y m d - 719162)] (.tup [.int .i64 y,.int .i64 (m:Int),.int .i64 d,.int .i64 0]):=by
 have hdr:=fZ h
 have hdb:=rg h
 have hy1:=h.y1
 have hy2:=h.y2
 have hm1:=h.m1
 have hm2:=h.m2
 have hd1:=h.d1
 have hd2:=h.d2
 have hdn:kz y m d=eR y+ew y (m - 1)+d - 1:=rfl
 obtain⟨n,hn⟩:∃ n,n=kz y m d:=⟨_,rfl⟩
 rw[<- hn] at hdr hdb hdn ⊢
 have hin:=ep (n:=n - 719162) (lo:=-719162) (hi:=2932896) ⟨by omega,by omega⟩
 have hq:=ik (a:=n) (b:=365) (by omega)
 have hs0:=dB y (m - 1) 0
 have z:ew y 0=0:=rfl
 simp only[UI] at hs0
 have hbb:=iY hy1 (by omega)
 have hb365:365*(y - 1)<=eR y:=by unfold eR;omega
 have e1:n - 719162 - -719162=n:=by omega
 refine au.intro Q89.2 (by simp[Q89]) ?_
 simp(disch:=try exact dI) only[Q89,push_cast,seval]
 refine ae.pure hin rfl ?_
 have hmin:y<=n / 365+1:=by omega
 have hloop:∀ Y:Int,y<=Y->Y<=9999->(n<eR Y↔y<Y):=by
  intro Y h1 h2
  constructor
  ·intro h3
   by_cases e:Y=y
   ·subst e;omega
   ·omega
  ·intro h3
   have:=Qv h3
   omega
 simp(disch:=try exact dI) only[e1,hq,push_cast,seval]
 refine aK ([]) (fun Y:Int=>[(2,.pv (.int .i64 Y))]) (fun _=>[]) (fun Y=>y<=Y/\Y<=9999) (fun Y=>(Y - y).toNat) (min (n / 365+1) 9999) ?_;intro e0 σ0 n0 h0;simp(disch:=try exact dI) only[push_cast,seval] at h0;obtain⟨rfl,rfl,rfl⟩:=h0;refine⟨?_,?_,?_⟩
 ·exact qsZ
 ·exact⟨by omega,by omega⟩
 rintro Y ⟨g1,g2⟩
 have hbY:=JF (y:=Y) (by omega) (by omega)
 by_cases hY:y<Y
 ·have hgt:=(hloop Y g1 g2).2 hY
  refine zgZ ?_
  refine ae.pure hbY rfl ?_
  refine zgZ ?_
  exact⟨Y - 1,bu qsZ,⟨by omega,by omega⟩,by omega⟩
 ·have:Y=y:=by omega
  subst this
  refine zgZ ?_
  refine ae.pure hbY rfl ?_
  refine zgZ ?_
  refine ae.pure hbY rfl ?_
  refine zgZ ?_
  refine aK ([]) (fun k:Nat=>[(3,.pv (.int .i64 ((k:Int)+1))),(6,.pv (.int .i64 (n - eR Y - ew Y k)))]) (fun _=>[]) (fun k=>k<=m - 1) (fun k=>m - 1 - k) (0) ?_;intro e0 σ0 n0 h0;simp(disch:=try exact dI) only[push_cast,seval] at h0;obtain⟨rfl,rfl,rfl⟩:=h0;refine⟨?_,?_,?_⟩
  ·simp(disch:=try exact dI) only[z,Int.zero_add,Int.sub_zero,push_cast,seval]
  ·omega
  intro k hk
  have hsm:=dB Y (m - 1 - k) k
  rw[show k+(m - 1 - k)=m - 1 by omega] at hsm
  have hs1:=dB Y k 0
  simp only[UI] at hs1
  have hmk:=LJ hy1 hy2 (k+1) (by omega) (by omega)
  have hmdk:=fU Y ((k+1:Nat):Int)
  have hsk:ew Y (k+1)=ew Y k+mdI Y ((k+1:Nat):Int):=rfl
  rw[show ((k+1:Nat):Int)=(k:Int)+1 by omega] at hmk hmdk hsk
  by_cases hlt:k<m - 1
  ·have hge:mdI Y ((k:Int)+1)<=n - eR Y - ew Y k:=by
    have hs2:=dB Y (m - 1 - (k+1)) (k+1)
    rw[show k+1+(m - 1 - (k+1))=m - 1 by omega] at hs2
    omega
   have he:n - eR Y - ew Y (k+1)=n - eR Y - ew Y k - mdI Y ((k:Int)+1):=by omega
   refine zgZ ?_
   refine ae.pure hmk rfl ?_
   refine zgZ ?_
   refine ae.pure hmk rfl ?_
   refine zgZ ?_
   exact⟨k+1,bu (by simp(disch:=try exact dI) only[he,push_cast,seval]),by omega,by omega⟩
  ·have hkm:k=m - 1:=by omega
   subst hkm
   have em:((m - 1:Nat):Int)+1=(m:Int):=by omega
   have em2:(m:Int) - 1+1=(m:Int):=by omega
   rw[em] at hmk hmdk hsk
   have hnge:¬ mdI Y (m:Int)<=n - eR Y - ew Y (m - 1):=by omega
   have efin:n - eR Y - ew Y (m - 1)+1=d:=by omega
   simp(disch:=try exact dI) only[em2,push_cast,seval]
   refine ae.pure hmk rfl ?_
   simp(disch:=try exact dI) only[em2,efin,push_cast,seval]
def isD (c:UInt8):Bool:=decide (48<=c.toNat)&&decide (c.toNat<=57)
def ml:Int->List UInt8->Int
 | n,[]=>n
 | n,c::r=>ml (10*n+((c.toNat:Int) - 48)) r
theorem oX (c:UInt8):∀ (l:List UInt8) (n:Int),ml n (l++[c])=10*ml n l+((c.toNat:Int) - 48)
 | [],n=>rfl
 | d::l,n=>by simp only[List.cons_append,ml];exact oX c l _
theorem lM {c:UInt8}(h:isD c=true):48<=c.toNat/\c.toNat<=57:=by simpa[isD] using h
theorem dH:∀ (l:List UInt8) (n:Int),0<=n->l.all isD=true->0<=ml n l/\ml n l+1<=(n+1)*((10 ^ l.length:Nat):Int)
 | [],n,h0,_=>by simp[ml];omega
 | c::r,n,h0,hd=>by
   simp only[List.all_cons,Bool.and_eq_true] at hd
   have hc:=lM hd.1
   have ih:=dH r (10*n+((c.toNat:Int) - 48)) (by omega) hd.2
   refine⟨ih.1,Int.le_trans ih.2 ?_⟩
   rw[List.length_cons,Vq]
   have hp:(0:Int)<=((10 ^ r.length:Nat):Int):=Int.natCast_nonneg _
   have h1:(10*n+((c.toNat:Int) - 48)+1)*((10 ^ r.length:Nat):Int)<=((n+1)*10)*((10 ^ r.length:Nat):Int):=Int.mul_le_mul_of_nonneg_right (by omega) hp
   have h2:((n+1)*10)*((10 ^ r.length:Nat):Int)=(n+1)*((10 ^ r.length*10:Nat):Int):=by
    rw[Int.mul_assoc,Int.natCast_mul,Int.mul_comm (10:Int)];rfl
   exact Int.le_trans h1 (Int.le_of_eq h2)
theorem P0 {l:List UInt8}(h:l.all isD=true)(hl:l.length<=9):0<=ml 0 l/\ml 0 l<=999999999:=by
 have:=dH l 0 (by omega) h
 have hp:10 ^ l.length<=10 ^ 9:=Vd (by omega) hl
 omega
def xJ (k:Nat)(s:List UInt8):Option (Int×List UInt8):=if k<=s.length/\(s.take k).all isD=true then some (ml 0 (s.take k),s.drop k) else none
def Jb (s:List UInt8):Option (Int×List UInt8)->PV
 | some p=>.tup [.int .i64 p.1,.str p.2,.bool true]
 | none=>.tup [.int .i64 0,.str s,.bool false]
theorem pI:∀ k:Nat,Lib.repeatL [48] k=U4 k 48
 | 0=>rfl
 | k+1=>by rw[Lib.repeatL,pI k];rfl
theorem uz (k:Nat)(h:k<=17):au Tryz.prog aH 88 [.str [48],.int .i64 (k:Int)] (.str (U4 k 48)):=by
 have h1:=pH [48] (k:Int) (by omega) (by omega) (by simp;omega)
 rw[VB,pI] at h1;exact h1
def bQ:Nat->Nat->List UInt8
 | 0,_=>[]
 | k+1,n=>bQ k (n / 10)++[UInt8.ofNat (48+n % 10)]
theorem bG:∀ (k n:Nat),(bQ k n).length=k
 | 0,_=>rfl
 | k+1,n=>by simp[bQ,bG k]
theorem qj:∀ k:Nat,bQ k 0=U4 k 48
 | 0=>rfl
 | k+1=>by rw[bQ,show 0 / 10=0 from rfl,qj k,List.replicate_succ'];rfl
theorem fc:∀ (k f n:Nat),n<10 ^ f->n<10 ^ (k+1)->0<f->U4 (k+1 - (cP f n).length) 48++cP f n=bQ (k+1) n
 | k,0,n,_,_,h=>absurd h (by omega)
 | k,f+1,n,hf,hk,_=>by
   rw[cP]
   by_cases h:n<10
   ·rw[if_pos h,bQ,show n / 10=0 by omega,qj,show n % 10=n by omega]
    simp
   ·rw[if_neg h]
    cases k with
    | zero=>simp at hk;omega
    | succ k=>
      have hf':n / 10<10 ^ f:=by rw[Vq] at hf;exact Nat.div_lt_of_lt_mul (by rw[Vm];exact hf)
      have hk':n / 10<10 ^ (k+1):=by rw[Vq] at hk;exact Nat.div_lt_of_lt_mul (by rw[Vm];exact hk)
      have h0:0<f:=by
       cases f with
       | zero=>simp at hf;omega
       | succ f=>omega
      have ih:=fc k f (n / 10) hf' hk' h0
      rw[bQ,<- ih,List.length_append,List.append_assoc]
      simp
theorem GA:∀ (l:List UInt8),l.all isD=true->bQ l.length (ml 0 l).toNat=l:=by
 intro l
 induction hn:l.length generalizing l with
 | zero=>intro _;simp[List.length_eq_zero_iff.1 hn,bQ]
 | succ k ih=>
   intro h
   obtain⟨a,c,rfl⟩:∃ a c,l=a++[c]:=by
    refine⟨l.dropLast,l.getLast (by intro e;simp[e] at hn),(List.dropLast_concat_getLast _).symm⟩
   rw[List.all_append,Bool.and_eq_true] at h
   have hc:=lM (c:=c) (by simpa using h.2)
   have h0:=(dH a 0 (by omega) h.1).1
   rw[oX,bQ]
   have e1:(10*ml 0 a+((c.toNat:Int) - 48)).toNat / 10=(ml 0 a).toNat:=by omega
   have e2:48+(10*ml 0 a+((c.toNat:Int) - 48)).toNat % 10=c.toNat:=by omega
   rw[e1,e2,ih a (by simpa using hn) h.1]
   simp
theorem CZ {n:Int}{k:Nat}(h0:0<=n)(hk:k<=16)(h1:n.toNat<10 ^ (k+1)):U4 (k+1 - (gR n).length) 48++gR n=bQ (k+1) n.toNat:=by
 unfold gR
 rw[if_neg (by omega)]
 exact fc k 20 n.toNat (Nat.lt_of_lt_of_le h1 (Vd (by omega) (by omega))) h1 (by omega)
theorem eX {n:Int}{k:Nat}(h0:0<=n)(hk:k<=8)(h1:n.toNat<10 ^ (k+1)):au Tryz.prog aH 90 [.int .i64 n,.int .i64 ((k+1:Nat):Int)] (.str (bQ (k+1) n.toNat)):=by
 have hp:10 ^ (k+1)<=10 ^ 9:=Vd (by omega) (by omega)
 have hi:=tg n (by omega) (by omega)
 have hL:=CZ h0 (by omega:k<=16) h1
 have hl:=qK n
 have hr:=uz (k+1 - (gR n).length) (by omega)
 generalize gR n=L at *
 have hm:max (0:Int) ((k:Int)+1 - (L.length:Int))=((k+1 - L.length:Nat):Int):=by omega
 rw[<- hm] at hr
 refine au.intro Q90.2 (by simp[Q90]) ?_
 simp(disch:=try exact dI) only[Q90,push_cast,seval]
 refine ae.pure hi rfl ?_
 refine zgZ ?_
 refine ae.pure hr rfl ?_
 simp(disch:=try exact dI) only[hL,push_cast,seval]
def fI (y:Int)(m:Nat)(d:Int):List UInt8:=bQ 4 y.toNat++[45]++bQ 2 m++[45]++bQ 2 d.toNat
theorem Ay (y:Int)(m:Nat)(d:Int):(fI y m d).length=10:=by simp[fI,bG]
theorem IP {y:Int}{m:Nat}{d:Int}(h:DateOk y m d):au Tryz.prog aH 43 [.int .i64 (kz y m d - 719162)] (.tup [.str (fI y m d),.int .i64 0]):=by
 have hc:=MO h
 have hy1:=h.y1
 have hy2:=h.y2
 have hm1:=h.m1
 have hm2:=h.m2
 have hd1:=h.d1
 have hd2:=h.d2
 have hmd:=fU y m
 have p1:=eX (n:=y) (k:=3) (by omega) (by omega) (by simp;omega)
 have p2:=eX (n:=(m:Int)) (k:=1) (by omega) (by omega) (by simp;omega)
 have p3:=eX (n:=d) (k:=1) (by omega) (by omega) (by simp;omega)
 simp only[Nat.reduceAdd,VB] at p1 p2 p3
 have l1:=bG 4 y.toNat
 have l2:=bG 2 m
 have l3:=bG 2 d.toNat
 unfold fI
 generalize bQ 4 y.toNat=t1 at *
 generalize bQ 2 m=t2 at *
 generalize bQ 2 d.toNat=t3 at *
 generalize kz y m d - 719162=n at *
 refine au.intro Q43.2 (by simp[Q43]) ?_
 simp(disch:=try exact dI) only[Q43,push_cast,seval]
 refine ae.pure hc rfl ?_
 refine zgZ ?_
 refine ae.pure p1 rfl ?_
 refine zgZ ?_
 refine ae.pure p2 rfl ?_
 refine zgZ ?_
 refine ae.pure p3 rfl ?_
 exact qsZ
theorem Kh {d r:Int}(h1:-719162<=d/\d<=2932896)(h2:0<=r/\r<=86399999):au Tryz.prog aH 91 [.int .i64 (d*86400000+r)] (.tup [.int .i64 d,.int .i64 r,.int .i64 0]):=by
 have hin:=ep (n:=d*86400000+r) (lo:=-62135596800000) (hi:=253402300799999) ⟨by omega,by omega⟩
 obtain⟨n,hn⟩:∃ n,n=d*86400000+r:=⟨_,rfl⟩
 have e1:=ik (a:=n - -62135596800000) (b:=86400000) (by omega)
 have e2:=jG (a:=n - -62135596800000) (b:=86400000) (by omega)
 have e3:-719162+(n - -62135596800000) / 86400000=d:=by omega
 have e4:(n - -62135596800000) % 86400000=r:=by omega
 rw[<- hn] at hin ⊢
 refine au.intro Q91.2 (by simp[Q91]) ?_
 simp(disch:=try exact dI) only[Q91,push_cast,seval]
 refine ae.pure hin rfl ?_
 simp(disch:=try exact dI) only[e1,e2,e3,e4,push_cast,seval]
def mJ (t:List UInt8)(h mi s ms:Nat):List UInt8:=t++([84]++bQ 2 h++[58]++bQ 2 mi++[58]++bQ 2 s)++(if ms=0 then [] else [46]++bQ 3 ms)++[90]
theorem wH {y:Int}{m:Nat}{d:Int}(hD:DateOk y m d){h mi s ms:Nat}(h1:h<=23)(h2:mi<=59)(h3:s<=59)(h4:ms<=999) :
  au Tryz.prog aH 44 [.int .i64 ((kz y m d - 719162)*86400000+((((60*(h:Int)+mi)*60+s)*1000+ms)))] (.tup [.str (mJ (fI y m d) h mi s ms),.int .i64 0]):=by
 have hr:=fZ hD
 have hs:=Kh (d:=kz y m d - 719162) (r:=((60*(h:Int)+mi)*60+s)*1000+ms) ⟨by omega,by omega⟩ ⟨by omega,by omega⟩
 have ht:=IP hD
 have htl:=Ay y m d
 have p1:=eX (n:=(h:Int)) (k:=1) (by omega) (by omega) (by simp;omega)
 have p2:=eX (n:=(mi:Int)) (k:=1) (by omega) (by omega) (by simp;omega)
 have p3:=eX (n:=(s:Int)) (k:=1) (by omega) (by omega) (by simp;omega)
 have p4:=eX (n:=(ms:Int)) (k:=2) (by omega) (by omega) (by simp;omega)
 simp only[Nat.reduceAdd,VB] at p1 p2 p3 p4
 have l1:=bG 2 h
 have l2:=bG 2 mi
 have l3:=bG 2 s
 have l4:=bG 3 ms
 obtain⟨r,hr⟩:∃ r,r=((60*(h:Int)+mi)*60+s)*1000+ms:=⟨_,rfl⟩
 rw[<- hr] at hs ⊢
 have q1:=ik (a:=r) (b:=1000) (by omega)
 have q2:=ik (a:=r / 1000) (b:=3600) (by omega)
 have q3:=ik (a:=r / 1000) (b:=60) (by omega)
 have q4:=jG (a:=r / 1000 / 60) (b:=60) (by omega)
 have q5:=jG (a:=r / 1000) (b:=60) (by omega)
 have q6:=jG (a:=r) (b:=1000) (by omega)
 have g2:r / 1000 / 3600=h:=by omega
 have g3:r / 1000 / 60 % 60=mi:=by omega
 have g4:r / 1000 % 60=s:=by omega
 have g5:r % 1000=ms:=by omega
 have hrb:0<=r/\r<=86399999:=⟨by omega,by omega⟩
 clear hr
 unfold mJ
 generalize fI y m d=t0 at *
 generalize bQ 2 h=t1 at *
 generalize bQ 2 mi=t2 at *
 generalize bQ 2 s=t3 at *
 generalize bQ 3 ms=t4 at *
 generalize kz y m d - 719162=n at *
 generalize n*86400000+r=N at *
 by_cases hm:ms=0
 ·rw[if_pos hm,List.append_nil]
  subst hm
  refine au.intro Q44.2 (by simp[Q44]) ?_
  simp(disch:=try exact dI) only[Q44,push_cast,seval]
  refine ae.pure hs rfl ?_
  refine zgZ ?_
  refine ae.pure ht rfl ?_
  simp(disch:=try exact dI) only[q1,q2,g2,push_cast,seval]
  refine ae.pure p1 rfl ?_
  simp(disch:=try exact dI) only[q3,q4,g3,push_cast,seval]
  refine ae.pure p2 rfl ?_
  simp(disch:=try exact dI) only[q5,g4,push_cast,seval]
  refine ae.pure p3 rfl ?_
  simp(disch:=try exact dI) only[q6,g5,push_cast,seval]
 ·rw[if_neg hm]
  refine au.intro Q44.2 (by simp[Q44]) ?_
  simp(disch:=try exact dI) only[Q44,push_cast,seval]
  refine ae.pure hs rfl ?_
  refine zgZ ?_
  refine ae.pure ht rfl ?_
  simp(disch:=try exact dI) only[q1,q2,g2,push_cast,seval]
  refine ae.pure p1 rfl ?_
  simp(disch:=try exact dI) only[q3,q4,g3,push_cast,seval]
  refine ae.pure p2 rfl ?_
  simp(disch:=try exact dI) only[q5,g4,push_cast,seval]
  refine ae.pure p3 rfl ?_
  have hm':¬ (ms:Int)=0:=by omega
  simp(disch:=try exact dI) only[q6,g5,push_cast,seval]
  refine ae.pure p4 rfl ?_
  exact qsZ
