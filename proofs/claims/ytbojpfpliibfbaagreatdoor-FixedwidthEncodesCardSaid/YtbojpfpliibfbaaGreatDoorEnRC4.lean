/- A part of the proof. -/
import Derived.Test.YtbojpfpliibfbaaGreatDoorEnRD2
set_option maxRecDepth 100000
set_option linter.unusedVariables false
set_option linter.unusedSimpArgs false
-- many steps
namespace Go.Proofs.YtbojpfpliibfbaaGreatDoor
open Go Go.Ab
attribute [local irreducible] vc
theorem Jp {y:Int}{m:Nat}{d:Int}(h:DateOk y m d):am Tryz.prog az 142 [.int .i64 (fR y m d - 719162)] (.tup [.int .i64 y,.int .i64 (m:Int),.int .i64 d,.int .i64 0]):=by
 have hdr:=gX h
 have hdb:=kF h
 have hy1:=h.y1
 have hy2:=h.y2
 have hm1:=h.m1
 have hm2:=h.m2
 have hd1:=h.d1
 have hd2:=h.d2
 have hdn:fR y m d=cy y+cR y (m - 1)+d - 1:=rfl
 obtain⟨n,hn⟩:∃ n,n=fR y m d:=⟨_,rfl⟩
 rw[<- hn] at hdr hdb hdn ⊢
 have hin:=qz (n:=n - 719162) (lo:=-719162) (hi:=2932896) ⟨by omega,by omega⟩
 have hq:=de (a:=n) (b:=365) (by omega)
 have hs0:=cq y (m - 1) 0
 have z:cR y 0=0:=rfl
 simp only[Nat.zero_add] at hs0
 have hbb:=g6 hy1 (by omega)
 have hb365:365*(y - 1)<=cy y:=by unfold cy;omega
 have e1:n - 719162 - -719162=n:=by omega
 refine am.intro PE.2 (by simp[PE]) ?_
 simp(disch:=try exact dI) only[PE,push_cast,seval]
 refine ab.pure hin rfl ?_
 have hmin:y<=n / 365+1:=by omega
 have hloop:∀ Y:Int,y<=Y->Y<=9999->(n<cy Y↔y<Y):=by
  intro Y h1 h2
  constructor
  ·intro h3
   by_cases e:Y=y
   ·subst e;omega
   ·omega
  ·intro h3
   have:=MK h3
   omega
 simp(disch:=try exact dI) only[e1,hq,push_cast,seval]
 refine au ([]) (fun Y:Int=>[(2,.pv (.int .i64 Y))]) (fun _=>[]) (fun Y=>y<=Y/\Y<=9999) (fun Y=>(Y - y).toNat) (min (n / 365+1) 9999) ?_;intro e0 σ0 n0 h0;simp(disch:=try exact dI) only[push_cast,seval] at h0;obtain⟨rfl,rfl,rfl⟩:=h0;refine⟨?_,?_,?_⟩
 ·exact qsZ
 ·exact⟨by omega,by omega⟩
 rintro Y ⟨g1,g2⟩
 have hbY:=ML (y:=Y) (by omega) (by omega)
 by_cases hY:y<Y
 ·have hgt:=(hloop Y g1 g2).2 hY
  refine zgZ ?_
  refine ab.pure hbY rfl ?_
  refine zgZ ?_
  exact⟨Y - 1,aM qsZ,⟨by omega,by omega⟩,by omega⟩
 ·have:Y=y:=by omega
  subst this
  refine zgZ ?_
  refine ab.pure hbY rfl ?_
  refine zgZ ?_
  refine ab.pure hbY rfl ?_
  refine zgZ ?_
  refine au ([]) (fun k:Nat=>[(3,.pv (.int .i64 ((k:Int)+1))),(6,.pv (.int .i64 (n - cy Y - cR Y k)))]) (fun _=>[]) (fun k=>k<=m - 1) (fun k=>m - 1 - k) (0) ?_;intro e0 σ0 n0 h0;simp(disch:=try exact dI) only[push_cast,seval] at h0;obtain⟨rfl,rfl,rfl⟩:=h0;refine⟨?_,?_,?_⟩
  ·simp(disch:=try exact dI) only[z,Int.zero_add,Int.sub_zero,push_cast,seval]
  ·omega
  intro k hk
  have hsm:=cq Y (m - 1 - k) k
  rw[show k+(m - 1 - k)=m - 1 by omega] at hsm
  have hs1:=cq Y k 0
  simp only[Nat.zero_add] at hs1
  have hmk:=Ob hy1 hy2 (k+1) (by omega) (by omega)
  have hmdk:=ct Y ((k+1:Nat):Int)
  have hsk:cR Y (k+1)=cR Y k+mdI Y ((k+1:Nat):Int):=rfl
  rw[show ((k+1:Nat):Int)=(k:Int)+1 by omega] at hmk hmdk hsk
  by_cases hlt:k<m - 1
  ·have hge:mdI Y ((k:Int)+1)<=n - cy Y - cR Y k:=by
    have hs2:=cq Y (m - 1 - (k+1)) (k+1)
    rw[show k+1+(m - 1 - (k+1))=m - 1 by omega] at hs2
    omega
   have he:n - cy Y - cR Y (k+1)=n - cy Y - cR Y k - mdI Y ((k:Int)+1):=by omega
   refine zgZ ?_
   refine ab.pure hmk rfl ?_
   refine zgZ ?_
   refine ab.pure hmk rfl ?_
   refine zgZ ?_
   exact⟨k+1,aM (by simp(disch:=try exact dI) only[he,push_cast,seval]),by omega,by omega⟩
  ·have hkm:k=m - 1:=by omega
   subst hkm
   have em:((m - 1:Nat):Int)+1=(m:Int):=by omega
   have em2:(m:Int) - 1+1=(m:Int):=by omega
   rw[em] at hmk hmdk hsk
   have hnge:¬ mdI Y (m:Int)<=n - cy Y - cR Y (m - 1):=by omega
   have efin:n - cy Y - cR Y (m - 1)+1=d:=by omega
   simp(disch:=try exact dI) only[em2,push_cast,seval]
   refine ab.pure hmk rfl ?_
   simp(disch:=try exact dI) only[em2,efin,push_cast,seval]
end Go.Proofs.YtbojpfpliibfbaaGreatDoor
-- many steps
namespace Go.Proofs.YtbojpfpliibfbaaGreatDoor
open Go Go.Ab
open Nat renaming reduceEqDiff->qa,reduceAdd->qb,reduceMul->qc,reduceLeDiff->qd,reduceLT->qe,reduceBEq->qf,reduceSub->qg
open Int renaming reduceToNat->qh,reduceNeg->qi
attribute [local irreducible] vc
theorem IQ {y:Int}(h1:1<=y)(h2:y<=9999):am Tryz.prog az 243 [.int .i64 y] (.bool (fQ y)):=by
 have e4:=dr (a:=y) (b:=4) (by omega)
 have e100:=dr (a:=y) (b:=100) (by omega)
 have e400:=dr (a:=y) (b:=400) (by omega)
 refine am.intro Kq.2 (by simp[Kq]) ?_
 unfold fQ
 by_cases a:y % 4=0
 ·by_cases b:y % 100=0
  ·by_cases c:y % 400=0
   ·simp only[a,b,c,decide_true,Bool.not_true,Bool.or_true,Bool.and_true]
    simp(disch:=try exact dI) only[Kq,e4,e100,e400,a,b,c,push_cast,↓reduceIte,qa,qb,qc,qd,qe,qf,qg,qh,qi]
   ·simp only[a,b,c,decide_true,decide_false,Bool.not_true,Bool.or_false,Bool.and_false]
    simp(disch:=try exact dI) only[Kq,e4,e100,e400,a,b,c,push_cast,↓reduceIte,qa,qb,qc,qd,qe,qf,qg,qh,qi]
  ·simp only[a,b,decide_true,decide_false,Bool.not_false,Bool.true_or,Bool.and_true]
   simp(disch:=try exact dI) only[Kq,e4,e100,e400,a,b,push_cast,↓reduceIte,qa,qb,qc,qd,qe,qf,qg,qh,qi]
 ·have c:¬ y % 400=0:=by omega
  simp only[a,decide_false,Bool.false_and]
  simp(disch:=try exact dI) only[Kq,e4,e100,e400,a,c,push_cast,↓reduceIte,qa,qb,qc,qd,qe,qf,qg,qh,qi]
theorem L8 (m:Nat)(h1:1<=m)(h2:m<=12):fP 1 [.int .i64 31,.int .i64 28,.int .i64 31,.int .i64 30,.int .i64 31,.int .i64 30,.int .i64 31,.int .i64 31,.int .i64 30,.int .i64 31,.int .i64 30,.int .i64 31] ((m:Int) - 1)=fl 1 [.int .i64 31,.int .i64 28,.int .i64 31,.int .i64 30,.int .i64 31,.int .i64 30,.int .i64 31,.int .i64 31,.int .i64 30,.int .i64 31,.int .i64 30,.int .i64 31] (m - 1) (some (.int .i64 (Hm m))):=by
 rw[ye _ _ (by omega),show ((m:Int) - 1).toNat=m - 1 by omega]
 have h12:m=1\/m=2\/m=3\/m=4\/m=5\/m=6\/m=7\/m=8\/m=9\/m=10\/m=11\/m=12:=by omega
 rcases h12 with rfl | rfl | rfl | rfl | rfl | rfl | rfl | rfl | rfl | rfl | rfl | rfl<;>rfl
theorem Jh (m:Nat)(h1:1<=m)(h2:m<=12):([.int .i64 31,.int .i64 28,.int .i64 31,.int .i64 30,.int .i64 31,.int .i64 30,.int .i64 31,.int .i64 31,.int .i64 30,.int .i64 31,.int .i64 30,.int .i64 31]:List PV)[m - 1]? = some (.int .i64 (Hm m)):=by
 have h12:m=1\/m=2\/m=3\/m=4\/m=5\/m=6\/m=7\/m=8\/m=9\/m=10\/m=11\/m=12:=by omega
 rcases h12 with rfl | rfl | rfl | rfl | rfl | rfl | rfl | rfl | rfl | rfl | rfl | rfl<;>rfl
theorem mG {y:Int}(h1:1<=y)(h2:y<=9999)(m:Nat)(h3:1<=m)(h4:m<=12):am Tryz.prog az 201 [.int .i64 y,.int .i64 (m:Int)] (.int .i64 (mdI y m)):=by
 have hl:=IQ h1 h2
 refine am.intro M5.2 (by simp[M5]) ?_
 by_cases h:m=2
 ·subst h
  cases hb:fQ y with
  | true=>
    rw[hb] at hl
    rw[show mdI y ((2:Nat):Int)=29 by simp[mdI,hb]]
    simp(disch:=try exact dI) only[M5,push_cast,↓reduceIte,qa,qb,qc,qd,qe,qf,qg,qh,qi]
    refine ab.pure hl rfl ?_
    simp(disch:=try exact dI) only[push_cast,↓reduceIte,qa,qb,qc,qd,qe,qf,qg,qh,qi]
  | false=>
    rw[hb] at hl
    rw[rX y 2 (by simp[hb])]
    rw[show Hm 2=28 from rfl]
    have hx2:fP 1 [.int .i64 31,.int .i64 28,.int .i64 31,.int .i64 30,.int .i64 31,.int .i64 30,.int .i64 31,.int .i64 31,.int .i64 30,.int .i64 31,.int .i64 30,.int .i64 31] (2 - 1)=fl 1 [.int .i64 31,.int .i64 28,.int .i64 31,.int .i64 30,.int .i64 31,.int .i64 30,.int .i64 31,.int .i64 31,.int .i64 30,.int .i64 31,.int .i64 30,.int .i64 31] 1 (some (.int .i64 28)):=rfl
    simp(disch:=try exact dI) only[M5,push_cast,↓reduceIte,qa,qb,qc,qd,qe,qf,qg,qh,qi]
    refine ab.pure hl rfl ?_
    simp(disch:=try exact dI) only[hx2,push_cast,↓reduceIte,qa,qb,qc,qd,qe,qf,qg,qh,qi]
 ·rw[rX y m (by simp[h])]
  simp(disch:=try exact dI) only[M5,L8 m h3 h4,Jh m h3 h4,push_cast,↓reduceIte,qa,qb,qc,qd,qe,qf,qg,qh,qi]
theorem xW {y:Int}{m:Nat}{d:Int}(h:DateOk y m d):am Tryz.prog az 176 [.int .i64 y,.int .i64 (m:Int),.int .i64 d] (.tup [.int .i64 (fR y m d - 719162),.bool true]):=by
 have hm:=mG h.y1 h.y2 m h.m1 h.m2
 have hbb:=g6 h.y1 (by have:=h.y2;omega)
 have hmd:=ct y m
 have hy1:=h.y1
 have hy2:=h.y2
 have hm2:=h.m2
 have hd1:=h.d1
 have hd2:=h.d2
 have hdr:=gX h
 have hdn:fR y m d=cy y+cR y (m - 1)+d - 1:=rfl
 have e4:=de (a:=y - 1) (b:=4) (by omega)
 have e100:=de (a:=y - 1) (b:=100) (by omega)
 have e400:=de (a:=y - 1) (b:=400) (by omega)
 have hbf:365*(y - 1)+(y - 1) / 4 - (y - 1) / 100+(y - 1) / 400=cy y:=rfl
 have z:cR y 0=0:=rfl
 refine am.intro Pu.2 (by simp[Pu]) ?_
 simp(disch:=try exact dI) only[Pu,push_cast,↓reduceIte,qa,qb,qc,qd,qe,qf,qg,qh,qi]
 refine ab.pure hm rfl ?_
 simp(disch:=try exact dI) only[e4,e100,e400,push_cast,↓reduceIte,qa,qb,qc,qd,qe,qf,qg,qh,qi]
 refine au ([]) (fun k:Nat=>[(6,.pv (.int .i64 (cy y+cR y k))),(9,.pv (.int .i64 ((k:Int)+1)))]) (fun _=>[]) (fun k=>k<=m - 1) (fun k=>m - 1 - k) (0) ?_;intro e0 σ0 n0 h0;simp(disch:=try exact dI) only[push_cast,↓reduceIte,qa,qb,qc,qd,qe,qf,qg,qh,qi] at h0;obtain⟨rfl,rfl,rfl⟩:=h0;refine⟨?_,?_,?_⟩
 ·simp(disch:=try exact dI) only[hbf,z,Int.zero_add,Int.add_zero,push_cast,↓reduceIte,qa,qb,qc,qd,qe,qf,qg,qh,qi]
 ·omega
 intro k hk
 have hs0:=cq y k 0
 simp only[Nat.zero_add] at hs0
 have hsm:=cq y (m - 1 - k) k
 rw[show k+(m - 1 - k)=m - 1 by omega] at hsm
 by_cases hlt:k<m - 1
 ·have hmk:=mG hy1 hy2 (k+1) (by omega) (by omega)
  have hmdk:=ct y ((k+1:Nat):Int)
  have hsk:cR y (k+1)=cR y k+mdI y ((k+1:Nat):Int):=rfl
  rw[show ((k+1:Nat):Int)=(k:Int)+1 by omega] at hmk hmdk hsk
  have hs2:cy y+cR y (k+1)=cy y+cR y k+mdI y ((k:Int)+1):=by omega
  simp(disch:=try exact dI) only[push_cast,↓reduceIte,qa,qb,qc,qd,qe,qf,qg,qh,qi]
  refine ab.pure hmk rfl ?_
  simp(disch:=try exact dI) only[push_cast,↓reduceIte,qa,qb,qc,qd,qe,qf,qg,qh,qi]
  exact⟨k+1,aM (by simp(disch:=try exact dI) only[hs2,push_cast,↓reduceIte,qa,qb,qc,qd,qe,qf,qg,qh,qi]),by omega,by omega⟩
 ·have:k=m - 1:=by omega
  subst this
  have hfin:cy y+cR y (m - 1)+d - 1 + -719162=fR y m d - 719162:=by omega
  simp(disch:=try exact dI) only[hfin,push_cast,↓reduceIte,qa,qb,qc,qd,qe,qf,qg,qh,qi]
end Go.Proofs.YtbojpfpliibfbaaGreatDoor
-- many steps
namespace Go.Proofs.YtbojpfpliibfbaaGreatDoor
open Go Go.Ab
attribute [local irreducible] vc
theorem nJ:∀ k:Nat,Lib.repeatL [48] k=List.replicate k 48
 | 0=>rfl
 | k+1=>by rw[Lib.repeatL,nJ k];rfl
theorem rx (k:Nat)(h:k<=17):am Tryz.prog az 45 [.str [48],.int .i64 (k:Int)] (.str (List.replicate k 48)):=by
 have h1:=jR [48] (k:Int) (by omega) (by omega) (by simp;omega)
 rw[Int.toNat_natCast,nJ] at h1;exact h1
def bU:Nat->Nat->List UInt8
 | 0,_=>[]
 | k+1,n=>bU k (n / 10)++[UInt8.ofNat (48+n % 10)]
theorem aQ:∀ (k n:Nat),(bU k n).length=k
 | 0,_=>rfl
 | k+1,n=>by simp[bU,aQ k]
theorem n5:∀ k:Nat,bU k 0=List.replicate k 48
 | 0=>rfl
 | k+1=>by rw[bU,show 0 / 10=0 from rfl,n5 k,List.replicate_succ'];rfl
theorem eM:∀ (k f n:Nat),n<10 ^ f->n<10 ^ (k+1)->0<f->List.replicate (k+1 - (br f n).length) 48++br f n=bU (k+1) n
 | k,0,n,_,_,h=>absurd h (by omega)
 | k,f+1,n,hf,hk,_=>by
   rw[br]
   by_cases h:n<10
   ·rw[if_pos h,bU,show n / 10=0 by omega,n5,show n % 10=n by omega]
    simp
   ·rw[if_neg h]
    cases k with
    | zero=>simp at hk;omega
    | succ k=>
      have hf':n / 10<10 ^ f:=by rw[Nat.pow_succ] at hf;exact Nat.div_lt_of_lt_mul (by rw[Nat.mul_comm];exact hf)
      have hk':n / 10<10 ^ (k+1):=by rw[Nat.pow_succ] at hk;exact Nat.div_lt_of_lt_mul (by rw[Nat.mul_comm];exact hk)
      have h0:0<f:=by
       cases f with
       | zero=>simp at hf;omega
       | succ f=>omega
      have ih:=eM k f (n / 10) hf' hk' h0
      rw[bU,<- ih,List.length_append,List.append_assoc]
      simp
theorem zY {n:Int}{k:Nat}(h0:0<=n)(hk:k<=16)(h1:n.toNat<10 ^ (k+1)):List.replicate (k+1 - (gh n).length) 48++gh n=bU (k+1) n.toNat:=by
 unfold gh
 rw[if_neg (by omega)]
 exact eM k 20 n.toNat (Nat.lt_of_lt_of_le h1 (Nat.pow_le_pow_right (by omega) (by omega))) h1 (by omega)
theorem eC {n:Int}{k:Nat}(h0:0<=n)(hk:k<=8)(h1:n.toNat<10 ^ (k+1)):am Tryz.prog az 143 [.int .i64 n,.int .i64 ((k+1:Nat):Int)] (.str (bU (k+1) n.toNat)):=by
 have hp:10 ^ (k+1)<=10 ^ 9:=Nat.pow_le_pow_right (by omega) (by omega)
 have hi:=qx n (by omega) (by omega)
 have hL:=zY h0 (by omega:k<=16) h1
 have hl:=oo n
 have hr:=rx (k+1 - (gh n).length) (by omega)
 generalize gh n=L at *
 have hm:max (0:Int) ((k:Int)+1 - (L.length:Int))=((k+1 - L.length:Nat):Int):=by omega
 rw[<- hm] at hr
 refine am.intro PD.2 (by simp[PD]) ?_
 simp(disch:=try exact dI) only[PD,push_cast,seval]
 refine ab.pure hi rfl ?_
 refine zgZ ?_
 refine ab.pure hr rfl ?_
 simp(disch:=try exact dI) only[hL,push_cast,seval]
end Go.Proofs.YtbojpfpliibfbaaGreatDoor
-- many steps
namespace Go.Proofs.YtbojpfpliibfbaaGreatDoor
open Go Go.Ab
attribute [local irreducible] vc
def fg (y:Int)(m:Nat)(d:Int):List UInt8:=bU 4 y.toNat++[45]++bU 2 m++[45]++bU 2 d.toNat
theorem gu (y:Int)(m:Nat)(d:Int):(fg y m d).length=10:=by simp[fg,aQ]
theorem FY {y:Int}{m:Nat}{d:Int}(h:DateOk y m d):am Tryz.prog az 88 [.int .i64 (fR y m d - 719162)] (.tup [.str (fg y m d),.int .i64 0]):=by
 have hc:=Jp h
 have hy1:=h.y1
 have hy2:=h.y2
 have hm1:=h.m1
 have hm2:=h.m2
 have hd1:=h.d1
 have hd2:=h.d2
 have hmd:=ct y m
 have p1:=eC (n:=y) (k:=3) (by omega) (by omega) (by simp;omega)
 have p2:=eC (n:=(m:Int)) (k:=1) (by omega) (by omega) (by simp;omega)
 have p3:=eC (n:=d) (k:=1) (by omega) (by omega) (by simp;omega)
 simp only[Nat.reduceAdd,Int.toNat_natCast] at p1 p2 p3
 have l1:=aQ 4 y.toNat
 have l2:=aQ 2 m
 have l3:=aQ 2 d.toNat
 unfold fg
 generalize bU 4 y.toNat=t1 at *
 generalize bU 2 m=t2 at *
 generalize bU 2 d.toNat=t3 at *
 generalize fR y m d - 719162=n at *
 refine am.intro Q88.2 (by simp[Q88]) ?_
 simp(disch:=try exact dI) only[Q88,push_cast,seval]
 refine ab.pure hc rfl ?_
 refine zgZ ?_
 refine ab.pure p1 rfl ?_
 refine zgZ ?_
 refine ab.pure p2 rfl ?_
 refine zgZ ?_
 refine ab.pure p3 rfl ?_
 exact qsZ
theorem Hv {d r:Int}(h1:-719162<=d/\d<=2932896)(h2:0<=r/\r<=86399999):am Tryz.prog az 144 [.int .i64 (d*86400000+r)] (.tup [.int .i64 d,.int .i64 r,.int .i64 0]):=by
 have hin:=qz (n:=d*86400000+r) (lo:=-62135596800000) (hi:=253402300799999) ⟨by omega,by omega⟩
 obtain⟨n,hn⟩:∃ n,n=d*86400000+r:=⟨_,rfl⟩
 have e1:=de (a:=n - -62135596800000) (b:=86400000) (by omega)
 have e2:=dr (a:=n - -62135596800000) (b:=86400000) (by omega)
 have e3:-719162+(n - -62135596800000) / 86400000=d:=by omega
 have e4:(n - -62135596800000) % 86400000=r:=by omega
 rw[<- hn] at hin ⊢
 refine am.intro PC.2 (by simp[PC]) ?_
 simp(disch:=try exact dI) only[PC,push_cast,seval]
 refine ab.pure hin rfl ?_
 simp(disch:=try exact dI) only[e1,e2,e3,e4,push_cast,seval]
def mj (t:List UInt8)(h mi s ms:Nat):List UInt8:=t++([84]++bU 2 h++[58]++bU 2 mi++[58]++bU 2 s)++(if ms=0 then [] else [46]++bU 3 ms)++[90]
theorem tn {y:Int}{m:Nat}{d:Int}(hD:DateOk y m d){h mi s ms:Nat}(h1:h<=23)(h2:mi<=59)(h3:s<=59)(h4:ms<=999) :
  am Tryz.prog az 90 [.int .i64 ((fR y m d - 719162)*86400000+((((60*(h:Int)+mi)*60+s)*1000+ms)))] (.tup [.str (mj (fg y m d) h mi s ms),.int .i64 0]):=by
 have hr:=gX hD
 have hs:=Hv (d:=fR y m d - 719162) (r:=((60*(h:Int)+mi)*60+s)*1000+ms) ⟨by omega,by omega⟩ ⟨by omega,by omega⟩
 have ht:=FY hD
 have htl:=gu y m d
 have p1:=eC (n:=(h:Int)) (k:=1) (by omega) (by omega) (by simp;omega)
 have p2:=eC (n:=(mi:Int)) (k:=1) (by omega) (by omega) (by simp;omega)
 have p3:=eC (n:=(s:Int)) (k:=1) (by omega) (by omega) (by simp;omega)
 have p4:=eC (n:=(ms:Int)) (k:=2) (by omega) (by omega) (by simp;omega)
 simp only[Nat.reduceAdd,Int.toNat_natCast] at p1 p2 p3 p4
 have l1:=aQ 2 h
 have l2:=aQ 2 mi
 have l3:=aQ 2 s
 have l4:=aQ 3 ms
 obtain⟨r,hr⟩:∃ r,r=((60*(h:Int)+mi)*60+s)*1000+ms:=⟨_,rfl⟩
 rw[<- hr] at hs ⊢
 have q1:=de (a:=r) (b:=1000) (by omega)
 have q2:=de (a:=r / 1000) (b:=3600) (by omega)
 have q3:=de (a:=r / 1000) (b:=60) (by omega)
 have q4:=dr (a:=r / 1000 / 60) (b:=60) (by omega)
 have q5:=dr (a:=r / 1000) (b:=60) (by omega)
 have q6:=dr (a:=r) (b:=1000) (by omega)
 have g2:r / 1000 / 3600=h:=by omega
 have g3:r / 1000 / 60 % 60=mi:=by omega
 have g4:r / 1000 % 60=s:=by omega
 have g5:r % 1000=ms:=by omega
 have hrb:0<=r/\r<=86399999:=⟨by omega,by omega⟩
 clear hr
 unfold mj
 generalize fg y m d=t0 at *
 generalize bU 2 h=t1 at *
 generalize bU 2 mi=t2 at *
 generalize bU 2 s=t3 at *
 generalize bU 3 ms=t4 at *
 generalize fR y m d - 719162=n at *
 generalize n*86400000+r=N at *
 by_cases hm:ms=0
 ·rw[if_pos hm,List.append_nil]
  subst hm
  refine am.intro Q90.2 (by simp[Q90]) ?_
  simp(disch:=try exact dI) only[Q90,push_cast,seval]
  refine ab.pure hs rfl ?_
  refine zgZ ?_
  refine ab.pure ht rfl ?_
  simp(disch:=try exact dI) only[q1,q2,g2,push_cast,seval]
  refine ab.pure p1 rfl ?_
  simp(disch:=try exact dI) only[q3,q4,g3,push_cast,seval]
  refine ab.pure p2 rfl ?_
  simp(disch:=try exact dI) only[q5,g4,push_cast,seval]
  refine ab.pure p3 rfl ?_
  simp(disch:=try exact dI) only[q6,g5,push_cast,seval]
 ·rw[if_neg hm]
  refine am.intro Q90.2 (by simp[Q90]) ?_
  simp(disch:=try exact dI) only[Q90,push_cast,seval]
  refine ab.pure hs rfl ?_
  refine zgZ ?_
  refine ab.pure ht rfl ?_
  simp(disch:=try exact dI) only[q1,q2,g2,push_cast,seval]
  refine ab.pure p1 rfl ?_
  simp(disch:=try exact dI) only[q3,q4,g3,push_cast,seval]
  refine ab.pure p2 rfl ?_
  simp(disch:=try exact dI) only[q5,g4,push_cast,seval]
  refine ab.pure p3 rfl ?_
  have hm':¬ (ms:Int)=0:=by omega
  simp(disch:=try exact dI) only[q6,g5,push_cast,seval]
  refine ab.pure p4 rfl ?_
  exact qsZ
end Go.Proofs.YtbojpfpliibfbaaGreatDoor
