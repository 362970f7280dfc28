/- A part of the proof for LiteralAgainCardSaid. -/
import Derived.Test.YtamoeblcphjbaaaGreatDoorAgLD
set_option maxRecDepth 100000
set_option linter.unusedVariables false
set_option linter.unusedSimpArgs false
-- many steps
namespace Go.Proofs.YtamoeblcphjbaaaGreatDoor
open Go Go.Ab
attribute [local irreducible] vc
theorem J9 {y:Int}{m:Nat}{d:Int}(h:DateOk y m d):aq Tryz.prog aF 89 [.int .i64 (iO y m d - 719162)] (.tup [.int .i64 y,.int .i64 (m:Int),.int .i64 d,.int .i64 0]):=by
 have hdr:=fq h
 have hdb:=pE h
 have hy1:=h.y1
 have hy2:=h.y2
 have hm1:=h.m1
 have hm2:=h.m2
 have hd1:=h.d1
 have hd2:=h.d2
 have hdn:iO y m d=ew y+dW y (m - 1)+d - 1:=rfl
 obtain⟨n,hn⟩:∃ n,n=iO y m d:=⟨_,rfl⟩
 rw[← hn] at hdr hdb hdn ⊢
 have hin:=dQ (n:=n - 719162) (lo:=-719162) (hi:=2932896) ⟨by omega,by omega⟩
 have hq:=gx (a:=n) (b:=365) (by omega)
 have hs0:=df y (m - 1) 0
 have z:dW y 0=0:=rfl
 simp only[Nat.zero_add] at hs0
 have hbb:=ic hy1 (by omega)
 have hb365:365*(y - 1)≤ew y:=by unfold ew;omega
 have e1:n - 719162 - -719162=n:=by omega
 refine aq.intro N6 (by simp[F89]) ?_
 simp(disch:=try exact dI) only[F89,push_cast,seval]
 refine ab.pure hin rfl ?_
 have hmin:y≤n / 365+1:=by omega
 have hloop:∀ Y:Int,y≤Y→Y≤9999→(n<ew Y↔y<Y):=by
  intro Y h1 h2
  constructor
  ·intro h3
   by_cases e:Y=y
   ·subst e;omega
   ·omega
  ·intro h3
   have:=NM h3
   omega
 simp(disch:=try exact dI) only[e1,hq,push_cast,seval]
 refine be ([]) (fun Y:Int=>[(2,.pv (.int .i64 Y))]) (fun _=>[]) (fun Y=>y≤Y∧Y≤9999) (fun Y=>(Y - y).toNat) (min (n / 365+1) 9999) ?_;intro e0 σ0 n0 h0;simp(disch:=try exact dI) only[push_cast,seval] at h0;obtain⟨rfl,rfl,rfl⟩:=h0;refine⟨?_,?_,?_⟩
 ·simp(disch:=try exact dI) only[push_cast,seval]
 ·exact⟨by omega,by omega⟩
 rintro Y ⟨g1,g2⟩
 have hbY:=Ht (y:=Y) (by omega) (by omega)
 by_cases hY:y<Y
 ·have hgt:=(hloop Y g1 g2).2 hY
  simp(disch:=try exact dI) only[push_cast,seval]
  refine ab.pure hbY rfl ?_
  simp(disch:=try exact dI) only[push_cast,seval]
  exact⟨Y - 1,bT qsZ,⟨by omega,by omega⟩,by omega⟩
 ·have:Y=y:=by omega
  subst this
  simp(disch:=try exact dI) only[push_cast,seval]
  refine ab.pure hbY rfl ?_
  simp(disch:=try exact dI) only[push_cast,seval]
  refine ab.pure hbY rfl ?_
  simp(disch:=try exact dI) only[push_cast,seval]
  refine be ([]) (fun k:Nat=>[(3,.pv (.int .i64 ((k:Int)+1))),(6,.pv (.int .i64 (n - ew Y - dW Y k)))]) (fun _=>[]) (fun k=>k≤m - 1) (fun k=>m - 1 - k) (0) ?_;intro e0 σ0 n0 h0;simp(disch:=try exact dI) only[push_cast,seval] at h0;obtain⟨rfl,rfl,rfl⟩:=h0;refine⟨?_,?_,?_⟩
  ·simp(disch:=try exact dI) only[z,Int.zero_add,Int.sub_zero,push_cast,seval]
  ·omega
  intro k hk
  have hsm:=df Y (m - 1 - k) k
  rw[show k+(m - 1 - k)=m - 1 by omega] at hsm
  have hs1:=df Y k 0
  simp only[Nat.zero_add] at hs1
  have hmk:=Jj hy1 hy2 (k+1) (by omega) (by omega)
  have hmdk:=ed Y ((k+1:Nat):Int)
  have hsk:dW Y (k+1)=dW Y k+mdI Y ((k+1:Nat):Int):=rfl
  rw[show ((k+1:Nat):Int)=(k:Int)+1 by omega] at hmk hmdk hsk
  by_cases hlt:k<m - 1
  ·have hge:mdI Y ((k:Int)+1)≤n - ew Y - dW Y k:=by
    have hs2:=df Y (m - 1 - (k+1)) (k+1)
    rw[show k+1+(m - 1 - (k+1))=m - 1 by omega] at hs2
    omega
   have he:n - ew Y - dW Y (k+1)=n - ew Y - dW Y k - mdI Y ((k:Int)+1):=by omega
   simp(disch:=try exact dI) only[push_cast,seval]
   refine ab.pure hmk rfl ?_
   simp(disch:=try exact dI) only[push_cast,seval]
   refine ab.pure hmk rfl ?_
   simp(disch:=try exact dI) only[push_cast,seval]
   exact⟨k+1,bT (by simp(disch:=try exact dI) only[he,push_cast,seval]),by omega,by omega⟩
  ·have hkm:k=m - 1:=by omega
   subst hkm
   have em:((m - 1:Nat):Int)+1=(m:Int):=by omega
   have em2:(m:Int) - 1+1=(m:Int):=by omega
   rw[em] at hmk hmdk hsk
   have hnge:¬ mdI Y (m:Int)≤n - ew Y - dW Y (m - 1):=by omega
   have efin:n - ew Y - dW Y (m - 1)+1=d:=by omega
   simp(disch:=try exact dI) only[em2,push_cast,seval]
   refine ab.pure hmk rfl ?_
   simp(disch:=try exact dI) only[em2,efin,push_cast,seval]
end Go.Proofs.YtamoeblcphjbaaaGreatDoor
-- many steps
namespace Go.Proofs.YtamoeblcphjbaaaGreatDoor
open Go Go.Ab
attribute [local irreducible] vc
def isD (c:UInt8):Bool:=decide (48≤c.toNat)&&decide (c.toNat≤57)
def jo:Int→List UInt8→Int
 | n,[]=>n
 | n,c::r=>jo (10*n+((c.toNat:Int) - 48)) r
theorem jJ (c:UInt8):∀ (l:List UInt8) (n:Int),jo n (l++[c])=10*jo n l+((c.toNat:Int) - 48)
 | [],n=>rfl
 | d::l,n=>by simp only[List.cons_append,jo];exact jJ c l _
theorem gS {c:UInt8}(h:isD c=true):48≤c.toNat∧c.toNat≤57:=by simpa[isD] using h
theorem dm:∀ (l:List UInt8) (n:Int),0≤n→l.all isD=true→0≤jo n l∧jo n l+1≤(n+1)*((10 ^ l.length:Nat):Int)
 | [],n,h0,_=>by simp[jo];omega
 | c::r,n,h0,hd=>by
   simp only[List.all_cons,Bool.and_eq_true] at hd
   have hc:=gS hd.1
   have ih:=dm r (10*n+((c.toNat:Int) - 48)) (by omega) hd.2
   refine⟨ih.1,Int.le_trans ih.2 ?_⟩
   rw[List.length_cons,Nat.pow_succ]
   have hp:(0:Int)≤((10 ^ r.length:Nat):Int):=Int.natCast_nonneg _
   have h1:(10*n+((c.toNat:Int) - 48)+1)*((10 ^ r.length:Nat):Int)≤((n+1)*10)*((10 ^ r.length:Nat):Int):=Int.mul_le_mul_of_nonneg_right (by omega) hp
   have h2:((n+1)*10)*((10 ^ r.length:Nat):Int)=(n+1)*((10 ^ r.length*10:Nat):Int):=by
    rw[Int.mul_assoc,Int.natCast_mul,Int.mul_comm (10:Int)];rfl
   exact Int.le_trans h1 (Int.le_of_eq h2)
theorem Ns {l:List UInt8}(h:l.all isD=true)(hl:l.length≤9):0≤jo 0 l∧jo 0 l≤999999999:=by
 have:=dm l 0 (by omega) h
 have hp:10 ^ l.length≤10 ^ 9:=Nat.pow_le_pow_right (by omega) hl
 omega
def rc (k:Nat)(s:List UInt8):Option (Int×List UInt8):=if k≤s.length∧(s.take k).all isD=true then some (jo 0 (s.take k),s.drop k) else none
def G3 (s:List UInt8):Option (Int×List UInt8)→PV
 | some p=>.tup [.int .i64 p.1,.str p.2,.bool true]
 | none=>.tup [.int .i64 0,.str s,.bool false]
end Go.Proofs.YtamoeblcphjbaaaGreatDoor
namespace Go.Proofs.YtamoeblcphjbaaaGreatDoor
open Go Go.Ab
attribute [local irreducible] vc
theorem oh:∀ k:Nat,Lib.repeatL [48] k=List.replicate k 48
 | 0=>rfl
 | k+1=>by rw[Lib.repeatL,oh k];rfl
theorem sI (k:Nat)(h:k≤17):aq Tryz.prog aF 88 [.str [48],.int .i64 (k:Int)] (.str (List.replicate k 48)):=by
 have h1:=og [48] (k:Int) (by omega) (by omega) (by simp;omega)
 rw[Int.toNat_natCast,oh] at h1;exact h1
def aY:Nat→Nat→List UInt8
 | 0,_=>[]
 | k+1,n=>aY k (n / 10)++[UInt8.ofNat (48+n % 10)]
theorem aV:∀ (k n:Nat),(aY k n).length=k
 | 0,_=>rfl
 | k+1,n=>by simp[aY,aV k]
theorem oJ:∀ k:Nat,aY k 0=List.replicate k 48
 | 0=>rfl
 | k+1=>by rw[aY,show 0 / 10=0 from rfl,oJ k,List.replicate_succ'];rfl
theorem eO:∀ (k f n:Nat),n<10 ^ f→n<10 ^ (k+1)→0<f→List.replicate (k+1 - (bl f n).length) 48++bl f n=aY (k+1) n
 | k,0,n,_,_,h=>absurd h (by omega)
 | k,f+1,n,hf,hk,_=>by
   rw[bl]
   by_cases h:n<10
   ·rw[if_pos h,aY,show n / 10=0 by omega,oJ,show n % 10=n by omega]
    simp
   ·rw[if_neg h]
    cases k with
    | zero=>simp at hk;omega
    | succ k=>
      have hf':n / 10<10 ^ f:=by rw[Nat.pow_succ] at hf;exact Nat.div_lt_of_lt_mul (by rw[Nat.mul_comm];exact hf)
      have hk':n / 10<10 ^ (k+1):=by rw[Nat.pow_succ] at hk;exact Nat.div_lt_of_lt_mul (by rw[Nat.mul_comm];exact hk)
      have h0:0<f:=by
       cases f with
       | zero=>simp at hf;omega
       | succ f=>omega
      have ih:=eO k f (n / 10) hf' hk' h0
      rw[aY,← ih,List.length_append,List.append_assoc]
      simp
theorem E2:∀ (l:List UInt8),l.all isD=true→aY l.length (jo 0 l).toNat=l:=by
 intro l
 induction hn:l.length generalizing l with
 | zero=>intro _;simp[List.length_eq_zero_iff.1 hn,aY]
 | succ k ih=>
   intro h
   obtain⟨a,c,rfl⟩:∃ a c,l=a++[c]:=by
    refine⟨l.dropLast,l.getLast (by intro e;simp[e] at hn),(List.dropLast_concat_getLast _).symm⟩
   rw[List.all_append,Bool.and_eq_true] at h
   have hc:=gS (c:=c) (by simpa using h.2)
   have h0:=(dm a 0 (by omega) h.1).1
   rw[jJ,aY]
   have e1:(10*jo 0 a+((c.toNat:Int) - 48)).toNat / 10=(jo 0 a).toNat:=by omega
   have e2:48+(10*jo 0 a+((c.toNat:Int) - 48)).toNat % 10=c.toNat:=by omega
   rw[e1,e2,ih a (by simpa using hn) h.1]
   simp
theorem AN {n:Int}{k:Nat}(h0:0≤n)(hk:k≤16)(h1:n.toNat<10 ^ (k+1)):List.replicate (k+1 - (cS n).length) 48++cS n=aY (k+1) n.toNat:=by
 unfold cS
 rw[if_neg (by omega)]
 exact eO k 20 n.toNat (Nat.lt_of_lt_of_le h1 (Nat.pow_le_pow_right (by omega) (by omega))) h1 (by omega)
theorem eD {n:Int}{k:Nat}(h0:0≤n)(hk:k≤8)(h1:n.toNat<10 ^ (k+1)):aq Tryz.prog aF 90 [.int .i64 n,.int .i64 ((k+1:Nat):Int)] (.str (aY (k+1) n.toNat)):=by
 have hp:10 ^ (k+1)≤10 ^ 9:=Nat.pow_le_pow_right (by omega) (by omega)
 have hi:=mZ n (by omega) (by omega)
 have hL:=AN h0 (by omega:k≤16) h1
 have hl:=gQ n
 have hr:=sI (k+1 - (cS n).length) (by omega)
 generalize cS n=L at *
 have hm:max (0:Int) ((k:Int)+1 - (L.length:Int))=((k+1 - L.length:Nat):Int):=by omega
 rw[← hm] at hr
 refine aq.intro N5 (by simp[F90]) ?_
 simp(disch:=try exact dI) only[F90,push_cast,seval]
 refine ab.pure hi rfl ?_
 simp(disch:=try exact dI) only[push_cast,seval]
 refine ab.pure hr rfl ?_
 simp(disch:=try exact dI) only[hL,push_cast,seval]
end Go.Proofs.YtamoeblcphjbaaaGreatDoor
-- many steps
namespace Go.Proofs.YtamoeblcphjbaaaGreatDoor
open Go Go.Ab
attribute [local irreducible] vc
def cG (y:Int)(m:Nat)(d:Int):List UInt8:=aY 4 y.toNat++[45]++aY 2 m++[45]++aY 2 d.toNat
theorem xT (y:Int)(m:Nat)(d:Int):(cG y m d).length=10:=by simp[cG,aV]
theorem GE {y:Int}{m:Nat}{d:Int}(h:DateOk y m d):aq Tryz.prog aF 43 [.int .i64 (iO y m d - 719162)] (.tup [.str (cG y m d),.int .i64 0]):=by
 have hc:=J9 h
 have hy1:=h.y1
 have hy2:=h.y2
 have hm1:=h.m1
 have hm2:=h.m2
 have hd1:=h.d1
 have hd2:=h.d2
 have hmd:=ed y m
 have p1:=eD (n:=y) (k:=3) (by omega) (by omega) (by simp;omega)
 have p2:=eD (n:=(m:Int)) (k:=1) (by omega) (by omega) (by simp;omega)
 have p3:=eD (n:=d) (k:=1) (by omega) (by omega) (by simp;omega)
 simp only[Nat.reduceAdd,Int.toNat_natCast] at p1 p2 p3
 have l1:=aV 4 y.toNat
 have l2:=aV 2 m
 have l3:=aV 2 d.toNat
 unfold cG
 generalize aY 4 y.toNat=t1 at *
 generalize aY 2 m=t2 at *
 generalize aY 2 d.toNat=t3 at *
 generalize iO y m d - 719162=n at *
 refine aq.intro Ov (by simp[F43]) ?_
 simp(disch:=try exact dI) only[F43,push_cast,seval]
 refine ab.pure hc rfl ?_
 simp(disch:=try exact dI) only[push_cast,seval]
 refine ab.pure p1 rfl ?_
 simp(disch:=try exact dI) only[push_cast,seval]
 refine ab.pure p2 rfl ?_
 simp(disch:=try exact dI) only[push_cast,seval]
 refine ab.pure p3 rfl ?_
 simp(disch:=try exact dI) only[push_cast,seval]
theorem H6 {d r:Int}(h1:-719162≤d∧d≤2932896)(h2:0≤r∧r≤86399999):aq Tryz.prog aF 91 [.int .i64 (d*86400000+r)] (.tup [.int .i64 d,.int .i64 r,.int .i64 0]):=by
 have hin:=dQ (n:=d*86400000+r) (lo:=-62135596800000) (hi:=253402300799999) ⟨by omega,by omega⟩
 obtain⟨n,hn⟩:∃ n,n=d*86400000+r:=⟨_,rfl⟩
 have e1:=gx (a:=n - -62135596800000) (b:=86400000) (by omega)
 have e2:=iX (a:=n - -62135596800000) (b:=86400000) (by omega)
 have e3:-719162+(n - -62135596800000) / 86400000=d:=by omega
 have e4:(n - -62135596800000) % 86400000=r:=by omega
 rw[← hn] at hin ⊢
 refine aq.intro N4 (by simp[F91]) ?_
 simp(disch:=try exact dI) only[F91,push_cast,seval]
 refine ab.pure hin rfl ?_
 simp(disch:=try exact dI) only[e1,e2,e3,e4,push_cast,seval]
def fJ (t:List UInt8)(h mi s ms:Nat):List UInt8:=t++([84]++aY 2 h++[58]++aY 2 mi++[58]++aY 2 s)++(if ms=0 then [] else [46]++aY 3 ms)++[90]
theorem uE {y:Int}{m:Nat}{d:Int}(hD:DateOk y m d){h mi s ms:Nat}(h1:h≤23)(h2:mi≤59)(h3:s≤59)(h4:ms≤999) :
  aq Tryz.prog aF 44 [.int .i64 ((iO y m d - 719162)*86400000+((((60*(h:Int)+mi)*60+s)*1000+ms)))] (.tup [.str (fJ (cG y m d) h mi s ms),.int .i64 0]):=by
 have hr:=fq hD
 have hs:=H6 (d:=iO y m d - 719162) (r:=((60*(h:Int)+mi)*60+s)*1000+ms) ⟨by omega,by omega⟩ ⟨by omega,by omega⟩
 have ht:=GE hD
 have htl:=xT y m d
 have p1:=eD (n:=(h:Int)) (k:=1) (by omega) (by omega) (by simp;omega)
 have p2:=eD (n:=(mi:Int)) (k:=1) (by omega) (by omega) (by simp;omega)
 have p3:=eD (n:=(s:Int)) (k:=1) (by omega) (by omega) (by simp;omega)
 have p4:=eD (n:=(ms:Int)) (k:=2) (by omega) (by omega) (by simp;omega)
 simp only[Nat.reduceAdd,Int.toNat_natCast] at p1 p2 p3 p4
 have l1:=aV 2 h
 have l2:=aV 2 mi
 have l3:=aV 2 s
 have l4:=aV 3 ms
 obtain⟨r,hr⟩:∃ r,r=((60*(h:Int)+mi)*60+s)*1000+ms:=⟨_,rfl⟩
 rw[← hr] at hs ⊢
 have q1:=gx (a:=r) (b:=1000) (by omega)
 have q2:=gx (a:=r / 1000) (b:=3600) (by omega)
 have q3:=gx (a:=r / 1000) (b:=60) (by omega)
 have q4:=iX (a:=r / 1000 / 60) (b:=60) (by omega)
 have q5:=iX (a:=r / 1000) (b:=60) (by omega)
 have q6:=iX (a:=r) (b:=1000) (by omega)
 have g2:r / 1000 / 3600=h:=by omega
 have g3:r / 1000 / 60 % 60=mi:=by omega
 have g4:r / 1000 % 60=s:=by omega
 have g5:r % 1000=ms:=by omega
 have hrb:0≤r∧r≤86399999:=⟨by omega,by omega⟩
 clear hr
 unfold fJ
 generalize cG y m d=t0 at *
 generalize aY 2 h=t1 at *
 generalize aY 2 mi=t2 at *
 generalize aY 2 s=t3 at *
 generalize aY 3 ms=t4 at *
 generalize iO y m d - 719162=n at *
 generalize n*86400000+r=N at *
 by_cases hm:ms=0
 ·rw[if_pos hm,List.append_nil]
  subst hm
  refine aq.intro HD (by simp[F44]) ?_
  simp(disch:=try exact dI) only[F44,push_cast,seval]
  refine ab.pure hs rfl ?_
  simp(disch:=try exact dI) only[push_cast,seval]
  refine ab.pure ht rfl ?_
  simp(disch:=try exact dI) only[q1,q2,g2,push_cast,seval]
  refine ab.pure p1 rfl ?_
  simp(disch:=try exact dI) only[q3,q4,g3,push_cast,seval]
  refine ab.pure p2 rfl ?_
  simp(disch:=try exact dI) only[q5,g4,push_cast,seval]
  refine ab.pure p3 rfl ?_
  simp(disch:=try exact dI) only[q6,g5,push_cast,seval]
 ·rw[if_neg hm]
  refine aq.intro HD (by simp[F44]) ?_
  simp(disch:=try exact dI) only[F44,push_cast,seval]
  refine ab.pure hs rfl ?_
  simp(disch:=try exact dI) only[push_cast,seval]
  refine ab.pure ht rfl ?_
  simp(disch:=try exact dI) only[q1,q2,g2,push_cast,seval]
  refine ab.pure p1 rfl ?_
  simp(disch:=try exact dI) only[q3,q4,g3,push_cast,seval]
  refine ab.pure p2 rfl ?_
  simp(disch:=try exact dI) only[q5,g4,push_cast,seval]
  refine ab.pure p3 rfl ?_
  have hm':¬ (ms:Int)=0:=by omega
  simp(disch:=try exact dI) only[q6,g5,push_cast,seval]
  refine ab.pure p4 rfl ?_
  simp(disch:=try exact dI) only[push_cast,seval]
end Go.Proofs.YtamoeblcphjbaaaGreatDoor
