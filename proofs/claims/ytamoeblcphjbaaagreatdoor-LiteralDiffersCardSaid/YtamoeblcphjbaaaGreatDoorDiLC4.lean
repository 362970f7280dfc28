/- A part of the proof for LiteralDiffersCardSaid. -/
import Derived.Test.YtamoeblcphjbaaaGreatDoorDiLD
set_option maxRecDepth 100000
set_option linter.unusedVariables false
set_option linter.unusedSimpArgs false
-- many steps
namespace Go.Proofs.YtamoeblcphjbaaaGreatDoor
open Go Go.Ab
attribute [local irreducible] vc
theorem Eb {y:Int}{m:Nat}{d:Int}(h:DateOk y m d):aq Tryz.prog aC 89 [.int .i64 (iE y m d - 719162)] (.tup [.int .i64 y,.int .i64 (m:Int),.int .i64 d,.int .i64 0]):=by
 have hdr:=lR h
 have hdb:=lS h
 have hy1:=h.y1
 have hy2:=h.y2
 have hm1:=h.m1
 have hm2:=h.m2
 have hd1:=h.d1
 have hd2:=h.d2
 have hdn:iE y m d=d7 y+ec y (m - 1)+d - 1:=rfl
 obtain⟨n,hn⟩:∃ n,n=iE y m d:=⟨_,rfl⟩
 rw[← hn] at hdr hdb hdn ⊢
 have hin:=nh (n:=n - 719162) (lo:=-719162) (hi:=2932896) ⟨by omega,by omega⟩
 have hq:=eI (a:=n) (b:=365) (by omega)
 have hs0:=cU y (m - 1) 0
 have z:ec y 0=0:=rfl
 simp only[Nat.zero_add] at hs0
 have hbb:=iA hy1 (by omega)
 have hb365:365*(y - 1)≤d7 y:=by unfold d7;omega
 have e1:n - 719162 - -719162=n:=by omega
 refine aq.intro Hc (by simp[F89]) ?_
 simp(disch:=try exact dI) only[F89,push_cast,seval]
 refine ab.pure hin rfl ?_
 have hmin:y≤n / 365+1:=by omega
 have hloop:∀ Y:Int,y≤Y→Y≤9999→(n<d7 Y↔y<Y):=by
  intro Y h1 h2
  constructor
  ·intro h3
   by_cases e:Y=y
   ·subst e;omega
   ·omega
  ·intro h3
   have:=GY h3
   omega
 simp(disch:=try exact dI) only[e1,hq,push_cast,seval]
 refine aX ([]) (fun Y:Int=>[(2,.pv (.int .i64 Y))]) (fun _=>[]) (fun Y=>y≤Y∧Y≤9999) (fun Y=>(Y - y).toNat) (min (n / 365+1) 9999) ?_;intro e0 σ0 n0 h0;simp(disch:=try exact dI) only[push_cast,seval] at h0;obtain⟨rfl,rfl,rfl⟩:=h0;refine⟨?_,?_,?_⟩
 ·simp(disch:=try exact dI) only[push_cast,seval]
 ·exact⟨by omega,by omega⟩
 rintro Y ⟨g1,g2⟩
 have hbY:=GZ (y:=Y) (by omega) (by omega)
 by_cases hY:y<Y
 ·have hgt:=(hloop Y g1 g2).2 hY
  simp(disch:=try exact dI) only[push_cast,seval]
  refine ab.pure hbY rfl ?_
  simp(disch:=try exact dI) only[push_cast,seval]
  exact⟨Y - 1,bX qsZ,⟨by omega,by omega⟩,by omega⟩
 ·have:Y=y:=by omega
  subst this
  simp(disch:=try exact dI) only[push_cast,seval]
  refine ab.pure hbY rfl ?_
  simp(disch:=try exact dI) only[push_cast,seval]
  refine ab.pure hbY rfl ?_
  simp(disch:=try exact dI) only[push_cast,seval]
  refine aX ([]) (fun k:Nat=>[(3,.pv (.int .i64 ((k:Int)+1))),(6,.pv (.int .i64 (n - d7 Y - ec Y k)))]) (fun _=>[]) (fun k=>k≤m - 1) (fun k=>m - 1 - k) (0) ?_;intro e0 σ0 n0 h0;simp(disch:=try exact dI) only[push_cast,seval] at h0;obtain⟨rfl,rfl,rfl⟩:=h0;refine⟨?_,?_,?_⟩
  ·simp(disch:=try exact dI) only[z,Int.zero_add,Int.sub_zero,push_cast,seval]
  ·omega
  intro k hk
  have hsm:=cU Y (m - 1 - k) k
  rw[show k+(m - 1 - k)=m - 1 by omega] at hsm
  have hs1:=cU Y k 0
  simp only[Nat.zero_add] at hs1
  have hmk:=IJ hy1 hy2 (k+1) (by omega) (by omega)
  have hmdk:=eQ Y ((k+1:Nat):Int)
  have hsk:ec Y (k+1)=ec Y k+mdI Y ((k+1:Nat):Int):=rfl
  rw[show ((k+1:Nat):Int)=(k:Int)+1 by omega] at hmk hmdk hsk
  by_cases hlt:k<m - 1
  ·have hge:mdI Y ((k:Int)+1)≤n - d7 Y - ec Y k:=by
    have hs2:=cU Y (m - 1 - (k+1)) (k+1)
    rw[show k+1+(m - 1 - (k+1))=m - 1 by omega] at hs2
    omega
   have he:n - d7 Y - ec Y (k+1)=n - d7 Y - ec Y k - mdI Y ((k:Int)+1):=by omega
   simp(disch:=try exact dI) only[push_cast,seval]
   refine ab.pure hmk rfl ?_
   simp(disch:=try exact dI) only[push_cast,seval]
   refine ab.pure hmk rfl ?_
   simp(disch:=try exact dI) only[push_cast,seval]
   exact⟨k+1,bX (by simp(disch:=try exact dI) only[he,push_cast,seval]),by omega,by omega⟩
  ·have hkm:k=m - 1:=by omega
   subst hkm
   have em:((m - 1:Nat):Int)+1=(m:Int):=by omega
   have em2:(m:Int) - 1+1=(m:Int):=by omega
   rw[em] at hmk hmdk hsk
   have hnge:¬ mdI Y (m:Int)≤n - d7 Y - ec Y (m - 1):=by omega
   have efin:n - d7 Y - ec Y (m - 1)+1=d:=by omega
   simp(disch:=try exact dI) only[em2,push_cast,seval]
   refine ab.pure hmk rfl ?_
   simp(disch:=try exact dI) only[em2,efin,push_cast,seval]
end Go.Proofs.YtamoeblcphjbaaaGreatDoor
-- many steps
namespace Go.Proofs.YtamoeblcphjbaaaGreatDoor
open Go Go.Ab
attribute [local irreducible] vc
def isD (c:UInt8):Bool:=decide (48≤c.toNat)&&decide (c.toNat≤57)
def D7:Int→List UInt8→Int
 | n,[]=>n
 | n,c::r=>D7 (10*n+((c.toNat:Int) - 48)) r
theorem oY (c:UInt8):∀ (l:List UInt8) (n:Int),D7 n (l++[c])=10*D7 n l+((c.toNat:Int) - 48)
 | [],n=>rfl
 | d::l,n=>by simp only[List.cons_append,D7];exact oY c l _
theorem ve {c:UInt8}(h:isD c=true):48≤c.toNat∧c.toNat≤57:=by simpa[isD] using h
def H7 (k:Nat)(s:List UInt8):Option (Int×List UInt8):=if k≤s.length∧(s.take k).all isD=true then some (D7 0 (s.take k),s.drop k) else none
end Go.Proofs.YtamoeblcphjbaaaGreatDoor
namespace Go.Proofs.YtamoeblcphjbaaaGreatDoor
open Go Go.Ab
attribute [local irreducible] vc
theorem kH:∀ k:Nat,Lib.repeatL [48] k=List.replicate k 48
 | 0=>rfl
 | k+1=>by rw[Lib.repeatL,kH k];rfl
theorem n7 (k:Nat)(h:k≤17):aq Tryz.prog aC 88 [.str [48],.int .i64 (k:Int)] (.str (List.replicate k 48)):=by
 have h1:=kG [48] (k:Int) (by omega) (by omega) (by simp;omega)
 rw[Int.toNat_natCast,kH] at h1;exact h1
def aN:Nat→Nat→List UInt8
 | 0,_=>[]
 | k+1,n=>aN k (n / 10)++[UInt8.ofNat (48+n % 10)]
theorem aL:∀ (k n:Nat),(aN k n).length=k
 | 0,_=>rfl
 | k+1,n=>by simp[aN,aL k]
theorem k9:∀ k:Nat,aN k 0=List.replicate k 48
 | 0=>rfl
 | k+1=>by rw[aN,show 0 / 10=0 from rfl,k9 k,List.replicate_succ'];rfl
theorem dg:∀ (k f n:Nat),n<10 ^ f→n<10 ^ (k+1)→0<f→List.replicate (k+1 - (aS f n).length) 48++aS f n=aN (k+1) n
 | k,0,n,_,_,h=>absurd h (by omega)
 | k,f+1,n,hf,hk,_=>by
   rw[aS]
   by_cases h:n<10
   ·rw[if_pos h,aN,show n / 10=0 by omega,k9,show n % 10=n by omega]
    simp
   ·rw[if_neg h]
    cases k with
    | zero=>simp at hk;omega
    | succ k=>
      have hf':n / 10<10 ^ f:=by rw[Nat.pow_succ] at hf;exact Nat.div_lt_of_lt_mul (by rw[Nat.mul_comm];exact hf)
      have hk':n / 10<10 ^ (k+1):=by rw[Nat.pow_succ] at hk;exact Nat.div_lt_of_lt_mul (by rw[Nat.mul_comm];exact hk)
      have h0:0<f:=by
       cases f with
       | zero=>simp at hf;omega
       | succ f=>omega
      have ih:=dg k f (n / 10) hf' hk' h0
      rw[aN,← ih,List.length_append,List.append_assoc]
      simp
theorem u7 {n:Int}{k:Nat}(h0:0≤n)(hk:k≤16)(h1:n.toNat<10 ^ (k+1)):List.replicate (k+1 - (bS n).length) 48++bS n=aN (k+1) n.toNat:=by
 unfold bS
 rw[if_neg (by omega)]
 exact dg k 20 n.toNat (Nat.lt_of_lt_of_le h1 (Nat.pow_le_pow_right (by omega) (by omega))) h1 (by omega)
theorem cZ {n:Int}{k:Nat}(h0:0≤n)(hk:k≤8)(h1:n.toNat<10 ^ (k+1)):aq Tryz.prog aC 90 [.int .i64 n,.int .i64 ((k+1:Nat):Int)] (.str (aN (k+1) n.toNat)):=by
 have hp:10 ^ (k+1)≤10 ^ 9:=Nat.pow_le_pow_right (by omega) (by omega)
 have hi:=jQ n (by omega) (by omega)
 have hL:=u7 h0 (by omega:k≤16) h1
 have hl:=g9 n
 have hr:=n7 (k+1 - (bS n).length) (by omega)
 generalize bS n=L at *
 have hm:max (0:Int) ((k:Int)+1 - (L.length:Int))=((k+1 - L.length:Nat):Int):=by omega
 rw[← hm] at hr
 refine aq.intro Hb (by simp[F90]) ?_
 simp(disch:=try exact dI) only[F90,push_cast,seval]
 refine ab.pure hi rfl ?_
 simp(disch:=try exact dI) only[push_cast,seval]
 refine ab.pure hr rfl ?_
 simp(disch:=try exact dI) only[hL,push_cast,seval]
end Go.Proofs.YtamoeblcphjbaaaGreatDoor
-- many steps
namespace Go.Proofs.YtamoeblcphjbaaaGreatDoor
open Go Go.Ab
attribute [local irreducible] vc
def bR (y:Int)(m:Nat)(d:Int):List UInt8:=aN 4 y.toNat++[45]++aN 2 m++[45]++aN 2 d.toNat
theorem sm (y:Int)(m:Nat)(d:Int):(bR y m d).length=10:=by simp[bR,aL]
theorem AW {y:Int}{m:Nat}{d:Int}(h:DateOk y m d):aq Tryz.prog aC 43 [.int .i64 (iE y m d - 719162)] (.tup [.str (bR y m d),.int .i64 0]):=by
 have hc:=Eb h
 have hy1:=h.y1
 have hy2:=h.y2
 have hm1:=h.m1
 have hm2:=h.m2
 have hd1:=h.d1
 have hd2:=h.d2
 have hmd:=eQ y m
 have p1:=cZ (n:=y) (k:=3) (by omega) (by omega) (by simp;omega)
 have p2:=cZ (n:=(m:Int)) (k:=1) (by omega) (by omega) (by simp;omega)
 have p3:=cZ (n:=d) (k:=1) (by omega) (by omega) (by simp;omega)
 simp only[Nat.reduceAdd,Int.toNat_natCast] at p1 p2 p3
 have l1:=aL 4 y.toNat
 have l2:=aL 2 m
 have l3:=aL 2 d.toNat
 unfold bR
 generalize aN 4 y.toNat=t1 at *
 generalize aN 2 m=t2 at *
 generalize aN 2 d.toNat=t3 at *
 generalize iE y m d - 719162=n at *
 refine aq.intro Hz (by simp[F43]) ?_
 simp(disch:=try exact dI) only[F43,push_cast,seval]
 refine ab.pure hc rfl ?_
 simp(disch:=try exact dI) only[push_cast,seval]
 refine ab.pure p1 rfl ?_
 simp(disch:=try exact dI) only[push_cast,seval]
 refine ab.pure p2 rfl ?_
 simp(disch:=try exact dI) only[push_cast,seval]
 refine ab.pure p3 rfl ?_
 simp(disch:=try exact dI) only[push_cast,seval]
theorem Cj {d r:Int}(h1:-719162≤d∧d≤2932896)(h2:0≤r∧r≤86399999):aq Tryz.prog aC 91 [.int .i64 (d*86400000+r)] (.tup [.int .i64 d,.int .i64 r,.int .i64 0]):=by
 have hin:=nh (n:=d*86400000+r) (lo:=-62135596800000) (hi:=253402300799999) ⟨by omega,by omega⟩
 obtain⟨n,hn⟩:∃ n,n=d*86400000+r:=⟨_,rfl⟩
 have e1:=eI (a:=n - -62135596800000) (b:=86400000) (by omega)
 have e2:=fG (a:=n - -62135596800000) (b:=86400000) (by omega)
 have e3:-719162+(n - -62135596800000) / 86400000=d:=by omega
 have e4:(n - -62135596800000) % 86400000=r:=by omega
 rw[← hn] at hin ⊢
 refine aq.intro Ha (by simp[F91]) ?_
 simp(disch:=try exact dI) only[F91,push_cast,seval]
 refine ab.pure hin rfl ?_
 simp(disch:=try exact dI) only[e1,e2,e3,e4,push_cast,seval]
def eH (t:List UInt8)(h mi s ms:Nat):List UInt8:=t++([84]++aN 2 h++[58]++aN 2 mi++[58]++aN 2 s)++(if ms=0 then [] else [46]++aN 3 ms)++[90]
theorem py {y:Int}{m:Nat}{d:Int}(hD:DateOk y m d){h mi s ms:Nat}(h1:h≤23)(h2:mi≤59)(h3:s≤59)(h4:ms≤999) :
  aq Tryz.prog aC 44 [.int .i64 ((iE y m d - 719162)*86400000+((((60*(h:Int)+mi)*60+s)*1000+ms)))] (.tup [.str (eH (bR y m d) h mi s ms),.int .i64 0]):=by
 have hr:=lR hD
 have hs:=Cj (d:=iE y m d - 719162) (r:=((60*(h:Int)+mi)*60+s)*1000+ms) ⟨by omega,by omega⟩ ⟨by omega,by omega⟩
 have ht:=AW hD
 have htl:=sm y m d
 have p1:=cZ (n:=(h:Int)) (k:=1) (by omega) (by omega) (by simp;omega)
 have p2:=cZ (n:=(mi:Int)) (k:=1) (by omega) (by omega) (by simp;omega)
 have p3:=cZ (n:=(s:Int)) (k:=1) (by omega) (by omega) (by simp;omega)
 have p4:=cZ (n:=(ms:Int)) (k:=2) (by omega) (by omega) (by simp;omega)
 simp only[Nat.reduceAdd,Int.toNat_natCast] at p1 p2 p3 p4
 have l1:=aL 2 h
 have l2:=aL 2 mi
 have l3:=aL 2 s
 have l4:=aL 3 ms
 obtain⟨r,hr⟩:∃ r,r=((60*(h:Int)+mi)*60+s)*1000+ms:=⟨_,rfl⟩
 rw[← hr] at hs ⊢
 have q1:=eI (a:=r) (b:=1000) (by omega)
 have q2:=eI (a:=r / 1000) (b:=3600) (by omega)
 have q3:=eI (a:=r / 1000) (b:=60) (by omega)
 have q4:=fG (a:=r / 1000 / 60) (b:=60) (by omega)
 have q5:=fG (a:=r / 1000) (b:=60) (by omega)
 have q6:=fG (a:=r) (b:=1000) (by omega)
 have g2:r / 1000 / 3600=h:=by omega
 have g3:r / 1000 / 60 % 60=mi:=by omega
 have g4:r / 1000 % 60=s:=by omega
 have g5:r % 1000=ms:=by omega
 have hrb:0≤r∧r≤86399999:=⟨by omega,by omega⟩
 clear hr
 unfold eH
 generalize bR y m d=t0 at *
 generalize aN 2 h=t1 at *
 generalize aN 2 mi=t2 at *
 generalize aN 2 s=t3 at *
 generalize aN 3 ms=t4 at *
 generalize iE y m d - 719162=n at *
 generalize n*86400000+r=N at *
 by_cases hm:ms=0
 ·rw[if_pos hm,List.append_nil]
  subst hm
  refine aq.intro BN (by simp[F44]) ?_
  simp(disch:=try exact dI) only[F44,push_cast,seval]
  refine ab.pure hs rfl ?_
  simp(disch:=try exact dI) only[push_cast,seval]
  refine ab.pure ht rfl ?_
  simp(disch:=try exact dI) only[q1,q2,g2,push_cast,seval]
  refine ab.pure p1 rfl ?_
  simp(disch:=try exact dI) only[q3,q4,g3,push_cast,seval]
  refine ab.pure p2 rfl ?_
  simp(disch:=try exact dI) only[q5,g4,push_cast,seval]
  refine ab.pure p3 rfl ?_
  simp(disch:=try exact dI) only[q6,g5,push_cast,seval]
 ·rw[if_neg hm]
  refine aq.intro BN (by simp[F44]) ?_
  simp(disch:=try exact dI) only[F44,push_cast,seval]
  refine ab.pure hs rfl ?_
  simp(disch:=try exact dI) only[push_cast,seval]
  refine ab.pure ht rfl ?_
  simp(disch:=try exact dI) only[q1,q2,g2,push_cast,seval]
  refine ab.pure p1 rfl ?_
  simp(disch:=try exact dI) only[q3,q4,g3,push_cast,seval]
  refine ab.pure p2 rfl ?_
  simp(disch:=try exact dI) only[q5,g4,push_cast,seval]
  refine ab.pure p3 rfl ?_
  have hm':¬ (ms:Int)=0:=by omega
  simp(disch:=try exact dI) only[q6,g5,push_cast,seval]
  refine ab.pure p4 rfl ?_
  simp(disch:=try exact dI) only[push_cast,seval]
end Go.Proofs.YtamoeblcphjbaaaGreatDoor
