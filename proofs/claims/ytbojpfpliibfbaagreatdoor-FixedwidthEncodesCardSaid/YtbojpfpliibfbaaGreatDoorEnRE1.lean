/- A part of the proof. -/
import Derived.Test.YtbojpfpliibfbaaGreatDoorEnRC17
set_option maxHeartbeats 16000000
set_option maxRecDepth 100000
set_option linter.unusedVariables false
set_option linter.unusedSimpArgs false
-- many steps
namespace Go.Proofs.YtbojpfpliibfbaaGreatDoor
open Go Go.Ab
attribute [local irreducible] vc
theorem dz (n c:Nat)(hn:n<=1000000000000)(hc:c<=20):am Tryz.prog az 153 [.int .i64 (n:Int),.int .i64 (c:Int)] (.str (bU c n)):=by
 refine am.intro Py.2 (by simp[Py]) ?_
 simp(disch:=try exact dI) only[Py,push_cast,seval]
 refine au ([]) (fun i:Nat=>[(0,.pv (.int .i64 ((n / 10 ^ i:Nat):Int))),(5,.pv (.str (bU i n))),(6,.pv (.int .i64 (i:Int)))]) (fun _=>[]) (fun i=>i<=c) (fun i=>c - i) (0) ?_;intro e0 σ0 n0 h0;simp(disch:=try exact dI) only[push_cast,seval] at h0;obtain⟨rfl,rfl,rfl⟩:=h0;refine⟨?_,?_,?_⟩
 ·simp(disch:=try exact dI) only[bU,Nat.pow_zero,Nat.div_one,push_cast,seval]
 ·omega
 rintro i hi
 by_cases hlt:i<c
 ·have hltI:(i:Int)<(c:Int):=by omega
  have hs:=j4 i n
  have hq:n / 10 ^ (i+1)=n / 10 ^ i / 10:=by rw[Nat.pow_succ,Nat.div_div_eq_div_mul]
  have hle:n / 10 ^ i<=n:=Nat.div_le_self ..
  have hll:=aQ i n
  generalize n / 10 ^ i=q at *
  generalize bU i n=T at *
  have ht:(48+(q:Int) % 10).toNat=48+q % 10:=by omega
  have hqI:(q:Int) / 10=(n:Int) / 10 ^ (i+1):=by
   have h:((n / 10 ^ (i+1):Nat):Int)=((q / 10:Nat):Int):=by rw[hq]
   push_cast at h
   exact h.symm
  simp(disch:=try exact dI) only[ht,push_cast,seval]
  exact⟨i+1,aM (by simp(disch:=try exact dI) only[hs,hqI,push_cast,seval]),by omega,by omega⟩
 ·obtain rfl:i=c:=by omega
  simp(disch:=try exact dI) only[Int.lt_irrefl,push_cast,seval]
theorem GO {y z:Int}(h1:1<=y)(h:y<=z):cy y<=cy z:=by
 unfold cy;omega
theorem GP {y:Int}(h:1<=y):cy y<=366*(y - 1):=by
 unfold cy;omega
theorem Fj {y:Int}{m:Nat}{d:Int}(h:DateOk y m d):am Tryz.prog az 152 [.int .i64 (fR y m d - 719162)] (.tup [.int .i64 y,.int .i64 (m:Int),.int .i64 d]):=by
 have hb:=kF h
 obtain⟨h1,h2,h3,h4,h5,h6⟩:=h
 have hbu:=GP (y:=y+1) (by omega)
 have hbl:0<=cy y:=by unfold cy;omega
 have hD:fR y m d=cy y+cR y (m - 1)+d - 1:=rfl
 have hN:fR y m d<=3652424:=by
  have:=GO (y:=y+1) (z:=10000) (by omega) (by omega)
  have e:cy 10000=3652059:=by decide
  omega
 generalize fR y m d=N at *
 obtain⟨k0,hk0⟩:∃ k0:Nat,k0=(N / 366).toNat:=⟨_,rfl⟩
 have hq:N - 719162+719162=N:=by omega
 have hdiv:N.tdiv 366=(k0:Int):=by rw[Int.tdiv_eq_ediv_of_nonneg (by omega)];omega
 have hk1:(k0:Int)+1<=y:=by
  have hlt:N<366*y:=by
   have:=GP (y:=y+1) (by omega)
   omega
  omega
 refine am.intro Pz.2 (by simp[Pz]) ?_
 simp(disch:=try exact dI) only[Pz,hq,hdiv,push_cast,seval]
 have hstop:∀ z:Int,1<=z->z<=y->N<cy (z+1)->z=y:=fun z z1 z2 z3=>by
  by_cases hz:z=y
  ·exact hz
  ·have:=GO (y:=z+1) (z:=y) (by omega) (by omega)
   omega
 have hk:(N - 719162 - -719162) / 366=(k0:Int):=by omega
 refine G3 ([]) (fun j:Nat=>[(2,.pv (.int .i64 ((k0:Int)+1+j)))]) (fun _=>[]) (fun j=>(k0:Int)+1+j<=y) (fun j=>(y - ((k0:Int)+1+j)).toNat) (0) ([0,2]) (fun j=>(k0:Int)+1+j=y) ?_;intro e0 σ0 n0 h0;simp(disch:=try exact dI) only[push_cast,seval] at h0;obtain⟨rfl,rfl,rfl⟩:=h0;refine⟨?_,?_,?_,?_⟩
 ·simp(disch:=try exact dI) only[hk,Int.add_zero,push_cast,seval]
 ·omega
 ·rintro j hj
  generalize hz:(k0:Int)+1+(j:Int)=z at hj
  have hz1:1<=z:=by omega
  by_cases h9:z<9999
  ·have hr:=xW (y:=z+1) (m:=1) (d:=1) ⟨by omega,by omega,by omega,by omega,by omega,by have:=(ct (z+1) ((1:Nat):Int)).1;omega⟩
   rw[show fR (z+1) 1 1=cy (z+1) by unfold fR;simp[cR]] at hr
   have hb1:0<=cy (z+1)/\cy (z+1)<=4000000:=by unfold cy;omega
   have hst:=hstop z hz1 hj
   have hgo:¬ N<cy (z+1)->z+1<=y:=fun h=>by
    by_cases hzy:z=y
    ·subst hzy;exact absurd hb.2 h
    ·omega
   have hz2:(k0:Int)+1+((j:Int)+1)=z+1:=by omega
   generalize cy (z+1)=B at *
   by_cases hB:N<B
   ·have hBI:N - 719162<B - 719162:=by omega
    simp(disch:=try exact dI) only[h9,hz,push_cast,seval]
    refine ab.pure hr rfl ?_
    simp(disch:=try exact dI) only[hBI,hz,push_cast,seval]
    exact⟨j,by rw[hz];exact hst hB,by simp(disch:=try exact dI) only[hz,push_cast,seval]⟩
   ·have hBI:¬ N - 719162<B - 719162:=by omega
    simp(disch:=try exact dI) only[h9,hz,push_cast,seval]
    refine ab.pure hr rfl ?_
    simp(disch:=try exact dI) only[hBI,hz,push_cast,seval]
    have:=hgo hB
    exact⟨j+1,aM (by simp(disch:=try exact dI) only[hz2,push_cast,seval]),by omega,by omega⟩
  ·simp(disch:=try exact dI) only[h9,hz,push_cast,seval]
   exact⟨j,by omega,by simp(disch:=try exact dI) only[hz,push_cast,seval]⟩
 intro j hj s1 hs1;simp(disch:=try exact dI) only[push_cast,seval] at hs1;subst hs1
 simp(disch:=try exact dI) only[hj,push_cast,seval]
 have hr:=xW (y:=y) (m:=1) (d:=1) ⟨h1,h2,by omega,by omega,by omega,by have:=(ct y ((1:Nat):Int)).1;omega⟩
 rw[show fR y 1 1=cy y by unfold fR;simp[cR]] at hr
 refine ab.pure hr rfl ?_
 have hbu2:cy y<=4000000:=by omega
 have hle:∀ j:Nat,j+1<m->cR y (j+1)<=cR y (m - 1):=fun j hj=>by
  have:=cq y (m - 1 - (j+1)) (j+1)
  rw[show j+1+(m - 1 - (j+1))=m - 1 by omega] at this
  omega
 have hs0:∀ j:Nat,0<=cR y j:=fun j=>by
  have:=cq y j 0
  rw[Nat.zero_add,show cR y 0=0 from rfl] at this
  omega
 generalize cy y=B at *
 have hsub:N - 719162 - (B - 719162)=N - B:=by omega
 simp(disch:=try exact dI) only[hsub,push_cast,seval]
 refine au ([]) (fun i:Nat=>[(3,.pv (.int .i64 ((i:Int)+1))),(5,.pv (.int .i64 (N - B - cR y i)))]) (fun _=>[]) (fun i=>i+1<=m) (fun i=>m - i) (0) ?_;intro e0 σ0 n0 h0;simp(disch:=try exact dI) only[push_cast,seval] at h0;obtain⟨rfl,rfl,rfl⟩:=h0;refine⟨?_,?_,?_⟩
 ·simp(disch:=try exact dI) only[show cR y 0=0 from rfl,Int.sub_zero,push_cast,seval]
 ·omega
 rintro i hi
 have hm:=mG h1 h2 (i+1) (by omega) (by omega)
 have hsi:=hs0 i
 have hmb:=ct y ((i+1:Nat):Int)
 have hss:cR y (i+1)=cR y i+mdI y ((i+1:Nat):Int):=rfl
 by_cases hlt:i+1<m
 ·have hl:=hle i hlt
  generalize mdI y ((i+1:Nat):Int)=M at *
  generalize cR y i=S at *
  have hge:M<=N - B - S:=by omega
  refine zgZ ?_
  refine ab.pure hm rfl ?_
  simp(disch:=try exact dI) only[hge,push_cast,seval]
  refine ab.pure hm rfl ?_
  refine zgZ ?_
  exact⟨i+1,aM (by simp(disch:=try exact dI) only[hss,Int.sub_sub,Int.add_assoc,push_cast,seval]),by omega,by omega⟩
 ·obtain rfl:m=i+1:=by omega
  rw[Nat.add_sub_cancel] at hD
  generalize mdI y ((i+1:Nat):Int)=M at *
  generalize cR y i=S at *
  have hge:¬ M<=N - B - S:=by omega
  have hd:N - B - S+1=d:=by omega
  refine zgZ ?_
  refine ab.pure hm rfl ?_
  simp(disch:=try exact dI) only[hge,hd,push_cast,seval]
theorem xG {y:Int}{m:Nat}{d:Int}(h:DateOk y m d):am Tryz.prog az 99 [.int .i64 (fR y m d - 719162)] (.str (fg y m d)):=by
 have hc:=Fj h
 have hmb:=ct y (m:Int)
 obtain⟨h1,h2,h3,h4,h5,h6⟩:=h
 have hy:=dz y.toNat 4 (by omega) (by omega)
 have hm:=dz m 2 (by omega) (by omega)
 have hd:=dz d.toNat 2 (by omega) (by omega)
 rw[show ((y.toNat:Nat):Int)=y by omega] at hy
 rw[show ((d.toNat:Nat):Int)=d by omega] at hd
 have l1:=aQ 4 y.toNat
 have l2:=aQ 2 m
 have l3:=aQ 2 d.toNat
 unfold fg
 generalize bU 4 y.toNat=a at *
 generalize bU 2 m=b at *
 generalize bU 2 d.toNat=c at *
 generalize fR y m d - 719162=N at *
 refine am.intro Q99.2 (by simp[Q99]) ?_
 simp(disch:=try exact dI) only[Q99,push_cast,seval]
 refine ab.pure hc rfl ?_
 refine zgZ ?_
 refine ab.pure hy rfl ?_
 refine zgZ ?_
 refine ab.pure hm rfl ?_
 refine zgZ ?_
 refine ab.pure hd rfl ?_
 exact qsZ
end Go.Proofs.YtbojpfpliibfbaaGreatDoor
-- many steps
namespace Go.Proofs.YtbojpfpliibfbaaGreatDoor
open Go Go.Ab
attribute [local irreducible] vc
theorem CJ (n:Int)(h1:-1000000000000000<=n)(h2:n<=1000000000000000):am Tryz.prog az 154 [.int .i64 n] (.tup [.int .i64 (n / 86400000),.int .i64 (n % 86400000)]):=by
 obtain⟨q,hq⟩:∃ q,q=n.tdiv 86400000:=⟨_,rfl⟩
 obtain⟨r,hr⟩:∃ r,r=n.tmod 86400000:=⟨_,rfl⟩
 have hqr:(0<=r/\q=n / 86400000/\r=n % 86400000)\/(r<0/\q - 1=n / 86400000/\r+86400000=n % 86400000):=by
  by_cases h0:0<=n
  ·rw[de h0] at hq
   rw[dr h0] at hr
   left;omega
  ·have e:n = -(-n):=by omega
   rw[e,Int.neg_tdiv,de (by omega)] at hq
   rw[e,Int.neg_tmod,dr (by omega)] at hr
   omega
 refine am.intro NA.2 (by simp[NA]) ?_
 rcases hqr with ⟨c,e1,e2⟩ | ⟨c,e1,e2⟩
 ·rw[<- e1,<- e2]
  have c':¬ r<0:=by omega
  simp(disch:=try exact dI) only[NA,<- hq,<- hr,c',push_cast,seval]
 ·rw[<- e1,<- e2]
  simp(disch:=try exact dI) only[NA,<- hq,<- hr,c,push_cast,seval]
theorem CT {y:Int}{m:Nat}{d:Int}(hD:DateOk y m d){h mi s ms:Nat}(h1:h<=23)(h2:mi<=59)(h3:s<=59)(h4:ms<=999) :
  am Tryz.prog az 100 [.int .i64 ((fR y m d - 719162)*86400000+((((60*(h:Int)+mi)*60+s)*1000+ms)))] (.str (mj (fg y m d) h mi s ms)):=by
 have hr:=gX hD
 have ht:=xG hD
 have htl:=gu y m d
 obtain⟨r,hre⟩:∃ r,r=((60*(h:Int)+mi)*60+s)*1000+ms:=⟨_,rfl⟩
 rw[<- hre]
 have hDr:-719162<=fR y m d - 719162/\fR y m d - 719162<=2932896:=by omega
 clear hr
 generalize fR y m d - 719162=D at *
 have hs:=CJ (D*86400000+r) (by omega) (by omega)
 rw[show (D*86400000+r) / 86400000=D by omega,show (D*86400000+r) % 86400000=r by omega] at hs
 have p1:=dz h 2 (by omega) (by omega)
 have p2:=dz mi 2 (by omega) (by omega)
 have p3:=dz s 2 (by omega) (by omega)
 have p4:=dz ms 3 (by omega) (by omega)
 have l1:=aQ 2 h
 have l2:=aQ 2 mi
 have l3:=aQ 2 s
 have l4:=aQ 3 ms
 unfold mj
 generalize bU 2 h=a1 at *
 generalize bU 2 mi=a2 at *
 generalize bU 2 s=a3 at *
 generalize bU 3 ms=a4 at *
 generalize fg y m d=T at *
 have q1:r / 3600000=(h:Int):=by omega
 have q2:r / 60000 % 60=(mi:Int):=by omega
 have q3:r / 1000 % 60=(s:Int):=by omega
 have q4:r % 1000=(ms:Int):=by omega
 generalize D*86400000+r=N at *
 refine am.intro NG.2 (by simp[NG]) ?_
 by_cases hz:ms=0
 ·subst hz
  rw[if_pos rfl]
  simp(disch:=try exact dI) only[NG,push_cast,seval]
  refine ab.pure hs rfl ?_
  refine zgZ ?_
  refine ab.pure ht rfl ?_
  simp(disch:=try exact dI) only[q1,push_cast,seval]
  refine ab.pure p1 rfl ?_
  simp(disch:=try exact dI) only[q2,push_cast,seval]
  refine ab.pure p2 rfl ?_
  simp(disch:=try exact dI) only[q3,push_cast,seval]
  refine ab.pure p3 rfl ?_
  simp(disch:=try exact dI) only[q4,List.append_assoc,List.append_nil,List.cons_append,List.nil_append,push_cast,seval]
 ·rw[if_neg hz]
  have hzI:¬ (ms:Int)=0:=by omega
  simp(disch:=try exact dI) only[NG,push_cast,seval]
  refine ab.pure hs rfl ?_
  refine zgZ ?_
  refine ab.pure ht rfl ?_
  simp(disch:=try exact dI) only[q1,push_cast,seval]
  refine ab.pure p1 rfl ?_
  simp(disch:=try exact dI) only[q2,push_cast,seval]
  refine ab.pure p2 rfl ?_
  simp(disch:=try exact dI) only[q3,push_cast,seval]
  refine ab.pure p3 rfl ?_
  simp(disch:=try exact dI) only[q4,hzI,push_cast,seval]
  refine ab.pure p4 rfl ?_
  simp(disch:=try exact dI) only[List.append_assoc,List.append_nil,List.cons_append,List.nil_append,push_cast,seval]
theorem qy (l:List TFd)(g:Nat)(cs:List PV)(q:TFd->Bool)(hq:∀ x∈l,am Tryz.prog az g (x.pv::cs) (.bool (q x)))(hl:l.length<=9000000000000) :
  am Tryz.prog az 193 [.list (l.map TFd.pv),.clo g [] cs] (.int .i64 (d7 q l 0)):=by
 refine am.intro Kv.2 (by simp[Kv]) ?_
 simp(disch:=try exact dI) only[Kv,push_cast,seval]
 refine au ([]) (fun m:Nat=>[(8,.pv (.int .i64 (m:Int)))]) (fun m=>[]) (fun m=>m<=l.length/\d7 q l 0=d7 q (l.drop m) m) (fun m=>l.length - m) (0) ?_;intro e0 σ0 n0 h0;simp(disch:=try exact dI) only[push_cast,seval] at h0;obtain⟨rfl,rfl,rfl⟩:=h0;refine⟨?_,?_,?_⟩
 ·exact qsZ
 ·exact⟨by omega,by simp⟩
 ·rintro m ⟨hm,he⟩
  by_cases hlt:m<l.length
  ·have hltI:(m:Int)<l.length:=by omega
   obtain⟨x,hx⟩:∃ x,l[m]? = some x:=⟨_,List.getElem?_eq_getElem hlt⟩
   have hcall:=hq x (List.mem_of_getElem? hx)
   simp(disch:=try exact dI) only[hx,TFd.cells_len,TFd.isAgg,push_cast,seval]
   refine ab.pure hcall (by exact nU (x.pv::cs)) ?_
   cases hqx:q x with
   | true=>
     rw[he,dX hx hqx]
     exact qsZ
   | false=>
     rw[cQ hx hqx] at he
     refine zgZ ?_
     exact⟨m+1,aM qsZ,⟨by omega,he⟩,by omega⟩
  ·have hltI:¬ (m:Int)<l.length:=by omega
   rw[he,dY hlt]
   exact qsZ
theorem lW (l:List TFd)(g:Nat)(cs:List PV)(q:TFd->Bool)(hq:∀ x∈l,am Tryz.prog az g (x.pv::cs) (.bool (q x)))(hl:l.length<=9000000000000) :
  am Tryz.prog az 129 [.list (l.map TFd.pv),.clo g [] cs] (.bool (l.any q)):=by
 have h94:=qy l g cs q hq hl
 have hfa:=eI (p:=q) l
 refine am.intro GS.2 (by simp[GS]) ?_
 rcases bx (p:=q) l 0 with ⟨h1,h2⟩ | ⟨k,x,h1,h2,h3⟩
 ·rw[h2] at h94
  rw[h1] at hfa
  rw[<- hfa]
  simp(disch:=try exact dI) only[GS,push_cast,seval]
  refine ab.pure h94 rfl ?_
  refine zgZ ?_
  exact .refl _
 ·rw[h3] at h94
  rw[h2] at hfa
  rw[<- hfa]
  have hk:(0:Int)<=((0+k:Nat):Int):=by omega
  generalize ((0+k:Nat):Int)=z at *
  simp(disch:=try exact dI) only[GS,push_cast,seval]
  refine ab.pure h94 rfl ?_
  refine zgZ ?_
  exact .refl _
def jd (f:TFd):Bool:=decide (f.typ.kind<1)||decide (7<f.typ.kind)
theorem Mc (f:TFd):am Tryz.prog az 130 [f.pv] (.bool (jd f)):=by
 obtain⟨a,b,c,⟨k,m,n,s,w,e,fs⟩,d⟩:=f
 refine am.intro Na.2 (by simp[Na]) ?_
 simp only[jd,TFd.typ,Typ.kind]
 by_cases h1:k<1
 ·simp(disch:=try exact dI) only[Na,TFd.pv_mk,Typ.pv_mk,push_cast,seval]
  simp[h1]
 ·by_cases h2:7<k
  ·simp(disch:=try exact dI) only[Na,TFd.pv_mk,Typ.pv_mk,push_cast,seval]
   simp[h1,h2]
  ·simp(disch:=try exact dI) only[Na,TFd.pv_mk,Typ.pv_mk,push_cast,seval]
   simp[h1,h2]
def eF:Typ->Bool
 | .mk k _ _ _ _ _ f=>decide (k=9)&&(decide (0<f.length)&&!(f.any jd))
theorem LS (t:Typ)(h:t.fields.length<=9000000000000):am Tryz.prog az 74 [t.pv] (.bool (eF t)):=by
 obtain⟨k,m,n,s,w,e,f⟩:=t
 simp only[Typ.fields] at h
 have h64:=lW f 130 [] jd (fun x _=>Mc x) (by omega)
 refine am.intro Q74.2 (by simp[Q74]) ?_
 simp only[eF]
 by_cases h1:k=9
 ·by_cases h2:0<f.length
  ·have h2I:(0:Int)<f.length:=by omega
   simp(disch:=try exact dI) only[Q74,Typ.pv_mk,h1,push_cast,seval]
   refine ab.pure h64 rfl ?_
   exact qsZ
  ·have h2I:¬ (0:Int)<f.length:=by omega
   simp(disch:=try exact dI) only[Q74,Typ.pv_mk,h1,push_cast,seval]
 ·simp(disch:=try exact dI) only[Q74,Typ.pv_mk,h1,push_cast,seval]
end Go.Proofs.YtbojpfpliibfbaaGreatDoor
-- many steps
namespace Go.Proofs.YtbojpfpliibfbaaGreatDoor
open Go Go.Ab
attribute [local irreducible] vc
def wk (s:List UInt8):Bool:=decide (s[s.length - 1]? = some 32)
def qr (c:UInt8):Bool:=decide (c.toNat<32)
def wrB (s:List UInt8):Bool:=!wk s&&!(s.any qr)
theorem AY {s:List UInt8}{c:UInt8}(h:s[s.length - 1]? = some c):s.drop (s.length - 1)=[c]:=by
 have hi:=(List.getElem?_eq_some_iff.1 h).1
 have he:s[s.length - 1]=c:=(List.getElem?_eq_some_iff.1 h).2
 rw[List.drop_eq_getElem_cons hi,he,List.drop_of_length_le (by omega)]
theorem xp (s:List UInt8)(hs:s.length<=140737488351232):am Tryz.prog az 132 [.str s,.str [32]] (.bool (wk s)):=by
 by_cases h0:s=[]
 ·subst h0
  rw[show wk []=false from rfl]
  refine am.intro J7.2 (by simp[J7]) ?_
  simp(disch:=try exact dI) only[J7,push_cast,seval]
 ·have hp:0<s.length:=List.length_pos_iff.2 h0
  obtain⟨c,hc⟩:∃ c,s[s.length - 1]? = some c:=⟨_,List.getElem?_eq_getElem (by omega)⟩
  have hd:=AY hc
  have h1:(1:Int)<=(s.length:Int):=by omega
  have et:((s.length:Int) - 1).toNat=s.length - 1:=by omega
  have hEq:wk s=decide (c=32):=by unfold wk;rw[hc];simp
  rw[hEq]
  refine am.intro J7.2 (by simp[J7]) ?_
  by_cases h:c=32
  ·subst h
   rw[decide_eq_true rfl]
   simp(disch:=try exact dI) only[J7,h1,et,hd,List.take_length,push_cast,seval]
  ·rw[decide_eq_false h]
   have hne:¬ [c]=([32]:List UInt8):=by simpa using h
   simp(disch:=try exact dI) only[J7,h1,et,hd,List.take_length,hne,push_cast,seval]
theorem CB (s:List UInt8)(hs:s.length<=140737488351232):am Tryz.prog az 77 [.str s,.str [32]] (.bool (wk s)):=by
 have h:=xp s hs
 generalize wk s=b at *
 refine am.intro Q77.2 (by simp[Q77]) ?_
 simp(disch:=try exact dI) only[Q77,push_cast,seval]
 refine ab.pure h rfl ?_
 exact qsZ
theorem Od (c:UInt8):am Tryz.prog az 79 [.int .u8 (c.toNat:Int)] (.bool (qr c)):=by
 unfold qr
 refine am.intro Q79.2 (by simp[Q79]) ?_
 by_cases h:c.toNat<32
 ·have hI:(c.toNat:Int)<32:=by omega
  rw[decide_eq_true h]
  simp(disch:=try exact dI) only[Q79,hI,push_cast,seval]
 ·have hI:¬ (c.toNat:Int)<32:=by omega
  rw[decide_eq_false h]
  simp(disch:=try exact dI) only[Q79,hI,push_cast,seval]
theorem BD (s:List UInt8):(aI s).length=s.length:=by simp[aI]
theorem sQ {s:List UInt8}{i:Nat}{c:UInt8}(h:s[i]? = some c):(aI s)[i]? = some (.int .u8 (c.toNat:Int)):=by simp[aI,h]
theorem EI (s:List UInt8)(hs:s.length<=140737488351232):am Tryz.prog az 133 [.list (aI s),.clo 79 [] []] (.int .i64 (d7 qr s 0)):=by
 refine am.intro PH.2 (by simp[PH]) ?_
 simp(disch:=try exact dI) only[PH,BD,push_cast,seval]
 refine au ([]) (fun m:Nat=>[(8,.pv (.int .i64 (m:Int)))]) (fun m=>[]) (fun m=>m<=s.length/\d7 qr s 0=d7 qr (s.drop m) m) (fun m=>s.length - m) (0) ?_;intro e0 σ0 n0 h0;simp(disch:=try exact dI) only[push_cast,seval] at h0;obtain⟨rfl,rfl,rfl⟩:=h0;refine⟨?_,?_,?_⟩
 ·exact qsZ
 ·exact⟨by omega,by simp⟩
 ·rintro m ⟨hm,he⟩
  by_cases hlt:m<s.length
  ·have hltI:(m:Int)<s.length:=by omega
   obtain⟨x,hx⟩:∃ x,s[m]? = some x:=⟨_,List.getElem?_eq_getElem hlt⟩
   have hcall:=Od x
   have hx':=sQ hx
   simp(disch:=try exact dI) only[hx',push_cast,seval]
   refine ab.pure hcall rfl ?_
   cases hqx:qr x with
   | true=>
     rw[he,dX hx hqx]
     exact qsZ
   | false=>
     rw[cQ hx hqx] at he
     refine zgZ ?_
     exact⟨m+1,aM qsZ,⟨by omega,he⟩,by omega⟩
  ·have hltI:¬ (m:Int)<s.length:=by omega
   rw[he,dY hlt]
   exact qsZ
theorem vA (s:List UInt8)(hs:s.length<=140737488351232):am Tryz.prog az 78 [.list (aI s),.clo 79 [] []] (.bool (s.any qr)):=by
 have h94:=EI s hs
 have hfa:=eI (p:=qr) s
 refine am.intro Q78.2 (by simp[Q78]) ?_
 rcases bx (p:=qr) s 0 with ⟨h1,h2⟩ | ⟨k,x,h1,h2,h3⟩
 ·rw[h2] at h94
  rw[h1] at hfa
  rw[<- hfa]
  simp(disch:=try exact dI) only[Q78,push_cast,seval]
  refine ab.pure h94 rfl ?_
  refine zgZ ?_
  rfl
 ·rw[h3] at h94
  rw[h2] at hfa
  rw[<- hfa]
  have hk:(0:Int)<=((0+k:Nat):Int):=by omega
  generalize ((0+k:Nat):Int)=z at *
  simp(disch:=try exact dI) only[Q78,push_cast,seval]
  refine ab.pure h94 rfl ?_
  refine zgZ ?_
  rfl
theorem o7 (e:List (Nat×AV))(σ:List (Nat×Blk))(new:Nat)(x:AX):oW e σ new (.ofStr x)=ec new (evE e x):=_root_.id rfl
theorem tN (new:Nat){k:List UInt8}(h:k.length<=140737488355328):ec new (.pv (.str k))=some (.pv (.list (aI k)),[(new,.none)]):=by simp[ec,h]
theorem nu (s:List UInt8)(hs:s.length<=140737488351232):am Tryz.prog az 39 [.str s] (.bool (wrB s)):=by
 have h66:=CB s hs
 have h67:=vA s hs
 unfold wrB
 have hof:=fun new=>tN new (k:=s) (by omega)
 generalize wk s=a at *
 generalize s.any qr=b at *
 refine am.intro Q39.2 (by simp[Q39]) ?_
 simp(disch:=try exact dI) only[Q39,push_cast,seval]
 refine ab.pure h66 rfl ?_
 cases a with
 | true=>simp(disch:=try exact dI) only[push_cast,seval]
 | false=>
   simp(disch:=try exact dI) only[o7,hof,push_cast,seval]
   refine ab.pure h67 rfl ?_
   exact qsZ
end Go.Proofs.YtbojpfpliibfbaaGreatDoor
