/- A part. -/
import Derived.Test.YtbaaokocnegdoaaGreatDoorEnVC6
set_option linter.unusedVariables false
set_option linter.unusedSimpArgs false
set_option maxRecDepth 100000
open List renaming mem_cons->VY,replicate->VO,length_append->Vp,append_assoc->VQ,length_eq_zero_iff->Wh,append_nil->VZ,length_cons->Vq,length_nil->VV,take_length->VR
open Nat renaming pow_succ->Wd,div_lt_of_lt_mul->Wm,mul_comm->Wa,lt_of_lt_of_le->VE,pow_le_pow_right->Wg
open Int renaming toNat_natCast->WA
namespace Go.Proofs.YtbaaokocnegdoaaGreatDoor
open Go Go.Ab
attribute [local irreducible] vc
noncomputable def nD:List TabRow:=⟨139,[],gF Tryz.prog 139 []⟩::⟨140,[],gF Tryz.prog 140 []⟩::⟨185,[],gF Tryz.prog 185 []⟩::tab
theorem bA:∀ r∈nD,cFn Tryz.prog r.muts r.f=some r.fn:=by
 intro r hr
 simp only[nD,VY] at hr
 rcases hr with rfl | rfl | rfl | hr
 ·kernel_rfl
 ·kernel_rfl
 ·kernel_rfl
 ·exact JT r hr
theorem vh:∀ k:Nat,k<=17->ae Tryz.prog aq 89 [.str [48],.int .i64 (k:Int)] (.str (VO k 48))
 | 0,_=>ae.of_ex bA cn (by kernel_rfl:dA (exF nD orc aq 5000 60) 89 [.str [48],.int .i64 0]=some (.str (VO 0 48)))
 | 1,_=>ae.of_ex bA cn (by kernel_rfl:dA (exF nD orc aq 5000 60) 89 [.str [48],.int .i64 1]=some (.str (VO 1 48)))
 | 2,_=>ae.of_ex bA cn (by kernel_rfl:dA (exF nD orc aq 5000 60) 89 [.str [48],.int .i64 2]=some (.str (VO 2 48)))
 | 3,_=>ae.of_ex bA cn (by kernel_rfl:dA (exF nD orc aq 5000 60) 89 [.str [48],.int .i64 3]=some (.str (VO 3 48)))
 | 4,_=>ae.of_ex bA cn (by kernel_rfl:dA (exF nD orc aq 5000 60) 89 [.str [48],.int .i64 4]=some (.str (VO 4 48)))
 | 5,_=>ae.of_ex bA cn (by kernel_rfl:dA (exF nD orc aq 5000 60) 89 [.str [48],.int .i64 5]=some (.str (VO 5 48)))
 | 6,_=>ae.of_ex bA cn (by kernel_rfl:dA (exF nD orc aq 5000 60) 89 [.str [48],.int .i64 6]=some (.str (VO 6 48)))
 | 7,_=>ae.of_ex bA cn (by kernel_rfl:dA (exF nD orc aq 5000 60) 89 [.str [48],.int .i64 7]=some (.str (VO 7 48)))
 | 8,_=>ae.of_ex bA cn (by kernel_rfl:dA (exF nD orc aq 5000 60) 89 [.str [48],.int .i64 8]=some (.str (VO 8 48)))
 | 9,_=>ae.of_ex bA cn (by kernel_rfl:dA (exF nD orc aq 5000 60) 89 [.str [48],.int .i64 9]=some (.str (VO 9 48)))
 | 10,_=>ae.of_ex bA cn (by kernel_rfl:dA (exF nD orc aq 5000 60) 89 [.str [48],.int .i64 10]=some (.str (VO 10 48)))
 | 11,_=>ae.of_ex bA cn (by kernel_rfl:dA (exF nD orc aq 5000 60) 89 [.str [48],.int .i64 11]=some (.str (VO 11 48)))
 | 12,_=>ae.of_ex bA cn (by kernel_rfl:dA (exF nD orc aq 5000 60) 89 [.str [48],.int .i64 12]=some (.str (VO 12 48)))
 | 13,_=>ae.of_ex bA cn (by kernel_rfl:dA (exF nD orc aq 5000 60) 89 [.str [48],.int .i64 13]=some (.str (VO 13 48)))
 | 14,_=>ae.of_ex bA cn (by kernel_rfl:dA (exF nD orc aq 5000 60) 89 [.str [48],.int .i64 14]=some (.str (VO 14 48)))
 | 15,_=>ae.of_ex bA cn (by kernel_rfl:dA (exF nD orc aq 5000 60) 89 [.str [48],.int .i64 15]=some (.str (VO 15 48)))
 | 16,_=>ae.of_ex bA cn (by kernel_rfl:dA (exF nD orc aq 5000 60) 89 [.str [48],.int .i64 16]=some (.str (VO 16 48)))
 | 17,_=>ae.of_ex bA cn (by kernel_rfl:dA (exF nD orc aq 5000 60) 89 [.str [48],.int .i64 17]=some (.str (VO 17 48)))
 | k+18,h=>absurd h (by omega)
def aT:Nat->Nat->List UInt8
 | 0,_=>[]
 | k+1,n=>aT k (n / 10)++[UInt8.ofNat (48+n % 10)]
theorem aM:∀ (k n:Nat),(aT k n).length=k
 | 0,_=>rfl
 | k+1,n=>by simp[aT,aM k]
theorem qO:∀ k:Nat,aT k 0=VO k 48
 | 0=>rfl
 | k+1=>by rw[aT,show 0 / 10=0 from rfl,qO k,List.replicate_succ'];rfl
theorem fb:∀ (k f n:Nat),n<10 ^ f->n<10 ^ (k+1)->0<f->VO (k+1 - (bT f n).length) 48++bT f n=aT (k+1) n
 | k,0,n,_,_,h=>absurd h (by omega)
 | k,f+1,n,hf,hk,_=>by
   rw[bT]
   by_cases h:n<10
   ·rw[if_pos h,aT,show n / 10=0 by omega,qO,show n % 10=n by omega]
    simp
   ·rw[if_neg h]
    cases k with
    | zero=>simp at hk;omega
    | succ k=>
      have hf':n / 10<10 ^ f:=by rw[Wd] at hf;exact Wm (by rw[Wa];exact hf)
      have hk':n / 10<10 ^ (k+1):=by rw[Wd] at hk;exact Wm (by rw[Wa];exact hk)
      have h0:0<f:=by
       cases f with
       | zero=>simp at hf;omega
       | succ f=>omega
      have ih:=fb k f (n / 10) hf' hk' h0
      rw[aT,<- ih,Vp,VQ]
      simp
theorem HS:∀ (l:List UInt8),l.all isD=true->aT l.length (je 0 l).toNat=l:=by
 intro l
 induction hn:l.length generalizing l with
 | zero=>intro _;simp[Wh.1 hn,aT]
 | succ k ih=>
   intro h
   obtain⟨a,c,rfl⟩:∃ a c,l=a++[c]:=by
    refine⟨l.dropLast,l.getLast (by intro e;simp[e] at hn),(List.dropLast_concat_getLast _).symm⟩
   rw[List.all_append,Bool.and_eq_true] at h
   have hc:=mh (c:=c) (by simpa using h.2)
   have h0:=(dx a 0 (by omega) h.1).1
   rw[kK,aT]
   have e1:(10*je 0 a+((c.toNat:Int) - 48)).toNat / 10=(je 0 a).toNat:=by omega
   have e2:48+(10*je 0 a+((c.toNat:Int) - 48)).toNat % 10=c.toNat:=by omega
   rw[e1,e2,ih a (by simpa using hn) h.1]
   simp
theorem DR {n:Int}{k:Nat}(h0:0<=n)(hk:k<=16)(h1:n.toNat<10 ^ (k+1)):VO (k+1 - (gY n).length) 48++gY n=aT (k+1) n.toNat:=by
 unfold gY
 rw[if_neg (by omega)]
 exact fb k 20 n.toNat (VE h1 (Wg (by omega) (by omega))) h1 (by omega)
theorem eU {n:Int}{k:Nat}(h0:0<=n)(hk:k<=8)(h1:n.toNat<10 ^ (k+1)):ae Tryz.prog aq 92 [.int .i64 n,.int .i64 ((k+1:Nat):Int)] (.str (aT (k+1) n.toNat)):=by
 have hp:10 ^ (k+1)<=10 ^ 9:=Wg (by omega) (by omega)
 have hi:=tP n (by omega) (by omega)
 have hL:=DR h0 (by omega:k<=16) h1
 have hl:=rj n
 have hr:=vh (k+1 - (gY n).length) (by omega)
 generalize gY n=L at *
 have hm:max (0:Int) ((k:Int)+1 - (L.length:Int))=((k+1 - L.length:Nat):Int):=by omega
 rw[<- hm] at hr
 refine ae.intro Q92.2 (by simp[Q92]) ?_
 simp(disch:=try exact dI) only[Q92,push_cast,seval]
 refine ab.pure hi rfl ?_
 refine zgZ ?_
 refine ab.pure hr rfl ?_
 simp(disch:=try exact dI) only[hL,push_cast,seval]
def cD (y:Int)(m:Nat)(d:Int):List UInt8:=aT 4 y.toNat++[45]++aT 2 m++[45]++aT 2 d.toNat
theorem ik (y:Int)(m:Nat)(d:Int):(cD y m d).length=10:=by simp[cD,aM]
theorem JQ {y:Int}{m:Nat}{d:Int}(h:DateOk y m d):ae Tryz.prog aq 45 [.int .i64 (dT y m d - 719162)] (.tup [.str (cD y m d),.int .i64 0]):=by
 have hc:=ND h
 have hy1:=h.y1
 have hy2:=h.y2
 have hm1:=h.m1
 have hm2:=h.m2
 have hd1:=h.d1
 have hd2:=h.d2
 have hmd:=bx y m
 have p1:=eU (n:=y) (k:=3) (by omega) (by omega) (by simp;omega)
 have p2:=eU (n:=(m:Int)) (k:=1) (by omega) (by omega) (by simp;omega)
 have p3:=eU (n:=d) (k:=1) (by omega) (by omega) (by simp;omega)
 simp only[Nat.reduceAdd,WA] at p1 p2 p3
 have l1:=aM 4 y.toNat
 have l2:=aM 2 m
 have l3:=aM 2 d.toNat
 unfold cD
 generalize aT 4 y.toNat=t1 at *
 generalize aT 2 m=t2 at *
 generalize aT 2 d.toNat=t3 at *
 generalize dT y m d - 719162=n at *
 refine ae.intro Q45.2 (by simp[Q45]) ?_
 simp(disch:=try exact dI) only[Q45,push_cast,seval]
 refine ab.pure hc rfl ?_
 refine zgZ ?_
 refine ab.pure p1 rfl ?_
 refine zgZ ?_
 refine ab.pure p2 rfl ?_
 refine zgZ ?_
 refine ab.pure p3 rfl ?_
 exact qsZ
theorem Lw {d r:Int}(h1:-719162<=d/\d<=2932896)(h2:0<=r/\r<=86399999):ae Tryz.prog aq 93 [.int .i64 (d*86400000+r)] (.tup [.int .i64 d,.int .i64 r,.int .i64 0]):=by
 have hin:=d9 (n:=d*86400000+r) (lo:=-62135596800000) (hi:=253402300799999) ⟨by omega,by omega⟩
 obtain⟨n,hn⟩:∃ n,n=d*86400000+r:=⟨_,rfl⟩
 have e1:=cZ (a:=n - -62135596800000) (b:=86400000) (by omega)
 have e2:=cY (a:=n - -62135596800000) (b:=86400000) (by omega)
 have e3:-719162+(n - -62135596800000) / 86400000=d:=by omega
 have e4:(n - -62135596800000) % 86400000=r:=by omega
 rw[<- hn] at hin ⊢
 refine ae.intro Q93.2 (by simp[Q93]) ?_
 simp(disch:=try exact dI) only[Q93,push_cast,seval]
 refine ab.pure hin rfl ?_
 simp(disch:=try exact dI) only[e1,e2,e3,e4,push_cast,seval]
def ij (t:List UInt8)(h mi s ms:Nat):List UInt8:=t++([84]++aT 2 h++[58]++aT 2 mi++[58]++aT 2 s)++(if ms=0 then [] else [46]++aT 3 ms)++[90]
theorem xx {y:Int}{m:Nat}{d:Int}(hD:DateOk y m d){h mi s ms:Nat}(h1:h<=23)(h2:mi<=59)(h3:s<=59)(h4:ms<=999) :
  ae Tryz.prog aq 46 [.int .i64 ((dT y m d - 719162)*86400000+((((60*(h:Int)+mi)*60+s)*1000+ms)))] (.tup [.str (ij (cD y m d) h mi s ms),.int .i64 0]):=by
 have hr:=cq hD
 have hs:=Lw (d:=dT y m d - 719162) (r:=((60*(h:Int)+mi)*60+s)*1000+ms) ⟨by omega,by omega⟩ ⟨by omega,by omega⟩
 have ht:=JQ hD
 have htl:=ik y m d
 have p1:=eU (n:=(h:Int)) (k:=1) (by omega) (by omega) (by simp;omega)
 have p2:=eU (n:=(mi:Int)) (k:=1) (by omega) (by omega) (by simp;omega)
 have p3:=eU (n:=(s:Int)) (k:=1) (by omega) (by omega) (by simp;omega)
 have p4:=eU (n:=(ms:Int)) (k:=2) (by omega) (by omega) (by simp;omega)
 simp only[Nat.reduceAdd,WA] at p1 p2 p3 p4
 have l1:=aM 2 h
 have l2:=aM 2 mi
 have l3:=aM 2 s
 have l4:=aM 3 ms
 obtain⟨r,hr⟩:∃ r,r=((60*(h:Int)+mi)*60+s)*1000+ms:=⟨_,rfl⟩
 rw[<- hr] at hs ⊢
 have q1:=cZ (a:=r) (b:=1000) (by omega)
 have q2:=cZ (a:=r / 1000) (b:=3600) (by omega)
 have q3:=cZ (a:=r / 1000) (b:=60) (by omega)
 have q4:=cY (a:=r / 1000 / 60) (b:=60) (by omega)
 have q5:=cY (a:=r / 1000) (b:=60) (by omega)
 have q6:=cY (a:=r) (b:=1000) (by omega)
 have g2:r / 1000 / 3600=h:=by omega
 have g3:r / 1000 / 60 % 60=mi:=by omega
 have g4:r / 1000 % 60=s:=by omega
 have g5:r % 1000=ms:=by omega
 have hrb:0<=r/\r<=86399999:=⟨by omega,by omega⟩
 clear hr
 unfold ij
 generalize cD y m d=t0 at *
 generalize aT 2 h=t1 at *
 generalize aT 2 mi=t2 at *
 generalize aT 2 s=t3 at *
 generalize aT 3 ms=t4 at *
 generalize dT y m d - 719162=n at *
 generalize n*86400000+r=N at *
 by_cases hm:ms=0
 ·rw[if_pos hm,VZ]
  subst hm
  refine ae.intro Q46.2 (by simp[Q46]) ?_
  simp(disch:=try exact dI) only[Q46,push_cast,seval]
  refine ab.pure hs rfl ?_
  refine zgZ ?_
  refine ab.pure ht rfl ?_
  simp(disch:=try exact dI) only[q1,q2,g2,push_cast,seval]
  refine ab.pure p1 rfl ?_
  simp(disch:=try exact dI) only[q3,q4,g3,push_cast,seval]
  refine ab.pure p2 rfl ?_
  simp(disch:=try exact dI) only[q5,g4,push_cast,seval]
  refine ab.pure p3 rfl ?_
  simp(disch:=try exact dI) only[q6,g5,push_cast,seval]
 ·rw[if_neg hm]
  refine ae.intro Q46.2 (by simp[Q46]) ?_
  simp(disch:=try exact dI) only[Q46,push_cast,seval]
  refine ab.pure hs rfl ?_
  refine zgZ ?_
  refine ab.pure ht rfl ?_
  simp(disch:=try exact dI) only[q1,q2,g2,push_cast,seval]
  refine ab.pure p1 rfl ?_
  simp(disch:=try exact dI) only[q3,q4,g3,push_cast,seval]
  refine ab.pure p2 rfl ?_
  simp(disch:=try exact dI) only[q5,g4,push_cast,seval]
  refine ab.pure p3 rfl ?_
  have hm':¬ (ms:Int)=0:=by omega
  simp(disch:=try exact dI) only[q6,g5,push_cast,seval]
  refine ab.pure p4 rfl ?_
  exact qsZ
def AD:List (List UInt8)->List Nat->List Int->List UInt8
 | m::ms,k::ks,v::l=>m++(aT k v.toNat++AD ms ks l)
 | _,_,_=>[]
theorem qE {p s:List UInt8}(h:sk p s=true):s=p++s.drop p.length:=by
 have h1:=(of_decide_eq_true h).1
 have h2:=List.take_append_drop p.length s
 rw[h1] at h2
 exact h2.symm
theorem qR {k:Nat}{s:List UInt8}{p:Int×List UInt8}(h:tr k s=some p):s=aT k p.1.toNat++p.2/\0<=p.1:=by
 unfold tr at h
 split at h
 ·rename_i hh
  cases h
  have e:=HS (s.take k) hh.2
  rw[List.length_take,Nat.min_eq_left hh.1] at e
  simp only
  rw[e,List.take_append_drop]
  exact⟨rfl,(dx _ 0 (by omega) hh.2).1⟩
 ·cases h
theorem lU:∀ (ms:List (List UInt8)) (ks:List Nat) (s:List UInt8) (l:List Int) (r:List UInt8),cQ ms ks s=some (l,r)->s=AD ms ks l++r/\∀ x,x∈l->0<=x
 | [],ks,s,l,r,h=>by
   simp only[cQ,Option.some.injEq,Prod.mk.injEq] at h
   obtain⟨rfl,rfl⟩:=h
   exact⟨by simp[AD],by simp⟩
 | m::ms,[],s,l,r,h=>by simp[cQ] at h
 | m::ms,k::ks,s,l,r,h=>by
   simp only[cQ] at h
   split at h
   ·rename_i hp
    split at h
    ·rename_i p hn
     simp only[Option.map_eq_some_iff] at h
     obtain⟨q,hq,he⟩:=h
     cases he
     obtain⟨q1,q2⟩:=q
     have ih:=lU ms ks p.2 q1 q2 hq
     have hb:=qR hn
     refine⟨?_,?_⟩
     ·rw[AD,VQ,VQ,<- ih.1,<- hb.1]
      exact qE hp
     ·intro x hx
      rcases VY.1 hx with rfl | hx
      ·exact hb.2
      ·exact ih.2 x hx
    ·cases h
   ·cases h
theorem rK {y m d n:Int}(h:mO y m d=(n,0)):DateOk y m.toNat d/\n=dT y m.toNat d - 719162:=by
 unfold mO at h
 split at h
 ·rename_i hd
  cases h
  exact⟨(ue hd).1,rfl⟩
 ·simp at h
theorem tj {s:List UInt8}{n:Int}(h:cz s=(n,0)):∃ (y:Int) (m:Nat) (d:Int),DateOk y m d/\n=dT y m d - 719162/\s=cD y m d:=by
 unfold cz at h
 split at h
 ·rename_i y m d hn
  obtain⟨h1,h2⟩:=rK h
  obtain⟨hb,_⟩:=lU _ _ _ _ _ hn
  refine⟨y,m.toNat,d,h1,h2,?_⟩
  rw[hb]
  simp[AD,cD]
 ·simp at h
theorem xA {r:List UInt8}{ms:Int}(h:sy r=some ms):0<=ms/\ms<=999/\r=(if ms.toNat=0 then [] else [46]++aT 3 ms.toNat)++[90]:=by
 unfold sy at h
 split at h
 ·rename_i hp
  split at h
  ·rename_i p hn
   split at h
   ·cases h
   ·rename_i hc
    cases h
    have hb:=qR hn
    have hle:p.1<=999:=by
     unfold tr at hn
     split at hn
     ·rename_i hh
      cases hn
      exact (uP hh.2).2
     ·cases hn
    have hnz:p.1≠0:=fun h=>hc (Or.inl h)
    have hq:p.2=[90]:=Decidable.of_not_not fun h=>hc (Or.inr h)
    refine⟨hb.2,hle,?_⟩
    rw[if_neg (by omega)]
    rw[hq] at hb
    have:=qE hp
    rw[this]
    have e:=hb.1
    simp only[Vq,VV,Nat.zero_add] at e ⊢
    rw[e,VQ]
  ·cases h
 ·split at h
  ·rename_i hr
   cases h
   exact⟨by omega,by omega,by simp[hr]⟩
  ·cases h
theorem lO {s:List UInt8}{n:Int}(h:cy s=(n,0)):∃ (y:Int) (m:Nat) (d:Int) (hh mi sec ms:Nat),DateOk y m d/\hh<=23/\mi<=59/\sec<=59/\ms<=999 /\
  n=(dT y m d - 719162)*86400000+(((60*(hh:Int)+mi)*60+sec)*1000+ms)/\s=ij (cD y m d) hh mi sec ms:=by
 unfold cy at h
 split at h
 ·rename_i y m d hh mi sec r hn
  split at h
  ·rename_i ms ht
   obtain⟨hb,hpos⟩:=lU _ _ _ _ _ hn
   obtain⟨t1,t2,t3⟩:=xA ht
   unfold Bw at h
   split at h
   ·simp at h
   ·rename_i hc
    have hz:(mO y m d).2=0:=Decidable.of_not_not fun h=>hc (Or.inl h)
    have b1:¬ 23<hh:=fun h=>hc (Or.inr (Or.inl h))
    have b2:¬ 59<mi:=fun h=>hc (Or.inr (Or.inr (Or.inl h)))
    have b3:¬ 59<sec:=fun h=>hc (Or.inr (Or.inr (Or.inr h)))
    have p1:=hpos hh (by simp)
    have p2:=hpos mi (by simp)
    have p3:=hpos sec (by simp)
    obtain⟨d1,d2⟩:=rK (y:=y) (m:=m) (d:=d) (n:=(mO y m d).1) (by rw[<- hz])
    have e:=congrArg Prod.fst h
    simp only at e
    refine⟨y,m.toNat,d,hh.toNat,mi.toNat,sec.toNat,ms.toNat,d1,by omega,by omega,by omega,by omega,?_,?_⟩
    ·rw[<- e,d2];omega
    ·rw[hb,t3]
     simp[AD,msT,ksT,ij,cD]
  ·simp at h
 ·simp at h
def IsN (n:Int)(sc:Nat):Prop:=-999999999999999<=n/\n<=999999999999999/\sc<=12
instance (n:Int) (sc:Nat):Decidable (IsN n sc):=by unfold IsN;infer_instance
def dl (a:Nat):Nat:=(bT 20 a).length
theorem Kr:∀ (f a:Nat),a<10 ^ f->0<f->1<=(bT f a).length/\a<10 ^ (bT f a).length
 | 0,a,_,h=>absurd h (by omega)
 | f+1,a,hf,_=>by
   rw[bT]
   by_cases h:a<10
   ·rw[if_pos h];simp;omega
   ·rw[if_neg h]
    have hf':a / 10<10 ^ f:=by rw[Wd] at hf;exact Wm (by rw[Wa];exact hf)
    have h0:0<f:=by
     cases f with
     | zero=>simp at hf;omega
     | succ f=>omega
    have ih:=Kr f (a / 10) hf' h0
    rw[Vp,Vq,VV,Wd]
    omega
theorem jI {a:Nat}(h:a<10 ^ 15):1<=dl a/\dl a<=15/\a<10 ^ dl a:=by
 have h20:a<10 ^ 20:=VE h (Wg (by omega) (by omega))
 have h1:=Kr 20 a h20 (by omega)
 have h2:=congrArg List.length (fb 14 20 a h20 h (by omega))
 rw[Vp,List.length_replicate,aM] at h2
 unfold dl
 exact⟨h1.1,by omega,h1.2⟩
theorem EM {a K:Nat}(h:a<10 ^ 15)(hK:dl a<=K):VO (K - dl a) 48++bT 20 a=aT K a:=by
 have h20:a<10 ^ 20:=VE h (Wg (by omega) (by omega))
 have hs:=jI h
 obtain⟨k,rfl⟩:∃ k,K=k+1:=⟨K - 1,by omega⟩
 exact fb k 20 a h20 (VE hs.2.2 (Wg (by omega) hK)) (by omega)
theorem gi (i:Nat):∀ (j a:Nat),aT (i+j) a=aT i (a / 10 ^ j)++aT j a
 | 0,a=>by simp[aT]
 | j+1,a=>by
   rw[<- Nat.add_assoc,aT,gi i j (a / 10),aT,VQ,Nat.div_div_eq_div_mul,Wd,Wa 10]
def iX (n:Int)(sc:Nat):List UInt8:=
 (if n<0 then [45] else [])++(aT (max (dl n.natAbs) (sc+1) - sc) (n.natAbs / 10 ^ sc)++(if sc=0 then [] else 46::aT sc n.natAbs))
theorem Rx {n:Int}(h:-9223372036854775808<n)(h2:n<=9223372036854775807):ae Tryz.prog aq 88 [.int .i64 n] (.int .i64 (n.natAbs:Int)):=by
 have e:max n (0 - n)=(n.natAbs:Int):=by omega
 refine ae.intro Q88.2 (by simp[Q88]) ?_
 simp(disch:=try exact dI) only[Q88,e,push_cast,seval]
theorem E8 {n:Int}(h:-9223372036854775808<n)(h2:n<=9223372036854775807)(sc:Nat):ae Tryz.prog aq 86 [.agg [.int .i64 n,.int .i64 (sc:Int)]] (.int .i64 (if IsN n sc then 0 else 2)):=by
 have ha:=Rx h h2
 by_cases h1:(999999999999999:Int)<(n.natAbs:Int)
 ·rw[if_neg (by unfold IsN;omega)]
  refine ae.intro Q86.2 (by simp[Q86]) ?_
  simp(disch:=try exact dI) only[Q86,push_cast,seval]
  refine ab.pure ha rfl ?_
  exact qsZ
 have h2:¬ n < -999999999999999:=by omega
 have h3:¬ (sc:Int)<0:=by omega
 by_cases h4:(12:Int)<(sc:Int)
 ·rw[if_neg (by unfold IsN;omega)]
  refine ae.intro Q86.2 (by simp[Q86]) ?_
  simp(disch:=try exact dI) only[Q86,push_cast,seval]
  refine ab.pure ha rfl ?_
  exact qsZ
 ·rw[if_pos (by unfold IsN;omega)]
  refine ae.intro Q86.2 (by simp[Q86]) ?_
  simp(disch:=try exact dI) only[Q86,push_cast,seval]
  refine ab.pure ha rfl ?_
  exact qsZ
theorem By {n:Int}(h:-9223372036854775808<n)(h2:n<=9223372036854775807){sc:Nat}(hn:¬ IsN n sc):ae Tryz.prog aq 42 [.agg [.int .i64 n,.int .i64 (sc:Int)]] (.tup [.str [],.int .i64 2]):=by
 have hc:=E8 h h2 sc
 rw[if_neg hn] at hc
 refine ae.intro Q42.2 (by simp[Q42]) ?_
 simp(disch:=try exact dI) only[Q42,push_cast,seval]
 refine ab.pure hc rfl ?_
 exact qsZ
theorem Bz {n:Int}{sc:Nat}(hn:IsN n sc):ae Tryz.prog aq 42 [.agg [.int .i64 n,.int .i64 (sc:Int)]] (.tup [.str (iX n sc),.int .i64 0]):=by
 obtain⟨hn1,hn2,hn3⟩:=hn
 have hc:=E8 (n:=n) (by omega) (by omega) sc
 rw[if_pos ⟨hn1,hn2,hn3⟩] at hc
 have ha:=Rx (n:=n) (by omega) (by omega)
 have hi:=tP (n.natAbs:Int) (by omega) (by omega)
 have hlt:n.natAbs<10 ^ 15:=by simp;omega
 have hdl:=jI hlt
 have hL:=EM hlt (K:=max (dl n.natAbs) (sc+1)) (by omega)
 have hL2:=gi (max (dl n.natAbs) (sc+1) - sc) sc n.natAbs
 rw[show max (dl n.natAbs) (sc+1) - sc+sc=max (dl n.natAbs) (sc+1) by omega] at hL2
 have hr:=vh (sc+1 - dl n.natAbs) (by omega)
 rw[show max (dl n.natAbs) (sc+1) - dl n.natAbs=sc+1 - dl n.natAbs by omega] at hL
 have e1:gY (n.natAbs:Int)=bT 20 n.natAbs:=by unfold gY;rw[if_neg (by omega),WA]
 rw[e1] at hi
 have l1:=aM (max (dl n.natAbs) (sc+1) - sc) (n.natAbs / 10 ^ sc)
 have l2:=aM sc n.natAbs
 have l0:(bT 20 n.natAbs).length=dl n.natAbs:=rfl
 have lZ:(VO (sc+1 - dl n.natAbs) (48:UInt8)).length=sc+1 - dl n.natAbs:=by simp
 unfold iX
 rw[hL2] at hL
 have hm:max (0:Int) ((sc:Int)+1 - ((dl n.natAbs:Nat):Int))=((sc+1 - dl n.natAbs:Nat):Int):=by omega
 rw[<- hm] at hr
 generalize aT (max (dl n.natAbs) (sc+1) - sc) (n.natAbs / 10 ^ sc)=A at *
 generalize aT sc n.natAbs=B at *
 generalize bT 20 n.natAbs=D at *
 generalize dl n.natAbs=k at *
 generalize VO (sc+1 - k) (48:UInt8)=Z at *
 have lA:1<=A.length:=by omega
 clear hL2 e1 hlt
 by_cases hs:sc=0
 ·subst hs
  rw[if_pos rfl,VZ]
  have hB:B=[]:=Wh.1 l2
  have hDA:D=A:=by
   have hz:Z=[]:=by
    have:=congrArg List.length hL
    simp only[Vp] at this
    exact Wh.1 (by omega)
   rw[hz,hB] at hL
   simpa using hL
  subst hDA
  by_cases hneg:n<0
  ·rw[if_pos hneg]
   refine ae.intro Q42.2 (by simp[Q42]) ?_
   simp(disch:=try exact dI) only[Q42,push_cast,seval]
   refine ab.pure hc rfl ?_
   refine zgZ ?_
   refine ab.pure ha rfl ?_
   refine zgZ ?_
   refine ab.pure hi rfl ?_
   exact qsZ
  ·rw[if_neg hneg]
   refine ae.intro Q42.2 (by simp[Q42]) ?_
   simp(disch:=try exact dI) only[Q42,push_cast,seval]
   refine ab.pure hc rfl ?_
   refine zgZ ?_
   refine ab.pure ha rfl ?_
   refine zgZ ?_
   refine ab.pure hi rfl ?_
   exact qsZ
 ·rw[if_neg hs]
  have hsI:(0:Int)<(sc:Int):=by omega
  have el:((A.length:Int)+(B.length:Int)) - (sc:Int)=(A.length:Int):=by omega
  have et:(((A++B).length:Int) - (sc:Int)).toNat=A.length:=by rw[Vp];omega
  have t1:(A++B).take A.length=A:=by simp
  have t2:(A++B).drop A.length=B:=by simp
  by_cases hneg:n<0
  ·rw[if_pos hneg]
   refine ae.intro Q42.2 (by simp[Q42]) ?_
   simp(disch:=try exact dI) only[Q42,push_cast,seval]
   refine ab.pure hc rfl ?_
   refine zgZ ?_
   refine ab.pure ha rfl ?_
   refine zgZ ?_
   refine ab.pure hi rfl ?_
   simp(disch:=try exact dI) only[l0,push_cast,seval]
   refine ab.pure hr rfl ?_
   simp(disch:=try exact dI) only[hL,el,t1,t2,push_cast,seval]
   rw[et,VR,t1,t2]
  ·rw[if_neg hneg]
   refine ae.intro Q42.2 (by simp[Q42]) ?_
   simp(disch:=try exact dI) only[Q42,push_cast,seval]
   refine ab.pure hc rfl ?_
   refine zgZ ?_
   refine ab.pure ha rfl ?_
   refine zgZ ?_
   refine ab.pure hi rfl ?_
   simp(disch:=try exact dI) only[l0,push_cast,seval]
   refine ab.pure hr rfl ?_
   simp(disch:=try exact dI) only[hL,el,t1,t2,push_cast,seval]
   rw[et,VR,t1,t2]
