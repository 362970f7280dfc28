/- A part of the proof. -/
import Derived.Test.YtbaaokocnegdoaaGreatDoorAgVC7
set_option linter.unusedVariables false
set_option linter.unusedSimpArgs false
set_option maxRecDepth 100000
namespace Go.Proofs.YtbaaokocnegdoaaGreatDoor
open Go Go.Ab
attribute [local irreducible] vc
noncomputable def mD:List TabRow:=⟨139,[],gF Tryz.prog 139 []⟩::⟨140,[],gF Tryz.prog 140 []⟩::⟨185,[],gF Tryz.prog 185 []⟩::tab
theorem bn:∀ r∈mD,cFn Tryz.prog r.muts r.f=some r.fn:=by
 intro r hr
 simp only[mD,List.mem_cons] at hr
 rcases hr with rfl | rfl | rfl | hr
 ·kernel_rfl
 ·kernel_rfl
 ·kernel_rfl
 ·exact JM r hr
theorem uG:∀ k:Nat,k<=17->ae Tryz.prog au 89 [.str [48],.int .i64 (k:Int)] (.str (List.replicate k 48))
 | 0,_=>ae.of_ex bn bQ (by kernel_rfl:cU (exF mD orc au 5000 60) 89 [.str [48],.int .i64 0]=some (.str (List.replicate 0 48)))
 | 1,_=>ae.of_ex bn bQ (by kernel_rfl:cU (exF mD orc au 5000 60) 89 [.str [48],.int .i64 1]=some (.str (List.replicate 1 48)))
 | 2,_=>ae.of_ex bn bQ (by kernel_rfl:cU (exF mD orc au 5000 60) 89 [.str [48],.int .i64 2]=some (.str (List.replicate 2 48)))
 | 3,_=>ae.of_ex bn bQ (by kernel_rfl:cU (exF mD orc au 5000 60) 89 [.str [48],.int .i64 3]=some (.str (List.replicate 3 48)))
 | 4,_=>ae.of_ex bn bQ (by kernel_rfl:cU (exF mD orc au 5000 60) 89 [.str [48],.int .i64 4]=some (.str (List.replicate 4 48)))
 | 5,_=>ae.of_ex bn bQ (by kernel_rfl:cU (exF mD orc au 5000 60) 89 [.str [48],.int .i64 5]=some (.str (List.replicate 5 48)))
 | 6,_=>ae.of_ex bn bQ (by kernel_rfl:cU (exF mD orc au 5000 60) 89 [.str [48],.int .i64 6]=some (.str (List.replicate 6 48)))
 | 7,_=>ae.of_ex bn bQ (by kernel_rfl:cU (exF mD orc au 5000 60) 89 [.str [48],.int .i64 7]=some (.str (List.replicate 7 48)))
 | 8,_=>ae.of_ex bn bQ (by kernel_rfl:cU (exF mD orc au 5000 60) 89 [.str [48],.int .i64 8]=some (.str (List.replicate 8 48)))
 | 9,_=>ae.of_ex bn bQ (by kernel_rfl:cU (exF mD orc au 5000 60) 89 [.str [48],.int .i64 9]=some (.str (List.replicate 9 48)))
 | 10,_=>ae.of_ex bn bQ (by kernel_rfl:cU (exF mD orc au 5000 60) 89 [.str [48],.int .i64 10]=some (.str (List.replicate 10 48)))
 | 11,_=>ae.of_ex bn bQ (by kernel_rfl:cU (exF mD orc au 5000 60) 89 [.str [48],.int .i64 11]=some (.str (List.replicate 11 48)))
 | 12,_=>ae.of_ex bn bQ (by kernel_rfl:cU (exF mD orc au 5000 60) 89 [.str [48],.int .i64 12]=some (.str (List.replicate 12 48)))
 | 13,_=>ae.of_ex bn bQ (by kernel_rfl:cU (exF mD orc au 5000 60) 89 [.str [48],.int .i64 13]=some (.str (List.replicate 13 48)))
 | 14,_=>ae.of_ex bn bQ (by kernel_rfl:cU (exF mD orc au 5000 60) 89 [.str [48],.int .i64 14]=some (.str (List.replicate 14 48)))
 | 15,_=>ae.of_ex bn bQ (by kernel_rfl:cU (exF mD orc au 5000 60) 89 [.str [48],.int .i64 15]=some (.str (List.replicate 15 48)))
 | 16,_=>ae.of_ex bn bQ (by kernel_rfl:cU (exF mD orc au 5000 60) 89 [.str [48],.int .i64 16]=some (.str (List.replicate 16 48)))
 | 17,_=>ae.of_ex bn bQ (by kernel_rfl:cU (exF mD orc au 5000 60) 89 [.str [48],.int .i64 17]=some (.str (List.replicate 17 48)))
 | k+18,h=>absurd h (by omega)
def aW:Nat->Nat->List UInt8
 | 0,_=>[]
 | k+1,n=>aW k (n / 10)++[UInt8.ofNat (48+n % 10)]
theorem aT:∀ (k n:Nat),(aW k n).length=k
 | 0,_=>rfl
 | k+1,n=>by simp[aW,aT k]
theorem pM:∀ k:Nat,aW k 0=List.replicate k 48
 | 0=>rfl
 | k+1=>by rw[aW,show 0 / 10=0 from rfl,pM k,List.replicate_succ'];rfl
theorem eE:∀ (k f n:Nat),n<10 ^ f->n<10 ^ (k+1)->0<f->List.replicate (k+1 - (bS f n).length) 48++bS f n=aW (k+1) n
 | k,0,n,_,_,h=>absurd h (by omega)
 | k,f+1,n,hf,hk,_=>by
   rw[bS]
   by_cases h:n<10
   ·rw[if_pos h,aW,show n / 10=0 by omega,pM,show n % 10=n by omega]
    simp
   ·rw[if_neg h]
    cases k with
    | zero=>simp at hk;omega
    | succ k=>
      have hf':n / 10<10 ^ f:=by rw[Nat.pow_succ] at hf;exact Nat.div_lt_of_lt_mul (by rw[Nat.mul_comm];exact hf)
      have hk':n / 10<10 ^ (k+1):=by rw[Nat.pow_succ] at hk;exact Nat.div_lt_of_lt_mul (by rw[Nat.mul_comm];exact hk)
      have h0:0<f:=by
       cases f with
       | zero=>simp at hf;omega
       | succ f=>omega
      have ih:=eE k f (n / 10) hf' hk' h0
      rw[aW,<- ih,List.length_append,List.append_assoc]
      simp
theorem HE:∀ (l:List UInt8),l.all isD=true->aW l.length (io 0 l).toNat=l:=by
 intro l
 induction hn:l.length generalizing l with
 | zero=>intro _;simp[List.length_eq_zero_iff.1 hn,aW]
 | succ k ih=>
   intro h
   obtain⟨a,c,rfl⟩:∃ a c,l=a++[c]:=by
    refine⟨l.dropLast,l.getLast (by intro e;simp[e] at hn),(List.dropLast_concat_getLast _).symm⟩
   rw[List.all_append,Bool.and_eq_true] at h
   have hc:=lh (c:=c) (by simpa using h.2)
   have h0:=(cN a 0 (by omega) h.1).1
   rw[jZ,aW]
   have e1:(10*io 0 a+((c.toNat:Int) - 48)).toNat / 10=(io 0 a).toNat:=by omega
   have e2:48+(10*io 0 a+((c.toNat:Int) - 48)).toNat % 10=c.toNat:=by omega
   rw[e1,e2,ih a (by simpa using hn) h.1]
   simp
theorem DC {n:Int}{k:Nat}(h0:0<=n)(hk:k<=16)(h1:n.toNat<10 ^ (k+1)):List.replicate (k+1 - (gi n).length) 48++gi n=aW (k+1) n.toNat:=by
 unfold gi
 rw[if_neg (by omega)]
 exact eE k 20 n.toNat (Nat.lt_of_lt_of_le h1 (Nat.pow_le_pow_right (by omega) (by omega))) h1 (by omega)
theorem eu {n:Int}{k:Nat}(h0:0<=n)(hk:k<=8)(h1:n.toNat<10 ^ (k+1)):ae Tryz.prog au 92 [.int .i64 n,.int .i64 ((k+1:Nat):Int)] (.str (aW (k+1) n.toNat)):=by
 have hp:10 ^ (k+1)<=10 ^ 9:=Nat.pow_le_pow_right (by omega) (by omega)
 have hi:=tr n (by omega) (by omega)
 have hL:=DC h0 (by omega:k<=16) h1
 have hl:=qo n
 have hr:=uG (k+1 - (gi n).length) (by omega)
 generalize gi n=L at *
 have hm:max (0:Int) ((k:Int)+1 - (L.length:Int))=((k+1 - L.length:Nat):Int):=by omega
 rw[<- hm] at hr
 refine ae.intro Q92.2 (by simp[Q92]) ?_
 simp(disch:=try exact dI) only[Q92,push_cast,seval]
 refine ab.pure hi rfl ?_
 refine zgZ ?_
 refine ab.pure hr rfl ?_
 simp(disch:=try exact dI) only[hL,push_cast,seval]
def dw (y:Int)(m:Nat)(d:Int):List UInt8:=aW 4 y.toNat++[45]++aW 2 m++[45]++aW 2 d.toNat
theorem kf (y:Int)(m:Nat)(d:Int):(dw y m d).length=10:=by simp[dw,aT]
theorem JJ {y:Int}{m:Nat}{d:Int}(h:DateOk y m d):ae Tryz.prog au 45 [.int .i64 (iX y m d - 719162)] (.tup [.str (dw y m d),.int .i64 0]):=by
 have hc:=Nt h
 have hy1:=h.y1
 have hy2:=h.y2
 have hm1:=h.m1
 have hm2:=h.m2
 have hd1:=h.d1
 have hd2:=h.d2
 have hmd:=dS y m
 have p1:=eu (n:=y) (k:=3) (by omega) (by omega) (by simp;omega)
 have p2:=eu (n:=(m:Int)) (k:=1) (by omega) (by omega) (by simp;omega)
 have p3:=eu (n:=d) (k:=1) (by omega) (by omega) (by simp;omega)
 simp only[Nat.reduceAdd,Int.toNat_natCast] at p1 p2 p3
 have l1:=aT 4 y.toNat
 have l2:=aT 2 m
 have l3:=aT 2 d.toNat
 unfold dw
 generalize aW 4 y.toNat=t1 at *
 generalize aW 2 m=t2 at *
 generalize aW 2 d.toNat=t3 at *
 generalize iX y m d - 719162=n at *
 refine ae.intro Q45.2 (by simp[Q45]) ?_
 simp(disch:=try exact dI) only[Q45,push_cast,seval]
 refine ab.pure hc rfl ?_
 refine zgZ ?_
 refine ab.pure p1 rfl ?_
 refine zgZ ?_
 refine ab.pure p2 rfl ?_
 refine zgZ ?_
 refine ab.pure p3 rfl ?_
 exact qsZ
theorem Li {d r:Int}(h1:-719162<=d/\d<=2932896)(h2:0<=r/\r<=86399999):ae Tryz.prog au 93 [.int .i64 (d*86400000+r)] (.tup [.int .i64 d,.int .i64 r,.int .i64 0]):=by
 have hin:=dC (n:=d*86400000+r) (lo:=-62135596800000) (hi:=253402300799999) ⟨by omega,by omega⟩
 obtain⟨n,hn⟩:∃ n,n=d*86400000+r:=⟨_,rfl⟩
 have e1:=gy (a:=n - -62135596800000) (b:=86400000) (by omega)
 have e2:=gx (a:=n - -62135596800000) (b:=86400000) (by omega)
 have e3:-719162+(n - -62135596800000) / 86400000=d:=by omega
 have e4:(n - -62135596800000) % 86400000=r:=by omega
 rw[<- hn] at hin ⊢
 refine ae.intro Q93.2 (by simp[Q93]) ?_
 simp(disch:=try exact dI) only[Q93,push_cast,seval]
 refine ab.pure hin rfl ?_
 simp(disch:=try exact dI) only[e1,e2,e3,e4,push_cast,seval]
def ke (t:List UInt8)(h mi s ms:Nat):List UInt8:=t++([84]++aW 2 h++[58]++aW 2 mi++[58]++aW 2 s)++(if ms=0 then [] else [46]++aW 3 ms)++[90]
theorem wF {y:Int}{m:Nat}{d:Int}(hD:DateOk y m d){h mi s ms:Nat}(h1:h<=23)(h2:mi<=59)(h3:s<=59)(h4:ms<=999) :
  ae Tryz.prog au 46 [.int .i64 ((iX y m d - 719162)*86400000+((((60*(h:Int)+mi)*60+s)*1000+ms)))] (.tup [.str (ke (dw y m d) h mi s ms),.int .i64 0]):=by
 have hr:=ff hD
 have hs:=Li (d:=iX y m d - 719162) (r:=((60*(h:Int)+mi)*60+s)*1000+ms) ⟨by omega,by omega⟩ ⟨by omega,by omega⟩
 have ht:=JJ hD
 have htl:=kf y m d
 have p1:=eu (n:=(h:Int)) (k:=1) (by omega) (by omega) (by simp;omega)
 have p2:=eu (n:=(mi:Int)) (k:=1) (by omega) (by omega) (by simp;omega)
 have p3:=eu (n:=(s:Int)) (k:=1) (by omega) (by omega) (by simp;omega)
 have p4:=eu (n:=(ms:Int)) (k:=2) (by omega) (by omega) (by simp;omega)
 simp only[Nat.reduceAdd,Int.toNat_natCast] at p1 p2 p3 p4
 have l1:=aT 2 h
 have l2:=aT 2 mi
 have l3:=aT 2 s
 have l4:=aT 3 ms
 obtain⟨r,hr⟩:∃ r,r=((60*(h:Int)+mi)*60+s)*1000+ms:=⟨_,rfl⟩
 rw[<- hr] at hs ⊢
 have q1:=gy (a:=r) (b:=1000) (by omega)
 have q2:=gy (a:=r / 1000) (b:=3600) (by omega)
 have q3:=gy (a:=r / 1000) (b:=60) (by omega)
 have q4:=gx (a:=r / 1000 / 60) (b:=60) (by omega)
 have q5:=gx (a:=r / 1000) (b:=60) (by omega)
 have q6:=gx (a:=r) (b:=1000) (by omega)
 have g2:r / 1000 / 3600=h:=by omega
 have g3:r / 1000 / 60 % 60=mi:=by omega
 have g4:r / 1000 % 60=s:=by omega
 have g5:r % 1000=ms:=by omega
 have hrb:0<=r/\r<=86399999:=⟨by omega,by omega⟩
 clear hr
 unfold ke
 generalize dw y m d=t0 at *
 generalize aW 2 h=t1 at *
 generalize aW 2 mi=t2 at *
 generalize aW 2 s=t3 at *
 generalize aW 3 ms=t4 at *
 generalize iX y m d - 719162=n at *
 generalize n*86400000+r=N at *
 by_cases hm:ms=0
 ·rw[if_pos hm,List.append_nil]
  subst hm
  refine ae.intro Q46.2 (by simp[Q46]) ?_
  simp(disch:=try exact dI) only[Q46,push_cast,seval]
  refine ab.pure hs rfl ?_
  refine zgZ ?_
  refine ab.pure ht rfl ?_
  simp(disch:=try exact dI) only[q1,q2,g2,push_cast,seval]
  refine ab.pure p1 rfl ?_
  simp(disch:=try exact dI) only[q3,q4,g3,push_cast,seval]
  refine ab.pure p2 rfl ?_
  simp(disch:=try exact dI) only[q5,g4,push_cast,seval]
  refine ab.pure p3 rfl ?_
  simp(disch:=try exact dI) only[q6,g5,push_cast,seval]
 ·rw[if_neg hm]
  refine ae.intro Q46.2 (by simp[Q46]) ?_
  simp(disch:=try exact dI) only[Q46,push_cast,seval]
  refine ab.pure hs rfl ?_
  refine zgZ ?_
  refine ab.pure ht rfl ?_
  simp(disch:=try exact dI) only[q1,q2,g2,push_cast,seval]
  refine ab.pure p1 rfl ?_
  simp(disch:=try exact dI) only[q3,q4,g3,push_cast,seval]
  refine ab.pure p2 rfl ?_
  simp(disch:=try exact dI) only[q5,g4,push_cast,seval]
  refine ab.pure p3 rfl ?_
  have hm':¬ (ms:Int)=0:=by omega
  simp(disch:=try exact dI) only[q6,g5,push_cast,seval]
  refine ab.pure p4 rfl ?_
  exact qsZ
def Ap:List (List UInt8)->List Nat->List Int->List UInt8
 | m::ms,k::ks,v::l=>m++(aW k v.toNat++Ap ms ks l)
 | _,_,_=>[]
theorem pB {p s:List UInt8}(h:rt p s=true):s=p++s.drop p.length:=by
 have h1:=(of_decide_eq_true h).1
 have h2:=List.take_append_drop p.length s
 rw[h1] at h2
 exact h2.symm
theorem pP {k:Nat}{s:List UInt8}{p:Int×List UInt8}(h:sJ k s=some p):s=aW k p.1.toNat++p.2/\0<=p.1:=by
 unfold sJ at h
 split at h
 ·rename_i hh
  cases h
  have e:=HE (s.take k) hh.2
  rw[List.length_take,Nat.min_eq_left hh.1] at e
  simp only
  rw[e,List.take_append_drop]
  exact⟨rfl,(cN _ 0 (by omega) hh.2).1⟩
 ·cases h
theorem kO:∀ (ms:List (List UInt8)) (ks:List Nat) (s:List UInt8) (l:List Int) (r:List UInt8),cr ms ks s=some (l,r)->s=Ap ms ks l++r/\∀ x,x∈l->0<=x
 | [],ks,s,l,r,h=>by
   simp only[cr,Option.some.injEq,Prod.mk.injEq] at h
   obtain⟨rfl,rfl⟩:=h
   exact⟨by simp[Ap],by simp⟩
 | m::ms,[],s,l,r,h=>by simp[cr] at h
 | m::ms,k::ks,s,l,r,h=>by
   simp only[cr] at h
   split at h
   ·rename_i hp
    split at h
    ·rename_i p hn
     simp only[Option.map_eq_some_iff] at h
     obtain⟨q,hq,he⟩:=h
     cases he
     obtain⟨q1,q2⟩:=q
     have ih:=kO ms ks p.2 q1 q2 hq
     have hb:=pP hn
     refine⟨?_,?_⟩
     ·rw[Ap,List.append_assoc,List.append_assoc,<- ih.1,<- hb.1]
      exact pB hp
     ·intro x hx
      rcases List.mem_cons.1 hx with rfl | hx
      ·exact hb.2
      ·exact ih.2 x hx
    ·cases h
   ·cases h
theorem qP {y m d n:Int}(h:lO y m d=(n,0)):DateOk y m.toNat d/\n=iX y m.toNat d - 719162:=by
 unfold lO at h
 split at h
 ·rename_i hd
  cases h
  exact⟨(tN hd).1,rfl⟩
 ·simp at h
theorem sE {s:List UInt8}{n:Int}(h:ca s=(n,0)):∃ (y:Int) (m:Nat) (d:Int),DateOk y m d/\n=iX y m d - 719162/\s=dw y m d:=by
 unfold ca at h
 split at h
 ·rename_i y m d hn
  obtain⟨h1,h2⟩:=qP h
  obtain⟨hb,_⟩:=kO _ _ _ _ _ hn
  refine⟨y,m.toNat,d,h1,h2,?_⟩
  rw[hb]
  simp[Ap,dw]
 ·simp at h
theorem wH {r:List UInt8}{ms:Int}(h:rL r=some ms):0<=ms/\ms<=999/\r=(if ms.toNat=0 then [] else [46]++aW 3 ms.toNat)++[90]:=by
 unfold rL at h
 split at h
 ·rename_i hp
  split at h
  ·rename_i p hn
   split at h
   ·cases h
   ·rename_i hc
    cases h
    have hb:=pP hn
    have hle:p.1<=999:=by
     unfold sJ at hn
     split at hn
     ·rename_i hh
      cases hn
      exact (up hh.2).2
     ·cases hn
    have hnz:p.1≠0:=fun h=>hc (Or.inl h)
    have hq:p.2=[90]:=Decidable.of_not_not fun h=>hc (Or.inr h)
    refine⟨hb.2,hle,?_⟩
    rw[if_neg (by omega)]
    rw[hq] at hb
    have:=pB hp
    rw[this]
    have e:=hb.1
    simp only[List.length_cons,List.length_nil,Nat.zero_add] at e ⊢
    rw[e,List.append_assoc]
  ·cases h
 ·split at h
  ·rename_i hr
   cases h
   exact⟨by omega,by omega,by simp[hr]⟩
  ·cases h
theorem kJ {s:List UInt8}{n:Int}(h:b9 s=(n,0)):∃ (y:Int) (m:Nat) (d:Int) (hh mi sec ms:Nat),DateOk y m d/\hh<=23/\mi<=59/\sec<=59/\ms<=999 /\
  n=(iX y m d - 719162)*86400000+(((60*(hh:Int)+mi)*60+sec)*1000+ms)/\s=ke (dw y m d) hh mi sec ms:=by
 unfold b9 at h
 split at h
 ·rename_i y m d hh mi sec r hn
  split at h
  ·rename_i ms ht
   obtain⟨hb,hpos⟩:=kO _ _ _ _ _ hn
   obtain⟨t1,t2,t3⟩:=wH ht
   unfold Bc at h
   split at h
   ·simp at h
   ·rename_i hc
    have hz:(lO y m d).2=0:=Decidable.of_not_not fun h=>hc (Or.inl h)
    have b1:¬ 23<hh:=fun h=>hc (Or.inr (Or.inl h))
    have b2:¬ 59<mi:=fun h=>hc (Or.inr (Or.inr (Or.inl h)))
    have b3:¬ 59<sec:=fun h=>hc (Or.inr (Or.inr (Or.inr h)))
    have p1:=hpos hh (by simp)
    have p2:=hpos mi (by simp)
    have p3:=hpos sec (by simp)
    obtain⟨d1,d2⟩:=qP (y:=y) (m:=m) (d:=d) (n:=(lO y m d).1) (by rw[<- hz])
    have e:=congrArg Prod.fst h
    simp only at e
    refine⟨y,m.toNat,d,hh.toNat,mi.toNat,sec.toNat,ms.toNat,d1,by omega,by omega,by omega,by omega,?_,?_⟩
    ·rw[<- e,d2];omega
    ·rw[hb,t3]
     simp[Ap,msT,ksT,ke,dw]
  ·simp at h
 ·simp at h
def IsN (n:Int)(sc:Nat):Prop:=-999999999999999<=n/\n<=999999999999999/\sc<=12
instance (n:Int) (sc:Nat):Decidable (IsN n sc):=by unfold IsN;infer_instance
def dl (a:Nat):Nat:=(bS 20 a).length
theorem Ko:∀ (f a:Nat),a<10 ^ f->0<f->1<=(bS f a).length/\a<10 ^ (bS f a).length
 | 0,a,_,h=>absurd h (by omega)
 | f+1,a,hf,_=>by
   rw[bS]
   by_cases h:a<10
   ·rw[if_pos h];simp;omega
   ·rw[if_neg h]
    have hf':a / 10<10 ^ f:=by rw[Nat.pow_succ] at hf;exact Nat.div_lt_of_lt_mul (by rw[Nat.mul_comm];exact hf)
    have h0:0<f:=by
     cases f with
     | zero=>simp at hf;omega
     | succ f=>omega
    have ih:=Ko f (a / 10) hf' h0
    rw[List.length_append,List.length_cons,List.length_nil,Nat.pow_succ]
    omega
theorem lI {a:Nat}(h:a<10 ^ 15):1<=dl a/\dl a<=15/\a<10 ^ dl a:=by
 have h20:a<10 ^ 20:=Nat.lt_of_lt_of_le h (Nat.pow_le_pow_right (by omega) (by omega))
 have h1:=Ko 20 a h20 (by omega)
 have h2:=congrArg List.length (eE 14 20 a h20 h (by omega))
 rw[List.length_append,List.length_replicate,aT] at h2
 unfold dl
 exact⟨h1.1,by omega,h1.2⟩
theorem Et {a K:Nat}(h:a<10 ^ 15)(hK:dl a<=K):List.replicate (K - dl a) 48++bS 20 a=aW K a:=by
 have h20:a<10 ^ 20:=Nat.lt_of_lt_of_le h (Nat.pow_le_pow_right (by omega) (by omega))
 have hs:=lI h
 obtain⟨k,rfl⟩:∃ k,K=k+1:=⟨K - 1,by omega⟩
 exact eE k 20 a h20 (Nat.lt_of_lt_of_le hs.2.2 (Nat.pow_le_pow_right (by omega) hK)) (by omega)
theorem fx (i:Nat):∀ (j a:Nat),aW (i+j) a=aW i (a / 10 ^ j)++aW j a
 | 0,a=>by simp[aW]
 | j+1,a=>by
   rw[<- Nat.add_assoc,aW,fx i j (a / 10),aW,List.append_assoc,Nat.div_div_eq_div_mul,Nat.pow_succ,Nat.mul_comm 10]
def iW (n:Int)(sc:Nat):List UInt8:=
 (if n<0 then [45] else [])++(aW (max (dl n.natAbs) (sc+1) - sc) (n.natAbs / 10 ^ sc)++(if sc=0 then [] else 46::aW sc n.natAbs))
theorem Q6 {n:Int}(h:-9223372036854775808<n)(h2:n<=9223372036854775807):ae Tryz.prog au 88 [.int .i64 n] (.int .i64 (n.natAbs:Int)):=by
 have e:max n (0 - n)=(n.natAbs:Int):=by omega
 refine ae.intro Q88.2 (by simp[Q88]) ?_
 simp(disch:=try exact dI) only[Q88,e,push_cast,seval]
theorem EN {n:Int}(h:-9223372036854775808<n)(h2:n<=9223372036854775807)(sc:Nat):ae Tryz.prog au 86 [.agg [.int .i64 n,.int .i64 (sc:Int)]] (.int .i64 (if IsN n sc then 0 else 2)):=by
 have ha:=Q6 h h2
 by_cases h1:(999999999999999:Int)<(n.natAbs:Int)
 ·rw[if_neg (by unfold IsN;omega)]
  refine ae.intro Q86.2 (by simp[Q86]) ?_
  simp(disch:=try exact dI) only[Q86,push_cast,seval]
  refine ab.pure ha rfl ?_
  exact qsZ
 have h2:¬ n < -999999999999999:=by omega
 have h3:¬ (sc:Int)<0:=by omega
 by_cases h4:(12:Int)<(sc:Int)
 ·rw[if_neg (by unfold IsN;omega)]
  refine ae.intro Q86.2 (by simp[Q86]) ?_
  simp(disch:=try exact dI) only[Q86,push_cast,seval]
  refine ab.pure ha rfl ?_
  exact qsZ
 ·rw[if_pos (by unfold IsN;omega)]
  refine ae.intro Q86.2 (by simp[Q86]) ?_
  simp(disch:=try exact dI) only[Q86,push_cast,seval]
  refine ab.pure ha rfl ?_
  exact qsZ
theorem Be {n:Int}(h:-9223372036854775808<n)(h2:n<=9223372036854775807){sc:Nat}(hn:¬ IsN n sc):ae Tryz.prog au 42 [.agg [.int .i64 n,.int .i64 (sc:Int)]] (.tup [.str [],.int .i64 2]):=by
 have hc:=EN h h2 sc
 rw[if_neg hn] at hc
 refine ae.intro Q42.2 (by simp[Q42]) ?_
 simp(disch:=try exact dI) only[Q42,push_cast,seval]
 refine ab.pure hc rfl ?_
 exact qsZ
theorem Bf {n:Int}{sc:Nat}(hn:IsN n sc):ae Tryz.prog au 42 [.agg [.int .i64 n,.int .i64 (sc:Int)]] (.tup [.str (iW n sc),.int .i64 0]):=by
 obtain⟨hn1,hn2,hn3⟩:=hn
 have hc:=EN (n:=n) (by omega) (by omega) sc
 rw[if_pos ⟨hn1,hn2,hn3⟩] at hc
 have ha:=Q6 (n:=n) (by omega) (by omega)
 have hi:=tr (n.natAbs:Int) (by omega) (by omega)
 have hlt:n.natAbs<10 ^ 15:=by simp;omega
 have hdl:=lI hlt
 have hL:=Et hlt (K:=max (dl n.natAbs) (sc+1)) (by omega)
 have hL2:=fx (max (dl n.natAbs) (sc+1) - sc) sc n.natAbs
 rw[show max (dl n.natAbs) (sc+1) - sc+sc=max (dl n.natAbs) (sc+1) by omega] at hL2
 have hr:=uG (sc+1 - dl n.natAbs) (by omega)
 rw[show max (dl n.natAbs) (sc+1) - dl n.natAbs=sc+1 - dl n.natAbs by omega] at hL
 have e1:gi (n.natAbs:Int)=bS 20 n.natAbs:=by unfold gi;rw[if_neg (by omega),Int.toNat_natCast]
 rw[e1] at hi
 have l1:=aT (max (dl n.natAbs) (sc+1) - sc) (n.natAbs / 10 ^ sc)
 have l2:=aT sc n.natAbs
 have l0:(bS 20 n.natAbs).length=dl n.natAbs:=rfl
 have lZ:(List.replicate (sc+1 - dl n.natAbs) (48:UInt8)).length=sc+1 - dl n.natAbs:=by simp
 unfold iW
 rw[hL2] at hL
 have hm:max (0:Int) ((sc:Int)+1 - ((dl n.natAbs:Nat):Int))=((sc+1 - dl n.natAbs:Nat):Int):=by omega
 rw[<- hm] at hr
 generalize aW (max (dl n.natAbs) (sc+1) - sc) (n.natAbs / 10 ^ sc)=A at *
 generalize aW sc n.natAbs=B at *
 generalize bS 20 n.natAbs=D at *
 generalize dl n.natAbs=k at *
 generalize List.replicate (sc+1 - k) (48:UInt8)=Z at *
 have lA:1<=A.length:=by omega
 clear hL2 e1 hlt
 by_cases hs:sc=0
 ·subst hs
  rw[if_pos rfl,List.append_nil]
  have hB:B=[]:=List.length_eq_zero_iff.1 l2
  have hDA:D=A:=by
   have hz:Z=[]:=by
    have:=congrArg List.length hL
    simp only[List.length_append] at this
    exact List.length_eq_zero_iff.1 (by omega)
   rw[hz,hB] at hL
   simpa using hL
  subst hDA
  by_cases hneg:n<0
  ·rw[if_pos hneg]
   refine ae.intro Q42.2 (by simp[Q42]) ?_
   simp(disch:=try exact dI) only[Q42,push_cast,seval]
   refine ab.pure hc rfl ?_
   refine zgZ ?_
   refine ab.pure ha rfl ?_
   refine zgZ ?_
   refine ab.pure hi rfl ?_
   exact qsZ
  ·rw[if_neg hneg]
   refine ae.intro Q42.2 (by simp[Q42]) ?_
   simp(disch:=try exact dI) only[Q42,push_cast,seval]
   refine ab.pure hc rfl ?_
   refine zgZ ?_
   refine ab.pure ha rfl ?_
   refine zgZ ?_
   refine ab.pure hi rfl ?_
   exact qsZ
 ·rw[if_neg hs]
  have hsI:(0:Int)<(sc:Int):=by omega
  have el:((A.length:Int)+(B.length:Int)) - (sc:Int)=(A.length:Int):=by omega
  have et:(((A++B).length:Int) - (sc:Int)).toNat=A.length:=by rw[List.length_append];omega
  have t1:(A++B).take A.length=A:=by simp
  have t2:(A++B).drop A.length=B:=by simp
  by_cases hneg:n<0
  ·rw[if_pos hneg]
   refine ae.intro Q42.2 (by simp[Q42]) ?_
   simp(disch:=try exact dI) only[Q42,push_cast,seval]
   refine ab.pure hc rfl ?_
   refine zgZ ?_
   refine ab.pure ha rfl ?_
   refine zgZ ?_
   refine ab.pure hi rfl ?_
   simp(disch:=try exact dI) only[l0,push_cast,seval]
   refine ab.pure hr rfl ?_
   simp(disch:=try exact dI) only[hL,el,t1,t2,push_cast,seval]
   rw[et,List.take_length,t1,t2]
  ·rw[if_neg hneg]
   refine ae.intro Q42.2 (by simp[Q42]) ?_
   simp(disch:=try exact dI) only[Q42,push_cast,seval]
   refine ab.pure hc rfl ?_
   refine zgZ ?_
   refine ab.pure ha rfl ?_
   refine zgZ ?_
   refine ab.pure hi rfl ?_
   simp(disch:=try exact dI) only[l0,push_cast,seval]
   refine ab.pure hr rfl ?_
   simp(disch:=try exact dI) only[hL,el,t1,t2,push_cast,seval]
   rw[et,List.take_length,t1,t2]
def dd:Nat->Nat->List Nat
 | 0,_=>[]
 | f+1,a=>if a=0 then [] else a % 10::dd f (a / 10)
def OF (a sc i:Nat):List UInt8:=if i<=sc then aW i a else aW (i - sc) (a / 10 ^ sc)++(if sc=0 then [] else 46::aW sc a)
theorem CT (i a:Nat):aW (i+1) a=UInt8.ofNat (48+a / 10 ^ i % 10)::aW i a:=by
 rw[Nat.add_comm,fx 1 i a]
 simp[aW]
theorem IX (n:Int)(sc:Nat):iW n sc=(if n<0 then [45] else [])++OF n.natAbs sc (max (dl n.natAbs) (sc+1)):=by
 have e:OF n.natAbs sc (max (dl n.natAbs) (sc+1))=aW (max (dl n.natAbs) (sc+1) - sc) (n.natAbs / 10 ^ sc)++(if sc=0 then [] else 46::aW sc n.natAbs):=by
  unfold OF
  rw[if_neg (show ¬ max (dl n.natAbs) (sc+1)<=sc by omega)]
 rw[e]
 rfl
theorem FY (a sc i:Nat):(OF a sc i).length<=i+1:=by
 unfold OF
 split
 ·rw[aT];omega
 ·split
  ·simp[aT];omega
  ·simp[aT];omega
end Go.Proofs.YtbaaokocnegdoaaGreatDoor
