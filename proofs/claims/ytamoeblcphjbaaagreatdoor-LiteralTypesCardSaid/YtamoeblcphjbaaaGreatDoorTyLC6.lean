/- A part. -/
import Derived.Test.YtamoeblcphjbaaaGreatDoorTyLD2
import Derived.Shelf.Strconv.Atoi
import Derived.Shelf.LaysM
import Derived.Shelf.Strconv.AtoiErr
import Derived.Test.YtamoeblcphjbaaaGreatDoorProg
set_option linter.unusedVariables false
set_option linter.unusedSimpArgs false
set_option maxRecDepth 100000
open List renaming length_cons->WG,replicate->Xt,length_append->WF,append_assoc->WS,append_nil->W7,take_length->WV
open Nat renaming pow_succ->XJ,pow_le_pow_right->Xx,div_lt_of_lt_mul->XW,mul_comm->XA,lt_of_lt_of_le->W0
open Int renaming toNat_natCast->Xs
namespace Go.Proofs.YtamoeblcphjbaaaGreatDoor
open Go Go.Ab
attribute [local irreducible] vc
def isD (c:UInt8):Bool:=decide (48<=c.toNat)&&decide (c.toNat<=57)
def kU:Int->List UInt8->Int
 | n,[]=>n
 | n,c::r=>kU (10*n+((c.toNat:Int) - 48)) r
theorem lu (c:UInt8):∀ (l:List UInt8) (n:Int),kU n (l++[c])=10*kU n l+((c.toNat:Int) - 48)
 | [],n=>rfl
 | d::l,n=>by simp only[List.cons_append,kU];exact lu c l _
theorem jm {c:UInt8}(h:isD c=true):48<=c.toNat/\c.toNat<=57:=by simpa[isD] using h
theorem dS:∀ (l:List UInt8) (n:Int),0<=n->l.all isD=true->0<=kU n l/\kU n l+1<=(n+1)*((10 ^ l.length:Nat):Int)
 | [],n,h0,_=>by simp[kU];omega
 | c::r,n,h0,hd=>by
   simp only[List.all_cons,Bool.and_eq_true] at hd
   have hc:=jm hd.1
   have ih:=dS r (10*n+((c.toNat:Int) - 48)) (by omega) hd.2
   refine⟨ih.1,Int.le_trans ih.2 ?_⟩
   rw[WG,XJ]
   have hp:(0:Int)<=((10 ^ r.length:Nat):Int):=Int.natCast_nonneg _
   have h1:(10*n+((c.toNat:Int) - 48)+1)*((10 ^ r.length:Nat):Int)<=((n+1)*10)*((10 ^ r.length:Nat):Int):=Int.mul_le_mul_of_nonneg_right (by omega) hp
   have h2:((n+1)*10)*((10 ^ r.length:Nat):Int)=(n+1)*((10 ^ r.length*10:Nat):Int):=by
    rw[Int.mul_assoc,Int.natCast_mul,Int.mul_comm (10:Int)];rfl
   exact Int.le_trans h1 (Int.le_of_eq h2)
theorem RX {l:List UInt8}(h:l.all isD=true)(hl:l.length<=9):0<=kU 0 l/\kU 0 l<=999999999:=by
 have:=dS l 0 (by omega) h
 have hp:10 ^ l.length<=10 ^ 9:=Xx (by omega) hl
 omega
def ua (k:Nat)(s:List UInt8):Option (Int×List UInt8):=if k<=s.length/\(s.take k).all isD=true then some (kU 0 (s.take k),s.drop k) else none
def Lh (s:List UInt8):Option (Int×List UInt8)->PV
 | some p=>.tup [.int .i64 p.1,.str p.2,.bool true]
 | none=>.tup [.int .i64 0,.str s,.bool false]
theorem qT:∀ k:Nat,Lib.repeatL [48] k=Xt k 48
 | 0=>rfl
 | k+1=>by rw[Lib.repeatL,qT k];rfl
theorem wg (k:Nat)(h:k<=17):am Tryz.prog aC 88 [.str [48],.int .i64 (k:Int)] (.str (Xt k 48)):=by
 have h1:=qS [48] (k:Int) (by omega) (by omega) (by simp;omega)
 rw[Xs,qT] at h1;exact h1
def bn:Nat->Nat->List UInt8
 | 0,_=>[]
 | k+1,n=>bn k (n / 10)++[UInt8.ofNat (48+n % 10)]
theorem bj:∀ (k n:Nat),(bn k n).length=k
 | 0,_=>rfl
 | k+1,n=>by simp[bn,bj k]
theorem rA:∀ k:Nat,bn k 0=Xt k 48
 | 0=>rfl
 | k+1=>by rw[bn,show 0 / 10=0 from rfl,rA k,List.replicate_succ'];rfl
theorem fI:∀ (k f n:Nat),n<10 ^ f->n<10 ^ (k+1)->0<f->Xt (k+1 - (bI f n).length) 48++bI f n=bn (k+1) n
 | k,0,n,_,_,h=>absurd h (by omega)
 | k,f+1,n,hf,hk,_=>by
   rw[bI]
   by_cases h:n<10
   ·rw[if_pos h,bn,show n / 10=0 by omega,rA,show n % 10=n by omega]
    simp
   ·rw[if_neg h]
    cases k with
    | zero=>simp at hk;omega
    | succ k=>
      have hf':n / 10<10 ^ f:=by rw[XJ] at hf;exact XW (by rw[XA];exact hf)
      have hk':n / 10<10 ^ (k+1):=by rw[XJ] at hk;exact XW (by rw[XA];exact hk)
      have h0:0<f:=by
       cases f with
       | zero=>simp at hf;omega
       | succ f=>omega
      have ih:=fI k f (n / 10) hf' hk' h0
      rw[bn,<- ih,WF,WS]
      simp
theorem IE:∀ (l:List UInt8),l.all isD=true->bn l.length (kU 0 l).toNat=l:=by
 intro l
 induction hn:l.length generalizing l with
 | zero=>intro _;simp[List.length_eq_zero_iff.1 hn,bn]
 | succ k ih=>
   intro h
   obtain⟨a,c,rfl⟩:∃ a c,l=a++[c]:=by
    refine⟨l.dropLast,l.getLast (by intro e;simp[e] at hn),(List.dropLast_concat_getLast _).symm⟩
   rw[List.all_append,Bool.and_eq_true] at h
   have hc:=jm (c:=c) (by simpa using h.2)
   have h0:=(dS a 0 (by omega) h.1).1
   rw[lu,bn]
   have e1:(10*kU 0 a+((c.toNat:Int) - 48)).toNat / 10=(kU 0 a).toNat:=by omega
   have e2:48+(10*kU 0 a+((c.toNat:Int) - 48)).toNat % 10=c.toNat:=by omega
   rw[e1,e2,ih a (by simpa using hn) h.1]
   simp
theorem Eg {n:Int}{k:Nat}(h0:0<=n)(hk:k<=16)(h1:n.toNat<10 ^ (k+1)):Xt (k+1 - (aN n).length) 48++aN n=bn (k+1) n.toNat:=by
 unfold aN
 rw[if_neg (by omega)]
 exact fI k 20 n.toNat (W0 h1 (Xx (by omega) (by omega))) h1 (by omega)
theorem fv {n:Int}{k:Nat}(h0:0<=n)(hk:k<=8)(h1:n.toNat<10 ^ (k+1)):am Tryz.prog aC 90 [.int .i64 n,.int .i64 ((k+1:Nat):Int)] (.str (bn (k+1) n.toNat)):=by
 have hp:10 ^ (k+1)<=10 ^ 9:=Xx (by omega) (by omega)
 have hi:=eF n (by omega) (by omega)
 have hL:=Eg h0 (by omega:k<=16) h1
 have hl:=mJ n
 have hr:=wg (k+1 - (aN n).length) (by omega)
 generalize aN n=L at *
 have hm:max (0:Int) ((k:Int)+1 - (L.length:Int))=((k+1 - L.length:Nat):Int):=by omega
 rw[<- hm] at hr
 refine am.intro Q90.2 (by simp[Q90]) ?_
 simp(disch:=try exact dI) only[Q90,push_cast,seval]
 refine ae.pure hi rfl ?_
 refine zgZ ?_
 refine ae.pure hr rfl ?_
 simp(disch:=try exact dI) only[hL,push_cast,seval]
def de (y:Int)(m:Nat)(d:Int):List UInt8:=bn 4 y.toNat++[45]++bn 2 m++[45]++bn 2 d.toNat
theorem BR (y:Int)(m:Nat)(d:Int):(de y m d).length=10:=by simp[de,bj]
theorem KS {y:Int}{m:Nat}{d:Int}(h:DateOk y m d):am Tryz.prog aC 43 [.int .i64 (kh y m d - 719162)] (.tup [.str (de y m d),.int .i64 0]):=by
 have hc:=O4 h
 have hy1:=h.y1
 have hy2:=h.y2
 have hm1:=h.m1
 have hm2:=h.m2
 have hd1:=h.d1
 have hd2:=h.d2
 have hmd:=eS y m
 have p1:=fv (n:=y) (k:=3) (by omega) (by omega) (by simp;omega)
 have p2:=fv (n:=(m:Int)) (k:=1) (by omega) (by omega) (by simp;omega)
 have p3:=fv (n:=d) (k:=1) (by omega) (by omega) (by simp;omega)
 simp only[Nat.reduceAdd,Xs] at p1 p2 p3
 have l1:=bj 4 y.toNat
 have l2:=bj 2 m
 have l3:=bj 2 d.toNat
 unfold de
 generalize bn 4 y.toNat=t1 at *
 generalize bn 2 m=t2 at *
 generalize bn 2 d.toNat=t3 at *
 generalize kh y m d - 719162=n at *
 refine am.intro Q43.2 (by simp[Q43]) ?_
 simp(disch:=try exact dI) only[Q43,push_cast,seval]
 refine ae.pure hc rfl ?_
 refine zgZ ?_
 refine ae.pure p1 rfl ?_
 refine zgZ ?_
 refine ae.pure p2 rfl ?_
 refine zgZ ?_
 refine ae.pure p3 rfl ?_
 exact qsZ
theorem MI {d r:Int}(h1:-719162<=d/\d<=2932896)(h2:0<=r/\r<=86399999):am Tryz.prog aC 91 [.int .i64 (d*86400000+r)] (.tup [.int .i64 d,.int .i64 r,.int .i64 0]):=by
 have hin:=eG (n:=d*86400000+r) (lo:=-62135596800000) (hi:=253402300799999) ⟨by omega,by omega⟩
 obtain⟨n,hn⟩:∃ n,n=d*86400000+r:=⟨_,rfl⟩
 have e1:=iV (a:=n - -62135596800000) (b:=86400000) (by omega)
 have e2:=kr (a:=n - -62135596800000) (b:=86400000) (by omega)
 have e3:-719162+(n - -62135596800000) / 86400000=d:=by omega
 have e4:(n - -62135596800000) % 86400000=r:=by omega
 rw[<- hn] at hin ⊢
 refine am.intro Q91.2 (by simp[Q91]) ?_
 simp(disch:=try exact dI) only[Q91,push_cast,seval]
 refine ae.pure hin rfl ?_
 simp(disch:=try exact dI) only[e1,e2,e3,e4,push_cast,seval]
def g7 (t:List UInt8)(h mi s ms:Nat):List UInt8:=t++([84]++bn 2 h++[58]++bn 2 mi++[58]++bn 2 s)++(if ms=0 then [] else [46]++bn 3 ms)++[90]
theorem yD {y:Int}{m:Nat}{d:Int}(hD:DateOk y m d){h mi s ms:Nat}(h1:h<=23)(h2:mi<=59)(h3:s<=59)(h4:ms<=999) :
  am Tryz.prog aC 44 [.int .i64 ((kh y m d - 719162)*86400000+((((60*(h:Int)+mi)*60+s)*1000+ms)))] (.tup [.str (g7 (de y m d) h mi s ms),.int .i64 0]):=by
 have hr:=gI hD
 have hs:=MI (d:=kh y m d - 719162) (r:=((60*(h:Int)+mi)*60+s)*1000+ms) ⟨by omega,by omega⟩ ⟨by omega,by omega⟩
 have ht:=KS hD
 have htl:=BR y m d
 have p1:=fv (n:=(h:Int)) (k:=1) (by omega) (by omega) (by simp;omega)
 have p2:=fv (n:=(mi:Int)) (k:=1) (by omega) (by omega) (by simp;omega)
 have p3:=fv (n:=(s:Int)) (k:=1) (by omega) (by omega) (by simp;omega)
 have p4:=fv (n:=(ms:Int)) (k:=2) (by omega) (by omega) (by simp;omega)
 simp only[Nat.reduceAdd,Xs] at p1 p2 p3 p4
 have l1:=bj 2 h
 have l2:=bj 2 mi
 have l3:=bj 2 s
 have l4:=bj 3 ms
 obtain⟨r,hr⟩:∃ r,r=((60*(h:Int)+mi)*60+s)*1000+ms:=⟨_,rfl⟩
 rw[<- hr] at hs ⊢
 have q1:=iV (a:=r) (b:=1000) (by omega)
 have q2:=iV (a:=r / 1000) (b:=3600) (by omega)
 have q3:=iV (a:=r / 1000) (b:=60) (by omega)
 have q4:=kr (a:=r / 1000 / 60) (b:=60) (by omega)
 have q5:=kr (a:=r / 1000) (b:=60) (by omega)
 have q6:=kr (a:=r) (b:=1000) (by omega)
 have g2:r / 1000 / 3600=h:=by omega
 have g3:r / 1000 / 60 % 60=mi:=by omega
 have g4:r / 1000 % 60=s:=by omega
 have g5:r % 1000=ms:=by omega
 have hrb:0<=r/\r<=86399999:=⟨by omega,by omega⟩
 clear hr
 unfold g7
 generalize de y m d=t0 at *
 generalize bn 2 h=t1 at *
 generalize bn 2 mi=t2 at *
 generalize bn 2 s=t3 at *
 generalize bn 3 ms=t4 at *
 generalize kh y m d - 719162=n at *
 generalize n*86400000+r=N at *
 by_cases hm:ms=0
 ·rw[if_pos hm,W7]
  subst hm
  refine am.intro Q44.2 (by simp[Q44]) ?_
  simp(disch:=try exact dI) only[Q44,push_cast,seval]
  refine ae.pure hs rfl ?_
  refine zgZ ?_
  refine ae.pure ht rfl ?_
  simp(disch:=try exact dI) only[q1,q2,g2,push_cast,seval]
  refine ae.pure p1 rfl ?_
  simp(disch:=try exact dI) only[q3,q4,g3,push_cast,seval]
  refine ae.pure p2 rfl ?_
  simp(disch:=try exact dI) only[q5,g4,push_cast,seval]
  refine ae.pure p3 rfl ?_
  simp(disch:=try exact dI) only[q6,g5,push_cast,seval]
 ·rw[if_neg hm]
  refine am.intro Q44.2 (by simp[Q44]) ?_
  simp(disch:=try exact dI) only[Q44,push_cast,seval]
  refine ae.pure hs rfl ?_
  refine zgZ ?_
  refine ae.pure ht rfl ?_
  simp(disch:=try exact dI) only[q1,q2,g2,push_cast,seval]
  refine ae.pure p1 rfl ?_
  simp(disch:=try exact dI) only[q3,q4,g3,push_cast,seval]
  refine ae.pure p2 rfl ?_
  simp(disch:=try exact dI) only[q5,g4,push_cast,seval]
  refine ae.pure p3 rfl ?_
  have hm':¬ (ms:Int)=0:=by omega
  simp(disch:=try exact dI) only[q6,g5,push_cast,seval]
  refine ae.pure p4 rfl ?_
  exact qsZ
def IsN (n:Int)(sc:Nat):Prop:=-999999999999999<=n/\n<=999999999999999/\sc<=12
instance (n:Int) (sc:Nat):Decidable (IsN n sc):=by unfold IsN;infer_instance
def dl (a:Nat):Nat:=(bI 20 a).length
theorem LI:∀ (f a:Nat),a<10 ^ f->0<f->1<=(bI f a).length/\a<10 ^ (bI f a).length
 | 0,a,_,h=>absurd h (by omega)
 | f+1,a,hf,_=>by
   rw[bI]
   by_cases h:a<10
   ·rw[if_pos h];simp;omega
   ·rw[if_neg h]
    have hf':a / 10<10 ^ f:=by rw[XJ] at hf;exact XW (by rw[XA];exact hf)
    have h0:0<f:=by
     cases f with
     | zero=>simp at hf;omega
     | succ f=>omega
    have ih:=LI f (a / 10) hf' h0
    rw[WF,WG,List.length_nil,XJ]
    omega
theorem fH {a:Nat}(h:a<10 ^ 15):1<=dl a/\dl a<=15/\a<10 ^ dl a:=by
 have h20:a<10 ^ 20:=W0 h (Xx (by omega) (by omega))
 have h1:=LI 20 a h20 (by omega)
 have h2:=congrArg List.length (fI 14 20 a h20 h (by omega))
 rw[WF,List.length_replicate,bj] at h2
 unfold dl
 exact⟨h1.1,by omega,h1.2⟩
theorem su {a K:Nat}(h:a<10 ^ 15)(hK:dl a<=K):Xt (K - dl a) 48++bI 20 a=bn K a:=by
 have h20:a<10 ^ 20:=W0 h (Xx (by omega) (by omega))
 have hs:=fH h
 obtain⟨k,rfl⟩:∃ k,K=k+1:=⟨K - 1,by omega⟩
 exact fI k 20 a h20 (W0 hs.2.2 (Xx (by omega) hK)) (by omega)
theorem gQ (i:Nat):∀ (j a:Nat),bn (i+j) a=bn i (a / 10 ^ j)++bn j a
 | 0,a=>by simp[bn]
 | j+1,a=>by
   rw[<- Nat.add_assoc,bn,gQ i j (a / 10),bn,WS,Nat.div_div_eq_div_mul,XJ,XA 10]
def cl (n:Int)(sc:Nat):List UInt8:=
 (if n<0 then [45] else [])++(bn (max (dl n.natAbs) (sc+1) - sc) (n.natAbs / 10 ^ sc)++(if sc=0 then [] else 46::bn sc n.natAbs))
theorem SV {n:Int}(h:-9223372036854775808<n)(h2:n<=9223372036854775807):am Tryz.prog aC 87 [.int .i64 n] (.int .i64 (n.natAbs:Int)):=by
 have e:max n (0 - n)=(n.natAbs:Int):=by omega
 refine am.intro Q87.2 (by simp[Q87]) ?_
 simp(disch:=try exact dI) only[Q87,e,push_cast,seval]
theorem FK {n:Int}(h:-9223372036854775808<n)(h2:n<=9223372036854775807)(sc:Nat):am Tryz.prog aC 86 [.agg [.int .i64 n,.int .i64 (sc:Int)]] (.int .i64 (if IsN n sc then 0 else 2)):=by
 have ha:=SV h h2
 by_cases h1:(999999999999999:Int)<(n.natAbs:Int)
 ·rw[if_neg (by unfold IsN;omega)]
  refine am.intro Q86.2 (by simp[Q86]) ?_
  simp(disch:=try exact dI) only[Q86,push_cast,seval]
  refine ae.pure ha rfl ?_
  exact qsZ
 have h2:¬ n < -999999999999999:=by omega
 have h3:¬ (sc:Int)<0:=by omega
 by_cases h4:(12:Int)<(sc:Int)
 ·rw[if_neg (by unfold IsN;omega)]
  refine am.intro Q86.2 (by simp[Q86]) ?_
  simp(disch:=try exact dI) only[Q86,push_cast,seval]
  refine ae.pure ha rfl ?_
  exact qsZ
 ·rw[if_pos (by unfold IsN;omega)]
  refine am.intro Q86.2 (by simp[Q86]) ?_
  simp(disch:=try exact dI) only[Q86,push_cast,seval]
  refine ae.pure ha rfl ?_
  exact qsZ
theorem BS {n:Int}(h:-9223372036854775808<n)(h2:n<=9223372036854775807){sc:Nat}(hn:¬ IsN n sc):am Tryz.prog aC 42 [.agg [.int .i64 n,.int .i64 (sc:Int)]] (.tup [.str [],.int .i64 2]):=by
 have hc:=FK h h2 sc
 rw[if_neg hn] at hc
 refine am.intro Q42.2 (by simp[Q42]) ?_
 simp(disch:=try exact dI) only[Q42,push_cast,seval]
 refine ae.pure hc rfl ?_
 exact qsZ
theorem qE {n:Int}{sc:Nat}(hn:IsN n sc):am Tryz.prog aC 42 [.agg [.int .i64 n,.int .i64 (sc:Int)]] (.tup [.str (cl n sc),.int .i64 0]):=by
 obtain⟨hn1,hn2,hn3⟩:=hn
 have hc:=FK (n:=n) (by omega) (by omega) sc
 rw[if_pos ⟨hn1,hn2,hn3⟩] at hc
 have ha:=SV (n:=n) (by omega) (by omega)
 have hi:=eF (n.natAbs:Int) (by omega) (by omega)
 have hlt:n.natAbs<10 ^ 15:=by simp;omega
 have hdl:=fH hlt
 have hL:=su hlt (K:=max (dl n.natAbs) (sc+1)) (by omega)
 have hL2:=gQ (max (dl n.natAbs) (sc+1) - sc) sc n.natAbs
 rw[show max (dl n.natAbs) (sc+1) - sc+sc=max (dl n.natAbs) (sc+1) by omega] at hL2
 have hr:=wg (sc+1 - dl n.natAbs) (by omega)
 rw[show max (dl n.natAbs) (sc+1) - dl n.natAbs=sc+1 - dl n.natAbs by omega] at hL
 have e1:aN (n.natAbs:Int)=bI 20 n.natAbs:=by unfold aN;rw[if_neg (by omega),Xs]
 rw[e1] at hi
 have l1:=bj (max (dl n.natAbs) (sc+1) - sc) (n.natAbs / 10 ^ sc)
 have l2:=bj sc n.natAbs
 have l0:(bI 20 n.natAbs).length=dl n.natAbs:=rfl
 have lZ:(Xt (sc+1 - dl n.natAbs) (48:UInt8)).length=sc+1 - dl n.natAbs:=by simp
 unfold cl
 rw[hL2] at hL
 have hm:max (0:Int) ((sc:Int)+1 - ((dl n.natAbs:Nat):Int))=((sc+1 - dl n.natAbs:Nat):Int):=by omega
 rw[<- hm] at hr
 generalize bn (max (dl n.natAbs) (sc+1) - sc) (n.natAbs / 10 ^ sc)=A at *
 generalize bn sc n.natAbs=B at *
 generalize bI 20 n.natAbs=D at *
 generalize dl n.natAbs=k at *
 generalize Xt (sc+1 - k) (48:UInt8)=Z at *
 have lA:1<=A.length:=by omega
 clear hL2 e1 hlt
 by_cases hs:sc=0
 ·subst hs
  rw[if_pos rfl,W7]
  have hB:B=[]:=List.length_eq_zero_iff.1 l2
  have hDA:D=A:=by
   have hz:Z=[]:=by
    have:=congrArg List.length hL
    simp only[WF] at this
    exact List.length_eq_zero_iff.1 (by omega)
   rw[hz,hB] at hL
   simpa using hL
  subst hDA
  by_cases hneg:n<0
  ·rw[if_pos hneg]
   refine am.intro Q42.2 (by simp[Q42]) ?_
   simp(disch:=try exact dI) only[Q42,push_cast,seval]
   refine ae.pure hc rfl ?_
   refine zgZ ?_
   refine ae.pure ha rfl ?_
   refine zgZ ?_
   refine ae.pure hi rfl ?_
   exact qsZ
  ·rw[if_neg hneg]
   refine am.intro Q42.2 (by simp[Q42]) ?_
   simp(disch:=try exact dI) only[Q42,push_cast,seval]
   refine ae.pure hc rfl ?_
   refine zgZ ?_
   refine ae.pure ha rfl ?_
   refine zgZ ?_
   refine ae.pure hi rfl ?_
   exact qsZ
 ·rw[if_neg hs]
  have hsI:(0:Int)<(sc:Int):=by omega
  have el:((A.length:Int)+(B.length:Int)) - (sc:Int)=(A.length:Int):=by omega
  have et:(((A++B).length:Int) - (sc:Int)).toNat=A.length:=by rw[WF];omega
  have t1:(A++B).take A.length=A:=by simp
  have t2:(A++B).drop A.length=B:=by simp
  by_cases hneg:n<0
  ·rw[if_pos hneg]
   refine am.intro Q42.2 (by simp[Q42]) ?_
   simp(disch:=try exact dI) only[Q42,push_cast,seval]
   refine ae.pure hc rfl ?_
   refine zgZ ?_
   refine ae.pure ha rfl ?_
   refine zgZ ?_
   refine ae.pure hi rfl ?_
   simp(disch:=try exact dI) only[l0,push_cast,seval]
   refine ae.pure hr rfl ?_
   simp(disch:=try exact dI) only[hL,el,t1,t2,push_cast,seval]
   rw[et,WV,t1,t2]
  ·rw[if_neg hneg]
   refine am.intro Q42.2 (by simp[Q42]) ?_
   simp(disch:=try exact dI) only[Q42,push_cast,seval]
   refine ae.pure hc rfl ?_
   refine zgZ ?_
   refine ae.pure ha rfl ?_
   refine zgZ ?_
   refine ae.pure hi rfl ?_
   simp(disch:=try exact dI) only[l0,push_cast,seval]
   refine ae.pure hr rfl ?_
   simp(disch:=try exact dI) only[hL,el,t1,t2,push_cast,seval]
   rw[et,WV,t1,t2]
def Qh (a sc i:Nat):List UInt8:=if i<=sc then bn i a else bn (i - sc) (a / 10 ^ sc)++(if sc=0 then [] else 46::bn sc a)
theorem Dv (i a:Nat):bn (i+1) a=UInt8.ofNat (48+a / 10 ^ i % 10)::bn i a:=by
 rw[Nat.add_comm,gQ 1 i a]
 simp[bn]
theorem JY (n:Int)(sc:Nat):cl n sc=(if n<0 then [45] else [])++Qh n.natAbs sc (max (dl n.natAbs) (sc+1)):=by
 have e:Qh n.natAbs sc (max (dl n.natAbs) (sc+1))=bn (max (dl n.natAbs) (sc+1) - sc) (n.natAbs / 10 ^ sc)++(if sc=0 then [] else 46::bn sc n.natAbs):=by
  unfold Qh
  rw[if_neg (show ¬ max (dl n.natAbs) (sc+1)<=sc by omega)]
 rw[e]
 rfl
theorem GQ (a sc i:Nat):(Qh a sc i).length<=i+1:=by
 unfold Qh
 split
 ·rw[bj];omega
 ·split
  ·simp[bj];omega
  ·simp[bj];omega
def rdS:Bool->Nat->Nat->List UInt8->Nat×Nat
 | _,v,c,[]=>(v,c)
 | p,v,c,b::r=>if isD b=true then rdS (p||decide (b=46)) (10*v+(b.toNat - 48)) (if (p||decide (b=46))=true then c+1 else c) r else rdS (p||decide (b=46)) v c r
def sgI (s:List UInt8)(v:Nat):Int:=if s.head? = some 45 then -(v:Int) else v
def bC (s:List UInt8):(Int×Nat)×Int:=
 if s=[] then ((0,0),4) else if 17<s.length then ((0,0),5) else
  if IsN (sgI s (rdS false 0 0 s).1) (rdS false 0 0 s).2/\cl (sgI s (rdS false 0 0 s).1) (rdS false 0 0 s).2=s then ((sgI s (rdS false 0 0 s).1,(rdS false 0 0 s).2),0) else ((0,0),13)
theorem AI {n:Int}{sc:Nat}(h:IsN n sc):(cl n sc).length<=17:=by
 obtain⟨h1,h2,h3⟩:=h
 have hdl:=fH (a:=n.natAbs) (by simp;omega)
 have:=GQ n.natAbs sc (max (dl n.natAbs) (sc+1))
 rw[JY]
 split<;>simp<;>omega
theorem xg (s:List UInt8)(c:Int):am Tryz.prog aC 206 [.str s,.int .u8 c] (.int .i64 (fZ c.toNat.toUInt8 s 0)):=by
 generalize hq:fZ c.toNat.toUInt8 s 0=q
 refine am.intro PD (by simp[VR]) ?_
 simp(disch:=try exact dI) only[VR,qz,re,hq,push_cast,seval]
theorem lk (s:List UInt8)(c:UInt8):am Tryz.prog aC 159 [.str s,.int .u8 (c.toNat:Int)] (.int .i64 (fZ c s 0)):=by
 have h22:=xg s (c.toNat:Int)
 rw[show ((c.toNat:Int)).toNat.toUInt8=c by simp] at h22
 generalize fZ c s 0=q at *
 refine am.intro Vw.2 (by simp[Vw]) ?_
 simp(disch:=try exact dI) only[Vw,push_cast,seval]
 refine ae.pure h22 rfl ?_
 exact qsZ
end Go.Proofs.YtamoeblcphjbaaaGreatDoor
/-
 DERIVED: THE SHELF's CONTRACTS AT THIS DUMP,IN PLAIN WORDS (tools/lay-plain.mjs out of 'TryzC8.lean',which tools/lay-shelf.mjs wrote): THE SAME DECLARATIONS UNDER THE SAME NAMES: 'import','namespace','open','def','theorem' AND NOTHING ELSE: no command of the shelf's: FOR A HAND-IN. Each laying: the table of numbers ('.._ren') and one theorem,a field a fact of the dump's own or the kernel's comparison;each ly: ONE APPLICATION.
-/
namespace Go.Proofs
open Go.Shelf
def Tryz.lays172_ren:Go.Shelf.Ren:=⟨fun | 172=>185 | 244=>221 | 245=>222 | 247=>249 | 279=>250 | 280=>251 | 281=>252 | 282=>253 | 287=>270 | 316=>271 | 171=>66 | 205=>272 | 321=>278 | 322=>279 | 243=>147 | 246=>108 | 283=>176 | 284=>177 | 285=>178 | 286=>179 | 129=>215 | 317=>214 | 318=>216 | 319=>217 | 320=>218 | 337=>246 | 338=>247 | n=>n,fun | 9=>9 | 3=>3 | 75=>85 | 76=>87 | 4=>4 | 5=>5 | 167=>240 | 37=>37 | 0=>0 | 85=>241 | 2=>2 | 168=>243 | 53=>181 | 175=>258 | 46=>163 | 210=>261 | 127=>131 | 145=>272 | 143=>270 | 21=>21 | 171=>180 | 173=>184 | 212=>219 | 51=>206 | 20=>20 | 213=>220 | 232=>256 | 233=>257 | 80=>90 | n=>n,fun | 15=>6 | 16=>7 | 17=>3 | 18=>4 | 19=>5 | n=>n⟩
theorem Tryz.lays172:Go.Proofs.Lays.n172 Tryz.prog Tryz.lays172_ren:={
 mixed:=by kernel_rfl
 f129:=Tryz.func215.trans (congrArg some (by kernel_rfl))
 f171:=Tryz.func66.trans (congrArg some (by kernel_rfl))
 f172:=Tryz.func185.trans (congrArg some (by kernel_rfl))
 f205:=Tryz.func272.trans (congrArg some (by kernel_rfl))
 f243:=Tryz.func147.trans (congrArg some (by kernel_rfl))
 f244:=Tryz.func221.trans (congrArg some (by kernel_rfl))
 f245:=Tryz.func222.trans (congrArg some (by kernel_rfl))
 f246:=Tryz.func108.trans (congrArg some (by kernel_rfl))
 f247:=Tryz.func249.trans (congrArg some (by kernel_rfl))
 f279:=Tryz.func250.trans (congrArg some (by kernel_rfl))
 f280:=Tryz.func251.trans (congrArg some (by kernel_rfl))
 f281:=Tryz.func252.trans (congrArg some (by kernel_rfl))
 f282:=Tryz.func253.trans (congrArg some (by kernel_rfl))
 f283:=Tryz.func176.trans (congrArg some (by kernel_rfl))
 f284:=Tryz.func177.trans (congrArg some (by kernel_rfl))
 f285:=Tryz.func178.trans (congrArg some (by kernel_rfl))
 f286:=Tryz.func179.trans (congrArg some (by kernel_rfl))
 f287:=Tryz.func270.trans (congrArg some (by kernel_rfl))
 f316:=Tryz.func271.trans (congrArg some (by kernel_rfl))
 f317:=Tryz.func214.trans (congrArg some (by kernel_rfl))
 f318:=Tryz.func216.trans (congrArg some (by kernel_rfl))
 f319:=Tryz.func217.trans (congrArg some (by kernel_rfl))
 f320:=Tryz.func218.trans (congrArg some (by kernel_rfl))
 f321:=Tryz.func278.trans (congrArg some (by kernel_rfl))
 f322:=Tryz.func279.trans (congrArg some (by kernel_rfl))
 f337:=Tryz.func246.trans (congrArg some (by kernel_rfl))
 f338:=Tryz.func247.trans (congrArg some (by kernel_rfl))
 t0:=Tryz.underlying0
 a0:=Tryz.isAgg0
 z0:=Tryz.sizeOf0
 v0:=Tryz.zeroValue0
 t2:=Tryz.underlying2
 a2:=Tryz.isAgg2
 z2:=Tryz.sizeOf2
 v2:=Tryz.zeroValue2
 t3:=Tryz.underlying3
 a3:=Tryz.isAgg3
 z3:=Tryz.sizeOf3
 v3:=Tryz.zeroValue3
 t4:=Tryz.underlying4
 a4:=Tryz.isAgg4
 z4:=Tryz.sizeOf4
 v4:=Tryz.zeroValue4
 t5:=Tryz.underlying5
 a5:=Tryz.isAgg5
 z5:=Tryz.sizeOf5
 v5:=Tryz.zeroValue5
 t9:=Tryz.underlying9
 a9:=Tryz.isAgg9
 z9:=Tryz.sizeOf9
 v9:=Tryz.zeroValue9
 t20:=Tryz.underlying20
 a20:=Tryz.isAgg20
 z20:=Tryz.sizeOf20
 v20:=Tryz.zeroValue20
 t21:=Tryz.underlying21
 a21:=Tryz.isAgg21
 z21:=Tryz.sizeOf21
 v21:=Tryz.zeroValue21
 t37:=Tryz.underlying37
 a37:=Tryz.isAgg37
 z37:=Tryz.sizeOf37
 v37:=Tryz.zeroValue37
 t46:=Tryz.underlying163
 a46:=Tryz.isAgg163
 z46:=Tryz.sizeOf163
 v46:=Tryz.zeroValue163
 t51:=Tryz.underlying206
 a51:=Tryz.isAgg206
 z51:=Tryz.sizeOf206
 v51:=Tryz.zeroValue206
 t53:=Tryz.underlying181
 a53:=Tryz.isAgg181
 z53:=Tryz.sizeOf181
 v53:=Tryz.zeroValue181
 t75:=Tryz.underlying85
 a75:=Tryz.isAgg85
 z75:=Tryz.sizeOf85
 v75:=Tryz.zeroValue85
 t76:=Tryz.underlying87
 a76:=Tryz.isAgg87
 z76:=Tryz.sizeOf87
 v76:=Tryz.zeroValue87
 t85:=Tryz.underlying241
 a85:=Tryz.isAgg241
 z85:=Tryz.sizeOf241
 v85:=Tryz.zeroValue241
 t127:=Tryz.underlying131
 a127:=Tryz.isAgg131
 z127:=Tryz.sizeOf131
 v127:=Tryz.zeroValue131
 t143:=Tryz.underlying270
 a143:=Tryz.isAgg270
 z143:=Tryz.sizeOf270
 v143:=Tryz.zeroValue270
 t145:=Tryz.underlying272
 a145:=Tryz.isAgg272
 z145:=Tryz.sizeOf272
 v145:=Tryz.zeroValue272
 t167:=Tryz.underlying240
 a167:=Tryz.isAgg240
 z167:=Tryz.sizeOf240
 v167:=Tryz.zeroValue240
 t168:=Tryz.underlying243
 a168:=Tryz.isAgg243
 z168:=Tryz.sizeOf243
 v168:=Tryz.zeroValue243
 t171:=Tryz.underlying180
 a171:=Tryz.isAgg180
 z171:=Tryz.sizeOf180
 v171:=Tryz.zeroValue180
 t173:=Tryz.underlying184
 a173:=Tryz.isAgg184
 z173:=Tryz.sizeOf184
 v173:=Tryz.zeroValue184
 t175:=Tryz.underlying258
 a175:=Tryz.isAgg258
 z175:=Tryz.sizeOf258
 v175:=Tryz.zeroValue258
 t210:=Tryz.underlying261
 a210:=Tryz.isAgg261
 z210:=Tryz.sizeOf261
 v210:=Tryz.zeroValue261
 t212:=Tryz.underlying219
 a212:=Tryz.isAgg219
 z212:=Tryz.sizeOf219
 v212:=Tryz.zeroValue219
 t213:=Tryz.underlying220
 a213:=Tryz.isAgg220
 z213:=Tryz.sizeOf220
 t232:=Tryz.underlying256
 a232:=Tryz.isAgg256
 z232:=Tryz.sizeOf256
 v232:=Tryz.zeroValue256
 t233:=Tryz.underlying257
 a233:=Tryz.isAgg257
 z233:=Tryz.sizeOf257
 v233:=Tryz.zeroValue257
 g15:=by kernel_rfl
 g16:=by kernel_rfl
 g17:=by kernel_rfl
 g18:=by kernel_rfl
 g19:=by kernel_rfl }
def Tryz.laysC172_ren:Go.Shelf.Ren:=⟨fun | 172=>185 | 244=>221 | 245=>222 | 247=>249 | 279=>250 | 280=>251 | 281=>252 | 282=>253 | 287=>270 | 316=>271 | 171=>66 | 205=>272 | 321=>278 | 322=>279 | 243=>147 | 246=>108 | 283=>176 | 284=>177 | 285=>178 | 286=>179 | 129=>215 | 317=>214 | 318=>216 | 319=>217 | 320=>218 | 337=>246 | 338=>247 | n=>n,fun | 9=>9 | 3=>3 | 75=>85 | 76=>87 | 4=>4 | 5=>5 | 167=>240 | 37=>37 | 0=>0 | 85=>241 | 2=>2 | 168=>243 | 53=>181 | 175=>258 | 46=>163 | 210=>261 | 127=>131 | 145=>272 | 143=>270 | 21=>21 | 171=>180 | 173=>184 | 212=>219 | 51=>206 | 20=>20 | 213=>220 | 232=>256 | 233=>257 | 80=>90 | n=>n,fun | 15=>6 | 16=>7 | 17=>3 | 18=>4 | 19=>5 | n=>n⟩
theorem Tryz.laysC172:Go.Proofs.LaysC.n172 Tryz.prog Tryz.laysC172_ren:={
 mixed:=by kernel_rfl
 f129:=Tryz.func215.trans (congrArg some (by kernel_rfl))
 f171:=Tryz.func66.trans (congrArg some (by kernel_rfl))
 f172:=Tryz.func185.trans (congrArg some (by kernel_rfl))
 f205:=Tryz.func272.trans (congrArg some (by kernel_rfl))
 f243:=Tryz.func147.trans (congrArg some (by kernel_rfl))
 f244:=Tryz.func221.trans (congrArg some (by kernel_rfl))
 f245:=Tryz.func222.trans (congrArg some (by kernel_rfl))
 f246:=Tryz.func108.trans (congrArg some (by kernel_rfl))
 f247:=Tryz.func249.trans (congrArg some (by kernel_rfl))
 f279:=Tryz.func250.trans (congrArg some (by kernel_rfl))
 f280:=Tryz.func251.trans (congrArg some (by kernel_rfl))
 f281:=Tryz.func252.trans (congrArg some (by kernel_rfl))
 f282:=Tryz.func253.trans (congrArg some (by kernel_rfl))
 f283:=Tryz.func176.trans (congrArg some (by kernel_rfl))
 f284:=Tryz.func177.trans (congrArg some (by kernel_rfl))
 f285:=Tryz.func178.trans (congrArg some (by kernel_rfl))
 f286:=Tryz.func179.trans (congrArg some (by kernel_rfl))
 f287:=Tryz.func270.trans (congrArg some (by kernel_rfl))
 f316:=Tryz.func271.trans (congrArg some (by kernel_rfl))
 f317:=Tryz.func214.trans (congrArg some (by kernel_rfl))
 f318:=Tryz.func216.trans (congrArg some (by kernel_rfl))
 f319:=Tryz.func217.trans (congrArg some (by kernel_rfl))
 f320:=Tryz.func218.trans (congrArg some (by kernel_rfl))
 f321:=Tryz.func278.trans (congrArg some (by kernel_rfl))
 f322:=Tryz.func279.trans (congrArg some (by kernel_rfl))
 f337:=Tryz.func246.trans (congrArg some (by kernel_rfl))
 f338:=Tryz.func247.trans (congrArg some (by kernel_rfl))
 t0:=Tryz.underlying0
 a0:=Tryz.isAgg0
 z0:=Tryz.sizeOf0
 v0:=Tryz.zeroValue0
 t2:=Tryz.underlying2
 a2:=Tryz.isAgg2
 z2:=Tryz.sizeOf2
 v2:=Tryz.zeroValue2
 t3:=Tryz.underlying3
 a3:=Tryz.isAgg3
 z3:=Tryz.sizeOf3
 v3:=Tryz.zeroValue3
 t4:=Tryz.underlying4
 a4:=Tryz.isAgg4
 z4:=Tryz.sizeOf4
 v4:=Tryz.zeroValue4
 t5:=Tryz.underlying5
 a5:=Tryz.isAgg5
 z5:=Tryz.sizeOf5
 v5:=Tryz.zeroValue5
 t9:=Tryz.underlying9
 a9:=Tryz.isAgg9
 z9:=Tryz.sizeOf9
 v9:=Tryz.zeroValue9
 t20:=Tryz.underlying20
 a20:=Tryz.isAgg20
 z20:=Tryz.sizeOf20
 v20:=Tryz.zeroValue20
 t21:=Tryz.underlying21
 a21:=Tryz.isAgg21
 z21:=Tryz.sizeOf21
 v21:=Tryz.zeroValue21
 t37:=Tryz.underlying37
 a37:=Tryz.isAgg37
 z37:=Tryz.sizeOf37
 v37:=Tryz.zeroValue37
 t46:=Tryz.underlying163
 a46:=Tryz.isAgg163
 z46:=Tryz.sizeOf163
 v46:=Tryz.zeroValue163
 t51:=Tryz.underlying206
 a51:=Tryz.isAgg206
 z51:=Tryz.sizeOf206
 v51:=Tryz.zeroValue206
 t53:=Tryz.underlying181
 a53:=Tryz.isAgg181
 z53:=Tryz.sizeOf181
 v53:=Tryz.zeroValue181
 t75:=Tryz.underlying85
 a75:=Tryz.isAgg85
 z75:=Tryz.sizeOf85
 v75:=Tryz.zeroValue85
 t76:=Tryz.underlying87
 a76:=Tryz.isAgg87
 z76:=Tryz.sizeOf87
 v76:=Tryz.zeroValue87
 t85:=Tryz.underlying241
 a85:=Tryz.isAgg241
 z85:=Tryz.sizeOf241
 v85:=Tryz.zeroValue241
 t127:=Tryz.underlying131
 a127:=Tryz.isAgg131
 z127:=Tryz.sizeOf131
 v127:=Tryz.zeroValue131
 t143:=Tryz.underlying270
 a143:=Tryz.isAgg270
 z143:=Tryz.sizeOf270
 v143:=Tryz.zeroValue270
 t145:=Tryz.underlying272
 a145:=Tryz.isAgg272
 z145:=Tryz.sizeOf272
 v145:=Tryz.zeroValue272
 t167:=Tryz.underlying240
 a167:=Tryz.isAgg240
 z167:=Tryz.sizeOf240
 v167:=Tryz.zeroValue240
 t168:=Tryz.underlying243
 a168:=Tryz.isAgg243
 z168:=Tryz.sizeOf243
 v168:=Tryz.zeroValue243
 t171:=Tryz.underlying180
 a171:=Tryz.isAgg180
 z171:=Tryz.sizeOf180
 v171:=Tryz.zeroValue180
 t173:=Tryz.underlying184
 a173:=Tryz.isAgg184
 z173:=Tryz.sizeOf184
 v173:=Tryz.zeroValue184
 t175:=Tryz.underlying258
 a175:=Tryz.isAgg258
 z175:=Tryz.sizeOf258
 v175:=Tryz.zeroValue258
 t210:=Tryz.underlying261
 a210:=Tryz.isAgg261
 z210:=Tryz.sizeOf261
 v210:=Tryz.zeroValue261
 t212:=Tryz.underlying219
 a212:=Tryz.isAgg219
 z212:=Tryz.sizeOf219
 v212:=Tryz.zeroValue219
 t213:=Tryz.underlying220
 a213:=Tryz.isAgg220
 z213:=Tryz.sizeOf220
 t232:=Tryz.underlying256
 a232:=Tryz.isAgg256
 z232:=Tryz.sizeOf256
 v232:=Tryz.zeroValue256
 t233:=Tryz.underlying257
 a233:=Tryz.isAgg257
 z233:=Tryz.sizeOf257
 v233:=Tryz.zeroValue257
 g15:=by kernel_rfl
 g16:=by kernel_rfl
 g17:=by kernel_rfl
 g18:=by kernel_rfl
 g19:=by kernel_rfl
 t80:=Tryz.underlying90
 a80:=Tryz.isAgg90
 z80:=Tryz.sizeOf90
 v80:=Tryz.zeroValue90
 i0:=by kernel_rfl
 i2:=by kernel_rfl
 i3:=by kernel_rfl
 i4:=by kernel_rfl
 i5:=by kernel_rfl
 i9:=by kernel_rfl
 i20:=by kernel_rfl
 i21:=by kernel_rfl
 i37:=by kernel_rfl
 i46:=by kernel_rfl
 i51:=by kernel_rfl
 i53:=by kernel_rfl
 i75:=by kernel_rfl
 i76:=by kernel_rfl
 i80:=by kernel_rfl
 i85:=by kernel_rfl
 i127:=by kernel_rfl
 i143:=by kernel_rfl
 i145:=by kernel_rfl
 i167:=by kernel_rfl
 i168:=by kernel_rfl
 i171:=by kernel_rfl
 i173:=by kernel_rfl
 i175:=by kernel_rfl
 i210:=by kernel_rfl
 i212:=by kernel_rfl
 i232:=by kernel_rfl
 i233:=by kernel_rfl
 m15:=by kernel_rfl
 m16:=by kernel_rfl
 m17:=by kernel_rfl
 m18:=by kernel_rfl
 m19:=by kernel_rfl
 c0:=by kernel_rfl
 c2:=by kernel_rfl
 c3:=by kernel_rfl
 c4:=by kernel_rfl
 c5:=by kernel_rfl
 c9:=by kernel_rfl
 c20:=by kernel_rfl
 c21:=by kernel_rfl
 c37:=by kernel_rfl
 c46:=by kernel_rfl
 c51:=by kernel_rfl
 c53:=by kernel_rfl
 c75:=by kernel_rfl
 c76:=by kernel_rfl
 c80:=by kernel_rfl
 c85:=by kernel_rfl
 c127:=by kernel_rfl
 c143:=by kernel_rfl
 c145:=by kernel_rfl
 c167:=by kernel_rfl
 c168:=by kernel_rfl
 c171:=by kernel_rfl
 c173:=by kernel_rfl
 c175:=by kernel_rfl
 c210:=by kernel_rfl
 c212:=by kernel_rfl
 c213:=by kernel_rfl
 c232:=by kernel_rfl
 c233:=by kernel_rfl }
open Go.RowKit in
theorem Tryz.strconv_Atoi_err (s:ByteArray)(hl:s.size<=18)(h:Lib.atoi s.data.toList=none)(ev:Value)(w:World)(hv:w.cell? ⟨6,0,none⟩=some ev)(hev:ev = .nilIface\/∃ te pe,ev = .iface te pe) :
  Calls Tryz.prog 185 #[.string s] w fun e w'=>∃ N,e = .returned (.tuple #[.int .i64 0,.iface 243 (.pointer (some ⟨N,0,none⟩))])/\w.heap.size<=N/\w'.heap[N]? = some (.cells #[.string ⟨#[65,116,111,105]⟩,.string s,ev] 261 (0,0))/\Below w.heap.size w w':=Any.strconv_Atoi_err Tryz.laysC172 s hl h ev w hv hev
