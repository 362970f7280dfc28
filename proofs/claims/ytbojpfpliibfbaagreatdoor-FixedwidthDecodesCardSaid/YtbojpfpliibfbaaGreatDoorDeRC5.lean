/- A part of the proof. -/
import Derived.Test.YtbojpfpliibfbaaGreatDoorDeRD2
set_option maxRecDepth 100000
set_option linter.unusedVariables false
set_option linter.unusedSimpArgs false
namespace Go.Proofs.YtbojpfpliibfbaaGreatDoor
open Go Go.Ab
open Nat renaming reduceEqDiff->qa,reduceAdd->qb,reduceMul->qc,reduceLeDiff->qd,reduceLT->qe,reduceBEq->qf,reduceSub->qg
open Int renaming reduceToNat->qh,reduceNeg->qi
attribute [local irreducible] vc
theorem Ks {y:Int}(h1:1<=y)(h2:y<=9999):ak Tryz.prog ap 243 [.int .i64 y] (.bool (f7 y)):=by
 have e4:=fI (a:=y) (b:=4) (by omega)
 have e100:=fI (a:=y) (b:=100) (by omega)
 have e400:=fI (a:=y) (b:=400) (by omega)
 refine ak.intro Mc.2 (by simp[Mc]) ?_
 unfold f7
 by_cases a:y % 4=0
 ·by_cases b:y % 100=0
  ·by_cases c:y % 400=0
   ·simp only[a,b,c,decide_true,Bool.not_true,Bool.or_true,Bool.and_true]
    simp(disch:=try exact dI) only[Mc,e4,e100,e400,a,b,c,push_cast,↓reduceIte,qa,qb,qc,qd,qe,qf,qg,qh,qi]
   ·simp only[a,b,c,decide_true,decide_false,Bool.not_true,Bool.or_false,Bool.and_false]
    simp(disch:=try exact dI) only[Mc,e4,e100,e400,a,b,c,push_cast,↓reduceIte,qa,qb,qc,qd,qe,qf,qg,qh,qi]
  ·simp only[a,b,decide_true,decide_false,Bool.not_false,Bool.true_or,Bool.and_true]
   simp(disch:=try exact dI) only[Mc,e4,e100,e400,a,b,push_cast,↓reduceIte,qa,qb,qc,qd,qe,qf,qg,qh,qi]
 ·have c:¬ y % 400=0:=by omega
  simp only[a,decide_false,Bool.false_and]
  simp(disch:=try exact dI) only[Mc,e4,e100,e400,a,c,push_cast,↓reduceIte,qa,qb,qc,qd,qe,qf,qg,qh,qi]
theorem N7 (m:Nat)(h1:1<=m)(h2:m<=12):dD 1 [.int .i64 31,.int .i64 28,.int .i64 31,.int .i64 30,.int .i64 31,.int .i64 30,.int .i64 31,.int .i64 31,.int .i64 30,.int .i64 31,.int .i64 30,.int .i64 31] ((m:Int) - 1)=cK 1 [.int .i64 31,.int .i64 28,.int .i64 31,.int .i64 30,.int .i64 31,.int .i64 30,.int .i64 31,.int .i64 31,.int .i64 30,.int .i64 31,.int .i64 30,.int .i64 31] (m - 1) (some (.int .i64 (IX m))):=by
 rw[Aa _ _ (by omega),show ((m:Int) - 1).toNat=m - 1 by omega]
 have h12:m=1\/m=2\/m=3\/m=4\/m=5\/m=6\/m=7\/m=8\/m=9\/m=10\/m=11\/m=12:=by omega
 rcases h12 with rfl | rfl | rfl | rfl | rfl | rfl | rfl | rfl | rfl | rfl | rfl | rfl<;>rfl
theorem KY (m:Nat)(h1:1<=m)(h2:m<=12):([.int .i64 31,.int .i64 28,.int .i64 31,.int .i64 30,.int .i64 31,.int .i64 30,.int .i64 31,.int .i64 31,.int .i64 30,.int .i64 31,.int .i64 30,.int .i64 31]:List PV)[m - 1]? = some (.int .i64 (IX m)):=by
 have h12:m=1\/m=2\/m=3\/m=4\/m=5\/m=6\/m=7\/m=8\/m=9\/m=10\/m=11\/m=12:=by omega
 rcases h12 with rfl | rfl | rfl | rfl | rfl | rfl | rfl | rfl | rfl | rfl | rfl | rfl<;>rfl
theorem np {y:Int}(h1:1<=y)(h2:y<=9999)(m:Nat)(h3:1<=m)(h4:m<=12):ak Tryz.prog ap 201 [.int .i64 y,.int .i64 (m:Int)] (.int .i64 (mdI y m)):=by
 have hl:=Ks h1 h2
 refine ak.intro DL.2 (by simp[DL]) ?_
 by_cases h:m=2
 ·subst h
  cases hb:f7 y with
  | true=>
    rw[hb] at hl
    rw[show mdI y ((2:Nat):Int)=29 by simp[mdI,hb]]
    simp(disch:=try exact dI) only[DL,push_cast,↓reduceIte,qa,qb,qc,qd,qe,qf,qg,qh,qi]
    refine ab.pure hl rfl ?_
    simp(disch:=try exact dI) only[push_cast,↓reduceIte,qa,qb,qc,qd,qe,qf,qg,qh,qi]
  | false=>
    rw[hb] at hl
    rw[tK y 2 (by simp[hb])]
    rw[show IX 2=28 from rfl]
    have hx2:dD 1 [.int .i64 31,.int .i64 28,.int .i64 31,.int .i64 30,.int .i64 31,.int .i64 30,.int .i64 31,.int .i64 31,.int .i64 30,.int .i64 31,.int .i64 30,.int .i64 31] (2 - 1)=cK 1 [.int .i64 31,.int .i64 28,.int .i64 31,.int .i64 30,.int .i64 31,.int .i64 30,.int .i64 31,.int .i64 31,.int .i64 30,.int .i64 31,.int .i64 30,.int .i64 31] 1 (some (.int .i64 28)):=rfl
    simp(disch:=try exact dI) only[DL,push_cast,↓reduceIte,qa,qb,qc,qd,qe,qf,qg,qh,qi]
    refine ab.pure hl rfl ?_
    simp(disch:=try exact dI) only[hx2,push_cast,↓reduceIte,qa,qb,qc,qd,qe,qf,qg,qh,qi]
 ·rw[tK y m (by simp[h])]
  simp(disch:=try exact dI) only[DL,N7 m h3 h4,KY m h3 h4,push_cast,↓reduceIte,qa,qb,qc,qd,qe,qf,qg,qh,qi]
theorem wz {y m:Int}(h:¬ (1<=y/\y<=9999/\1<=m/\m<=12)):ak Tryz.prog ap 201 [.int .i64 y,.int .i64 m] (.int .i64 0):=by
 refine ak.intro DL.2 (by simp[DL]) ?_
 by_cases h1:y<1
 ·simp(disch:=try exact dI) only[DL,push_cast,↓reduceIte,qa,qb,qc,qd,qe,qf,qg,qh,qi]
 by_cases h2:9999<y
 ·simp(disch:=try exact dI) only[DL,push_cast,↓reduceIte,qa,qb,qc,qd,qe,qf,qg,qh,qi]
 by_cases h3:m<1
 ·simp(disch:=try exact dI) only[DL,push_cast,↓reduceIte,qa,qb,qc,qd,qe,qf,qg,qh,qi]
 ·have h4:12<m:=by omega
  simp(disch:=try exact dI) only[DL,push_cast,↓reduceIte,qa,qb,qc,qd,qe,qf,qg,qh,qi]
theorem JC {y:Int}{m:Nat}{d:Int}(h:DateOk y m d):ak Tryz.prog ap 176 [.int .i64 y,.int .i64 (m:Int),.int .i64 d] (.tup [.int .i64 (up y m d - 719162),.bool true]):=by
 have hm:=np h.y1 h.y2 m h.m1 h.m2
 have hbb:=g9 h.y1 (by have:=h.y2;omega)
 have hmd:=eX y m
 have hy1:=h.y1
 have hy2:=h.y2
 have hm2:=h.m2
 have hd1:=h.d1
 have hd2:=h.d2
 have hdr:=gZ h
 have hdn:up y m d=jG y+fU y (m - 1)+d - 1:=rfl
 have e4:=gv (a:=y - 1) (b:=4) (by omega)
 have e100:=gv (a:=y - 1) (b:=100) (by omega)
 have e400:=gv (a:=y - 1) (b:=400) (by omega)
 have hbf:365*(y - 1)+(y - 1) / 4 - (y - 1) / 100+(y - 1) / 400=jG y:=rfl
 have z:fU y 0=0:=rfl
 refine ak.intro Iv.2 (by simp[Iv]) ?_
 simp(disch:=try exact dI) only[Iv,push_cast,↓reduceIte,qa,qb,qc,qd,qe,qf,qg,qh,qi]
 refine ab.pure hm rfl ?_
 simp(disch:=try exact dI) only[e4,e100,e400,push_cast,↓reduceIte,qa,qb,qc,qd,qe,qf,qg,qh,qi]
 refine am ([]) (fun k:Nat=>[(6,.pv (.int .i64 (jG y+fU y k))),(9,.pv (.int .i64 ((k:Int)+1)))]) (fun _=>[]) (fun k=>k<=m - 1) (fun k=>m - 1 - k) (0) ?_;intro e0 σ0 n0 h0;simp(disch:=try exact dI) only[push_cast,↓reduceIte,qa,qb,qc,qd,qe,qf,qg,qh,qi] at h0;obtain⟨rfl,rfl,rfl⟩:=h0;refine⟨?_,?_,?_⟩
 ·simp(disch:=try exact dI) only[hbf,z,Int.zero_add,Int.add_zero,push_cast,↓reduceIte,qa,qb,qc,qd,qe,qf,qg,qh,qi]
 ·omega
 intro k hk
 have hs0:=d9 y k 0
 simp only[Nat.zero_add] at hs0
 have hsm:=d9 y (m - 1 - k) k
 rw[show k+(m - 1 - k)=m - 1 by omega] at hsm
 by_cases hlt:k<m - 1
 ·have hmk:=np hy1 hy2 (k+1) (by omega) (by omega)
  have hmdk:=eX y ((k+1:Nat):Int)
  have hsk:fU y (k+1)=fU y k+mdI y ((k+1:Nat):Int):=rfl
  rw[show ((k+1:Nat):Int)=(k:Int)+1 by omega] at hmk hmdk hsk
  have hs2:jG y+fU y (k+1)=jG y+fU y k+mdI y ((k:Int)+1):=by omega
  simp(disch:=try exact dI) only[push_cast,↓reduceIte,qa,qb,qc,qd,qe,qf,qg,qh,qi]
  refine ab.pure hmk rfl ?_
  simp(disch:=try exact dI) only[push_cast,↓reduceIte,qa,qb,qc,qd,qe,qf,qg,qh,qi]
  exact⟨k+1,aI (by simp(disch:=try exact dI) only[hs2,push_cast,↓reduceIte,qa,qb,qc,qd,qe,qf,qg,qh,qi]),by omega,by omega⟩
 ·have:k=m - 1:=by omega
  subst this
  have hfin:jG y+fU y (m - 1)+d - 1 + -719162=up y m d - 719162:=by omega
  simp(disch:=try exact dI) only[hfin,push_cast,↓reduceIte,qa,qb,qc,qd,qe,qf,qg,qh,qi]
theorem JD {y m d:Int}(h:∀ k:Nat,m=k->¬ DateOk y k d):ak Tryz.prog ap 176 [.int .i64 y,.int .i64 m,.int .i64 d] (.tup [.int .i64 0,.bool false]):=by
 refine ak.intro Iv.2 (by simp[Iv]) ?_
 by_cases hd:d<1
 ·simp(disch:=try exact dI) only[Iv,push_cast,↓reduceIte,qa,qb,qc,qd,qe,qf,qg,qh,qi]
 ·by_cases hm:1<=y/\y<=9999/\1<=m/\m<=12
  ·obtain⟨k,rfl⟩:∃ k:Nat,m=k:=⟨m.toNat,by omega⟩
   have hmt:=np hm.1 hm.2.1 k (by omega) (by omega)
   have hgt:mdI y k<d:=by
    by_cases hle:d<=mdI y k
    ·exact absurd ⟨hm.1,hm.2.1,by omega,by omega,by omega,hle⟩ (h k rfl)
    ·omega
   simp(disch:=try exact dI) only[Iv,push_cast,↓reduceIte,qa,qb,qc,qd,qe,qf,qg,qh,qi]
   refine ab.pure hmt rfl ?_
   simp(disch:=try exact dI) only[push_cast,↓reduceIte,qa,qb,qc,qd,qe,qf,qg,qh,qi]
  ·have hmf:=wz hm
   simp(disch:=try exact dI) only[Iv,push_cast,↓reduceIte,qa,qb,qc,qd,qe,qf,qg,qh,qi]
   refine ab.pure hmf rfl ?_
   simp(disch:=try exact dI) only[push_cast,↓reduceIte,qa,qb,qc,qd,qe,qf,qg,qh,qi]
def isD (c:UInt8):Bool:=decide (48<=c.toNat)&&decide (c.toNat<=57)
def ff:Int->List UInt8->Int
 | n,[]=>n
 | n,c::r=>ff (10*n+((c.toNat:Int) - 48)) r
theorem jD (c:UInt8):∀ (l:List UInt8) (n:Int),ff n (l++[c])=10*ff n l+((c.toNat:Int) - 48)
 | [],n=>rfl
 | d::l,n=>by simp only[List.cons_append,ff];exact jD c l _
theorem cB {c:UInt8}(h:isD c=true):48<=c.toNat/\c.toNat<=57:=by simpa[isD] using h
theorem de:∀ (l:List UInt8) (n:Int),0<=n->l.all isD=true->0<=ff n l/\ff n l+1<=(n+1)*((10 ^ l.length:Nat):Int)
 | [],n,h0,_=>by simp[ff];omega
 | c::r,n,h0,hd=>by
   simp only[List.all_cons,Bool.and_eq_true] at hd
   have hc:=cB hd.1
   have ih:=de r (10*n+((c.toNat:Int) - 48)) (by omega) hd.2
   refine⟨ih.1,Int.le_trans ih.2 ?_⟩
   rw[List.length_cons,Nat.pow_succ]
   have hp:(0:Int)<=((10 ^ r.length:Nat):Int):=Int.natCast_nonneg _
   have h1:(10*n+((c.toNat:Int) - 48)+1)*((10 ^ r.length:Nat):Int)<=((n+1)*10)*((10 ^ r.length:Nat):Int):=Int.mul_le_mul_of_nonneg_right (by omega) hp
   have h2:((n+1)*10)*((10 ^ r.length:Nat):Int)=(n+1)*((10 ^ r.length*10:Nat):Int):=by
    rw[Int.mul_assoc,Int.natCast_mul,Int.mul_comm (10:Int)];rfl
   exact Int.le_trans h1 (Int.le_of_eq h2)
theorem Ie {l:List UInt8}(h:l.all isD=true)(hl:l.length<=9):0<=ff 0 l/\ff 0 l<=999999999:=by
 have:=de l 0 (by omega) h
 have hp:10 ^ l.length<=10 ^ 9:=Nat.pow_le_pow_right (by omega) hl
 omega
def lG (k:Nat)(s:List UInt8):Option (Int×List UInt8):=if k<=s.length/\(s.take k).all isD=true then some (ff 0 (s.take k),s.drop k) else none
def H0 (s:List UInt8):Option (Int×List UInt8)->PV
 | some p=>.tup [.int .i64 p.1,.str p.2,.bool true]
 | none=>.tup [.int .i64 0,.str s,.bool false]
theorem ox:∀ k:Nat,Lib.repeatL [48] k=List.replicate k 48
 | 0=>rfl
 | k+1=>by rw[Lib.repeatL,ox k];rfl
theorem EM (k:Nat)(h:k<=17):ak Tryz.prog ap 45 [.str [48],.int .i64 (k:Int)] (.str (List.replicate k 48)):=by
 have h1:=ow [48] (k:Int) (by omega) (by omega) (by simp;omega)
 rw[Int.toNat_natCast,ox] at h1;exact h1
def bn:Nat->Nat->List UInt8
 | 0,_=>[]
 | k+1,n=>bn k (n / 10)++[UInt8.ofNat (48+n % 10)]
theorem cS:∀ (k n:Nat),(bn k n).length=k
 | 0,_=>rfl
 | k+1,n=>by simp[bn,cS k]
theorem oY:∀ k:Nat,bn k 0=List.replicate k 48
 | 0=>rfl
 | k+1=>by rw[bn,show 0 / 10=0 from rfl,oY k,List.replicate_succ'];rfl
theorem gi:∀ (k f n:Nat),n<10 ^ f->n<10 ^ (k+1)->0<f->List.replicate (k+1 - (bI f n).length) 48++bI f n=bn (k+1) n
 | k,0,n,_,_,h=>absurd h (by omega)
 | k,f+1,n,hf,hk,_=>by
   rw[bI]
   by_cases h:n<10
   ·rw[if_pos h,bn,show n / 10=0 by omega,oY,show n % 10=n by omega]
    simp
   ·rw[if_neg h]
    cases k with
    | zero=>simp at hk;omega
    | succ k=>
      have hf':n / 10<10 ^ f:=by rw[Nat.pow_succ] at hf;exact Nat.div_lt_of_lt_mul (by rw[Nat.mul_comm];exact hf)
      have hk':n / 10<10 ^ (k+1):=by rw[Nat.pow_succ] at hk;exact Nat.div_lt_of_lt_mul (by rw[Nat.mul_comm];exact hk)
      have h0:0<f:=by
       cases f with
       | zero=>simp at hf;omega
       | succ f=>omega
      have ih:=gi k f (n / 10) hf' hk' h0
      rw[bn,<- ih,List.length_append,List.append_assoc]
      simp
theorem FC:∀ (l:List UInt8),l.all isD=true->bn l.length (ff 0 l).toNat=l:=by
 intro l
 induction hn:l.length generalizing l with
 | zero=>intro _;simp[List.length_eq_zero_iff.1 hn,bn]
 | succ k ih=>
   intro h
   obtain⟨a,c,rfl⟩:∃ a c,l=a++[c]:=by
    refine⟨l.dropLast,l.getLast (by intro e;simp[e] at hn),(List.dropLast_concat_getLast _).symm⟩
   rw[List.all_append,Bool.and_eq_true] at h
   have hc:=cB (c:=c) (by simpa using h.2)
   have h0:=(de a 0 (by omega) h.1).1
   rw[jD,bn]
   have e1:(10*ff 0 a+((c.toNat:Int) - 48)).toNat / 10=(ff 0 a).toNat:=by omega
   have e2:48+(10*ff 0 a+((c.toNat:Int) - 48)).toNat % 10=c.toNat:=by omega
   rw[e1,e2,ih a (by simpa using hn) h.1]
   simp
def MI (y:Int)(m:Nat)(d:Int):List UInt8:=bn 4 y.toNat++[45]++bn 2 m++[45]++bn 2 d.toNat
def MH (t:List UInt8)(h mi s ms:Nat):List UInt8:=t++([84]++bn 2 h++[58]++bn 2 mi++[58]++bn 2 s)++(if ms=0 then [] else [46]++bn 3 ms)++[90]
def IsN (n:Int)(sc:Nat):Prop:=-999999999999999<=n/\n<=999999999999999/\sc<=12
instance (n:Int) (sc:Nat):Decidable (IsN n sc):=by unfold IsN;infer_instance
def dl (a:Nat):Nat:=(bI 20 a).length
theorem Id:∀ (f a:Nat),a<10 ^ f->0<f->1<=(bI f a).length/\a<10 ^ (bI f a).length
 | 0,a,_,h=>absurd h (by omega)
 | f+1,a,hf,_=>by
   rw[bI]
   by_cases h:a<10
   ·rw[if_pos h];simp;omega
   ·rw[if_neg h]
    have hf':a / 10<10 ^ f:=by rw[Nat.pow_succ] at hf;exact Nat.div_lt_of_lt_mul (by rw[Nat.mul_comm];exact hf)
    have h0:0<f:=by
     cases f with
     | zero=>simp at hf;omega
     | succ f=>omega
    have ih:=Id f (a / 10) hf' h0
    rw[List.length_append,List.length_cons,List.length_nil,Nat.pow_succ]
    omega
theorem lc {a:Nat}(h:a<10 ^ 15):1<=dl a/\dl a<=15/\a<10 ^ dl a:=by
 have h20:a<10 ^ 20:=Nat.lt_of_lt_of_le h (Nat.pow_le_pow_right (by omega) (by omega))
 have h1:=Id 20 a h20 (by omega)
 have h2:=congrArg List.length (gi 14 20 a h20 h (by omega))
 rw[List.length_append,List.length_replicate,cS] at h2
 unfold dl
 exact⟨h1.1,by omega,h1.2⟩
theorem CD {a K:Nat}(h:a<10 ^ 15)(hK:dl a<=K):List.replicate (K - dl a) 48++bI 20 a=bn K a:=by
 have h20:a<10 ^ 20:=Nat.lt_of_lt_of_le h (Nat.pow_le_pow_right (by omega) (by omega))
 have hs:=lc h
 obtain⟨k,rfl⟩:∃ k,K=k+1:=⟨K - 1,by omega⟩
 exact gi k 20 a h20 (Nat.lt_of_lt_of_le hs.2.2 (Nat.pow_le_pow_right (by omega) hK)) (by omega)
theorem fq (i:Nat):∀ (j a:Nat),bn (i+j) a=bn i (a / 10 ^ j)++bn j a
 | 0,a=>by simp[bn]
 | j+1,a=>by
   rw[<- Nat.add_assoc,bn,fq i j (a / 10),bn,List.append_assoc,Nat.div_div_eq_div_mul,Nat.pow_succ,Nat.mul_comm 10]
def ew (n:Int)(sc:Nat):List UInt8:=
 (if n<0 then [45] else [])++(bn (max (dl n.natAbs) (sc+1) - sc) (n.natAbs / 10 ^ sc)++(if sc=0 then [] else 46::bn sc n.natAbs))
theorem Ph {n:Int}(h:-9223372036854775808<n)(h2:n<=9223372036854775807):ak Tryz.prog ap 141 [.int .i64 n] (.int .i64 (n.natAbs:Int)):=by
 have e:max n (0 - n)=(n.natAbs:Int):=by omega
 refine ak.intro Sb.2 (by simp[Sb]) ?_
 simp(disch:=try exact dI) only[Sb,e,push_cast,seval]
theorem C2 {n:Int}(h:-9223372036854775808<n)(h2:n<=9223372036854775807)(sc:Nat):ak Tryz.prog ap 140 [.agg [.int .i64 n,.int .i64 (sc:Int)]] (.int .i64 (if IsN n sc then 0 else 2)):=by
 have ha:=Ph h h2
 by_cases h1:(999999999999999:Int)<(n.natAbs:Int)
 ·rw[if_neg (by unfold IsN;omega)]
  refine ak.intro HA.2 (by simp[HA]) ?_
  simp(disch:=try exact dI) only[HA,push_cast,seval]
  refine ab.pure ha rfl ?_
  exact qsZ
 have h2:¬ n < -999999999999999:=by omega
 have h3:¬ (sc:Int)<0:=by omega
 by_cases h4:(12:Int)<(sc:Int)
 ·rw[if_neg (by unfold IsN;omega)]
  refine ak.intro HA.2 (by simp[HA]) ?_
  simp(disch:=try exact dI) only[HA,push_cast,seval]
  refine ab.pure ha rfl ?_
  exact qsZ
 ·rw[if_pos (by unfold IsN;omega)]
  refine ak.intro HA.2 (by simp[HA]) ?_
  simp(disch:=try exact dI) only[HA,push_cast,seval]
  refine ab.pure ha rfl ?_
  exact qsZ
theorem yT {n:Int}(h:-9223372036854775808<n)(h2:n<=9223372036854775807){sc:Nat}(hn:¬ IsN n sc):ak Tryz.prog ap 83 [.agg [.int .i64 n,.int .i64 (sc:Int)]] (.tup [.str [],.int .i64 2]):=by
 have hc:=C2 h h2 sc
 rw[if_neg hn] at hc
 refine ak.intro Q83.2 (by simp[Q83]) ?_
 simp(disch:=try exact dI) only[Q83,push_cast,seval]
 refine ab.pure hc rfl ?_
 exact qsZ
theorem HG {n:Int}{sc:Nat}(hn:IsN n sc):ak Tryz.prog ap 83 [.agg [.int .i64 n,.int .i64 (sc:Int)]] (.tup [.str (ew n sc),.int .i64 0]):=by
 obtain⟨hn1,hn2,hn3⟩:=hn
 have hc:=C2 (n:=n) (by omega) (by omega) sc
 rw[if_pos ⟨hn1,hn2,hn3⟩] at hc
 have ha:=Ph (n:=n) (by omega) (by omega)
 have hi:=BA (n.natAbs:Int) (by omega) (by omega)
 have hlt:n.natAbs<10 ^ 15:=by simp;omega
 have hdl:=lc hlt
 have hL:=CD hlt (K:=max (dl n.natAbs) (sc+1)) (by omega)
 have hL2:=fq (max (dl n.natAbs) (sc+1) - sc) sc n.natAbs
 rw[show max (dl n.natAbs) (sc+1) - sc+sc=max (dl n.natAbs) (sc+1) by omega] at hL2
 have hr:=EM (sc+1 - dl n.natAbs) (by omega)
 rw[show max (dl n.natAbs) (sc+1) - dl n.natAbs=sc+1 - dl n.natAbs by omega] at hL
 have e1:lJ (n.natAbs:Int)=bI 20 n.natAbs:=by unfold lJ;rw[if_neg (by omega),Int.toNat_natCast]
 rw[e1] at hi
 have l1:=cS (max (dl n.natAbs) (sc+1) - sc) (n.natAbs / 10 ^ sc)
 have l2:=cS sc n.natAbs
 have l0:(bI 20 n.natAbs).length=dl n.natAbs:=rfl
 have lZ:(List.replicate (sc+1 - dl n.natAbs) (48:UInt8)).length=sc+1 - dl n.natAbs:=by simp
 unfold ew
 rw[hL2] at hL
 have hm:max (0:Int) ((sc:Int)+1 - ((dl n.natAbs:Nat):Int))=((sc+1 - dl n.natAbs:Nat):Int):=by omega
 rw[<- hm] at hr
 generalize bn (max (dl n.natAbs) (sc+1) - sc) (n.natAbs / 10 ^ sc)=A at *
 generalize bn sc n.natAbs=B at *
 generalize bI 20 n.natAbs=D at *
 generalize dl n.natAbs=k at *
 generalize List.replicate (sc+1 - k) (48:UInt8)=Z at *
 have lA:1<=A.length:=by omega
 clear hL2 e1 hlt
 by_cases hs:sc=0
 ·subst hs
  rw[if_pos rfl,List.append_nil]
  have hB:B=[]:=List.length_eq_zero_iff.1 l2
  have hDA:D=A:=by
   have hz:Z=[]:=by
    have:=congrArg List.length hL
    simp only[List.length_append] at this
    exact List.length_eq_zero_iff.1 (by omega)
   rw[hz,hB] at hL
   simpa using hL
  subst hDA
  by_cases hneg:n<0
  ·rw[if_pos hneg]
   refine ak.intro Q83.2 (by simp[Q83]) ?_
   simp(disch:=try exact dI) only[Q83,push_cast,seval]
   refine ab.pure hc rfl ?_
   refine zgZ ?_
   refine ab.pure ha rfl ?_
   refine zgZ ?_
   refine ab.pure hi rfl ?_
   exact qsZ
  ·rw[if_neg hneg]
   refine ak.intro Q83.2 (by simp[Q83]) ?_
   simp(disch:=try exact dI) only[Q83,push_cast,seval]
   refine ab.pure hc rfl ?_
   refine zgZ ?_
   refine ab.pure ha rfl ?_
   refine zgZ ?_
   refine ab.pure hi rfl ?_
   exact qsZ
 ·rw[if_neg hs]
  have hsI:(0:Int)<(sc:Int):=by omega
  have el:((A.length:Int)+(B.length:Int)) - (sc:Int)=(A.length:Int):=by omega
  have et:(((A++B).length:Int) - (sc:Int)).toNat=A.length:=by rw[List.length_append];omega
  have t1:(A++B).take A.length=A:=by simp
  have t2:(A++B).drop A.length=B:=by simp
  by_cases hneg:n<0
  ·rw[if_pos hneg]
   refine ak.intro Q83.2 (by simp[Q83]) ?_
   simp(disch:=try exact dI) only[Q83,push_cast,seval]
   refine ab.pure hc rfl ?_
   refine zgZ ?_
   refine ab.pure ha rfl ?_
   refine zgZ ?_
   refine ab.pure hi rfl ?_
   simp(disch:=try exact dI) only[l0,push_cast,seval]
   refine ab.pure hr rfl ?_
   simp(disch:=try exact dI) only[hL,el,t1,t2,push_cast,seval]
   rw[et,List.take_length,t1,t2]
  ·rw[if_neg hneg]
   refine ak.intro Q83.2 (by simp[Q83]) ?_
   simp(disch:=try exact dI) only[Q83,push_cast,seval]
   refine ab.pure hc rfl ?_
   refine zgZ ?_
   refine ab.pure ha rfl ?_
   refine zgZ ?_
   refine ab.pure hi rfl ?_
   simp(disch:=try exact dI) only[l0,push_cast,seval]
   refine ab.pure hr rfl ?_
   simp(disch:=try exact dI) only[hL,el,t1,t2,push_cast,seval]
   rw[et,List.take_length,t1,t2]
end Go.Proofs.YtbojpfpliibfbaaGreatDoor
