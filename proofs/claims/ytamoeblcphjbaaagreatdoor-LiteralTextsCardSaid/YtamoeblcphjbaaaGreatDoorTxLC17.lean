/- A part of the proof for LiteralTextsCardSaid. -/
import Derived.Test.YtamoeblcphjbaaaGreatDoorTxLC2
import Derived.Test.YtamoeblcphjbaaaGreatDoorTxL3
import Derived.Test.YtamoeblcphjbaaaGreatDoorTxF
import Derived.Test.YtamoeblcphjbaaaGreatDoorTxLD2
import Derived.Test.YtamoeblcphjbaaaGreatDoorTxLSh
set_option maxRecDepth 100000
set_option linter.unusedVariables false
set_option linter.unusedSimpArgs false
-- many steps
namespace Go.Proofs.YtamoeblcphjbaaaGreatDoor
open Go Go.Ab
attribute [local irreducible] vc
def IsN (n:Int)(sc:Nat):Prop:=-999999999999999≤n∧n≤999999999999999∧sc≤12
instance (n:Int) (sc:Nat):Decidable (IsN n sc):=by unfold IsN;infer_instance
def dl (a:Nat):Nat:=(aP 20 a).length
theorem BU:∀ (f a:Nat),a<10 ^ f→0<f→1≤(aP f a).length∧a<10 ^ (aP f a).length
 | 0,a,_,h=>absurd h (by omega)
 | f+1,a,hf,_=>by
   rw[aP]
   by_cases h:a<10
   ·rw[if_pos h];simp;omega
   ·rw[if_neg h]
    have hf':a / 10<10 ^ f:=by rw[Nat.pow_succ] at hf;exact Nat.div_lt_of_lt_mul (by rw[Nat.mul_comm];exact hf)
    have h0:0<f:=by
     cases f with
     | zero=>simp at hf;omega
     | succ f=>omega
    have ih:=BU f (a / 10) hf' h0
    rw[List.length_append,List.length_cons,List.length_nil,Nat.pow_succ]
    omega
theorem mR {a:Nat}(h:a<10 ^ 15):1≤dl a∧dl a≤15∧a<10 ^ dl a:=by
 have h20:a<10 ^ 20:=Nat.lt_of_lt_of_le h (Nat.pow_le_pow_right (by omega) (by omega))
 have h1:=BU 20 a h20 (by omega)
 have h2:=congrArg List.length (cN 14 20 a h20 h (by omega))
 rw[List.length_append,List.length_replicate,aT] at h2
 unfold dl
 exact⟨h1.1,by omega,h1.2⟩
theorem vV {a K:Nat}(h:a<10 ^ 15)(hK:dl a≤K):List.replicate (K - dl a) 48++aP 20 a=cY K a:=by
 have h20:a<10 ^ 20:=Nat.lt_of_lt_of_le h (Nat.pow_le_pow_right (by omega) (by omega))
 have hs:=mR h
 obtain⟨k,rfl⟩:∃ k,K=k+1:=⟨K - 1,by omega⟩
 exact cN k 20 a h20 (Nat.lt_of_lt_of_le hs.2.2 (Nat.pow_le_pow_right (by omega) hK)) (by omega)
theorem gZ (i:Nat):∀ (j a:Nat),cY (i+j) a=cY i (a / 10 ^ j)++cY j a
 | 0,a=>by simp[cY]
 | j+1,a=>by
   rw[← Nat.add_assoc,cY,gZ i j (a / 10),cY,List.append_assoc,Nat.div_div_eq_div_mul,Nat.pow_succ,Nat.mul_comm 10]
def vW (n:Int)(sc:Nat):List UInt8:=
 (if n<0 then [45] else [])++(cY (max (dl n.natAbs) (sc+1) - sc) (n.natAbs / 10 ^ sc)++(if sc=0 then [] else 46::cY sc n.natAbs))
theorem G1 {n:Int}(h:-9223372036854775808<n)(h2:n≤9223372036854775807):aw Tryz.prog aD 87 [.int .i64 n] (.int .i64 (n.natAbs:Int)):=by
 have e:max n (0 - n)=(n.natAbs:Int):=by omega
 refine aw.intro G8 (by simp[F87]) ?_
 simp(maxSteps:=9^7) (disch:=first|exact dI|fail) only[F87,e,push_cast,seval]
theorem Em {n:Int}(h:-9223372036854775808<n)(h2:n≤9223372036854775807)(sc:Nat):aw Tryz.prog aD 86 [.agg [.int .i64 n,.int .i64 (sc:Int)]] (.int .i64 (if IsN n sc then 0 else 2)):=by
 have ha:=G1 h h2
 by_cases h1:(999999999999999:Int)<(n.natAbs:Int)
 ·rw[if_neg (by unfold IsN;omega)]
  refine aw.intro wN (by simp[F86]) ?_
  simp(maxSteps:=9^7) (disch:=first|exact dI|fail) only[F86,push_cast,seval]
  refine ae.pure ha rfl ?_
  simp(maxSteps:=9^7) (disch:=first|exact dI|fail) only[push_cast,seval]
 have h2:¬ n < -999999999999999:=by omega
 have h3:¬ (sc:Int)<0:=by omega
 by_cases h4:(12:Int)<(sc:Int)
 ·rw[if_neg (by unfold IsN;omega)]
  refine aw.intro wN (by simp[F86]) ?_
  simp(maxSteps:=9^7) (disch:=first|exact dI|fail) only[F86,push_cast,seval]
  refine ae.pure ha rfl ?_
  simp(maxSteps:=9^7) (disch:=first|exact dI|fail) only[push_cast,seval]
 ·rw[if_pos (by unfold IsN;omega)]
  refine aw.intro wN (by simp[F86]) ?_
  simp(maxSteps:=9^7) (disch:=first|exact dI|fail) only[F86,push_cast,seval]
  refine ae.pure ha rfl ?_
  simp(maxSteps:=9^7) (disch:=first|exact dI|fail) only[push_cast,seval]
theorem Bl {n:Int}{sc:Nat}(hn:IsN n sc):aw Tryz.prog aD 42 [.agg [.int .i64 n,.int .i64 (sc:Int)]] (.tup [.str (vW n sc),.int .i64 0]):=by
 obtain⟨hn1,hn2,hn3⟩:=hn
 have hc:=Em (n:=n) (by omega) (by omega) sc
 rw[if_pos ⟨hn1,hn2,hn3⟩] at hc
 have ha:=G1 (n:=n) (by omega) (by omega)
 have hi:=iQ (n.natAbs:Int) (by omega) (by omega)
 have hlt:n.natAbs<10 ^ 15:=by simp;omega
 have hdl:=mR hlt
 have hL:=vV hlt (K:=max (dl n.natAbs) (sc+1)) (by omega)
 have hL2:=gZ (max (dl n.natAbs) (sc+1) - sc) sc n.natAbs
 rw[show max (dl n.natAbs) (sc+1) - sc+sc=max (dl n.natAbs) (sc+1) by omega] at hL2
 have hr:=nx (sc+1 - dl n.natAbs) (by omega)
 rw[show max (dl n.natAbs) (sc+1) - dl n.natAbs=sc+1 - dl n.natAbs by omega] at hL
 have e1:bW (n.natAbs:Int)=aP 20 n.natAbs:=by unfold bW;rw[if_neg (by omega),Int.toNat_natCast]
 rw[e1] at hi
 have l1:=aT (max (dl n.natAbs) (sc+1) - sc) (n.natAbs / 10 ^ sc)
 have l2:=aT sc n.natAbs
 have l0:(aP 20 n.natAbs).length=dl n.natAbs:=rfl
 have lZ:(List.replicate (sc+1 - dl n.natAbs) (48:UInt8)).length=sc+1 - dl n.natAbs:=by simp
 unfold vW
 rw[hL2] at hL
 have hm:max (0:Int) ((sc:Int)+1 - ((dl n.natAbs:Nat):Int))=((sc+1 - dl n.natAbs:Nat):Int):=by omega
 rw[← hm] at hr
 generalize cY (max (dl n.natAbs) (sc+1) - sc) (n.natAbs / 10 ^ sc)=A at *
 generalize cY sc n.natAbs=B at *
 generalize aP 20 n.natAbs=D at *
 generalize dl n.natAbs=k at *
 generalize List.replicate (sc+1 - k) (48:UInt8)=Z at *
 have lA:1≤A.length:=by omega
 clear hL2 e1 hlt
 by_cases hs:sc=0
 ·subst hs
  rw[if_pos rfl,List.append_nil]
  have hB:B=[]:=List.length_eq_zero_iff.1 l2
  have hDA:D=A:=by
   have hz:Z=[]:=by
    have:=congrArg List.length hL
    simp only[List.length_append] at this
    exact List.length_eq_zero_iff.1 (by omega)
   rw[hz,hB] at hL
   simpa using hL
  subst hDA
  by_cases hneg:n<0
  ·rw[if_pos hneg]
   refine aw.intro ol (by simp[F42]) ?_
   simp(maxSteps:=9^7) (disch:=first|exact dI|fail) only[F42,push_cast,seval]
   refine ae.pure hc rfl ?_
   simp(maxSteps:=9^7) (disch:=first|exact dI|fail) only[push_cast,seval]
   refine ae.pure ha rfl ?_
   simp(maxSteps:=9^7) (disch:=first|exact dI|fail) only[push_cast,seval]
   refine ae.pure hi rfl ?_
   simp(maxSteps:=9^7) (disch:=first|exact dI|fail) only[push_cast,seval]
  ·rw[if_neg hneg]
   refine aw.intro ol (by simp[F42]) ?_
   simp(maxSteps:=9^7) (disch:=first|exact dI|fail) only[F42,push_cast,seval]
   refine ae.pure hc rfl ?_
   simp(maxSteps:=9^7) (disch:=first|exact dI|fail) only[push_cast,seval]
   refine ae.pure ha rfl ?_
   simp(maxSteps:=9^7) (disch:=first|exact dI|fail) only[push_cast,seval]
   refine ae.pure hi rfl ?_
   simp(maxSteps:=9^7) (disch:=first|exact dI|fail) only[push_cast,seval]
 ·rw[if_neg hs]
  have hsI:(0:Int)<(sc:Int):=by omega
  have el:((A.length:Int)+(B.length:Int)) - (sc:Int)=(A.length:Int):=by omega
  have et:(((A++B).length:Int) - (sc:Int)).toNat=A.length:=by rw[List.length_append];omega
  have t1:(A++B).take A.length=A:=by simp
  have t2:(A++B).drop A.length=B:=by simp
  by_cases hneg:n<0
  ·rw[if_pos hneg]
   refine aw.intro ol (by simp[F42]) ?_
   simp(maxSteps:=9^7) (disch:=first|exact dI|fail) only[F42,push_cast,seval]
   refine ae.pure hc rfl ?_
   simp(maxSteps:=9^7) (disch:=first|exact dI|fail) only[push_cast,seval]
   refine ae.pure ha rfl ?_
   simp(maxSteps:=9^7) (disch:=first|exact dI|fail) only[push_cast,seval]
   refine ae.pure hi rfl ?_
   simp(maxSteps:=9^7) (disch:=first|exact dI|fail) only[l0,push_cast,seval]
   refine ae.pure hr rfl ?_
   simp(maxSteps:=9^7) (disch:=first|exact dI|fail) only[hL,el,t1,t2,push_cast,seval]
   rw[et,List.take_length,t1,t2]
  ·rw[if_neg hneg]
   refine aw.intro ol (by simp[F42]) ?_
   simp(maxSteps:=9^7) (disch:=first|exact dI|fail) only[F42,push_cast,seval]
   refine ae.pure hc rfl ?_
   simp(maxSteps:=9^7) (disch:=first|exact dI|fail) only[push_cast,seval]
   refine ae.pure ha rfl ?_
   simp(maxSteps:=9^7) (disch:=first|exact dI|fail) only[push_cast,seval]
   refine ae.pure hi rfl ?_
   simp(maxSteps:=9^7) (disch:=first|exact dI|fail) only[l0,push_cast,seval]
   refine ae.pure hr rfl ?_
   simp(maxSteps:=9^7) (disch:=first|exact dI|fail) only[hL,el,t1,t2,push_cast,seval]
   rw[et,List.take_length,t1,t2]
end Go.Proofs.YtamoeblcphjbaaaGreatDoor
set_option maxRecDepth 100000
set_option linter.unusedVariables false
set_option linter.unusedSimpArgs false
-- many steps
namespace Go.Proofs.YtamoeblcphjbaaaGreatDoor
open Go Go.Ab
attribute [local irreducible] vc
theorem kC (f g n:Nat)(hf:0<f)(hg:0<g)(h1:n<10 ^ f)(h2:n<10 ^ g):aP f n=aP g n:=by
 rw[dm f n h1 hf,dm g n h2 hg]
theorem gv:∀ (f n:Nat),0<f→n<10 ^ f→(aP f n).length≤f
 | 0,_,h,_=>absurd h (by omega)
 | f+1,n,_,hn=>by
   rw[aP]
   by_cases h:n<10
   ·rw[if_pos h];simp
   ·rw[if_neg h,List.length_append]
    have hf':n / 10<10 ^ f:=by rw[Nat.pow_succ] at hn;exact Nat.div_lt_of_lt_mul (by rw[Nat.mul_comm];exact hn)
    have f0:0<f:=by cases f with
     | zero=>simp at hf';omega
     | succ f=>omega
    have:=gv f (n / 10) f0 hf'
    simp;omega
theorem eQ:∀ (f n:Nat),0<f→f≤18→n<10 ^ f→aw Tryz.prog aD 41 [.int .i64 (n:Int)] (.str (aP f n))
 | 0,_,h,_,_=>absurd h (by omega)
 | f+1,n,_,hf,hn=>by
   have hp:10 ^ (f+1)≤10 ^ 18:=Nat.pow_le_pow_right (by omega) hf
   have h0:¬ (n:Int)<0:=by omega
   refine aw.intro B8 (by simp[F41]) ?_
   by_cases h:n<10
   ·have hI:(n:Int)<10:=by omega
    rw[aP,if_pos h]
    have e:UInt8.ofNat (48+(n:Int)).toNat=UInt8.ofNat (48+n):=by congr 1
    simp(maxSteps:=9^7) (disch:=first|exact dI|fail) only[F41,h0,hI,e,push_cast,seval]
   ·have hI:¬ (n:Int)<10:=by omega
    have hf':n / 10<10 ^ f:=by rw[Nat.pow_succ] at hn;exact Nat.div_lt_of_lt_mul (by rw[Nat.mul_comm];exact hn)
    have f0:0<f:=by cases f with
     | zero=>simp at hf';omega
     | succ f=>omega
    have ih:=eQ f (n / 10) f0 (by omega) hf'
    rw[aP,if_neg h]
    have hd:((n:Int) / 10)=((n / 10:Nat):Int):=by omega
    obtain⟨q,hq⟩:∃ q,q=n / 10:=⟨_,rfl⟩
    obtain⟨m,hm⟩:∃ m,m=n % 10:=⟨_,rfl⟩
    have hqI:((n:Int) / 10)=(q:Int):=by omega
    have hmI:((n:Int) % 10)=(m:Int):=by omega
    have e:UInt8.ofNat (48+(m:Int)).toNat=UInt8.ofNat (48+m):=by congr 1
    have hdl:=gv f (n / 10) f0 hf'
    rw[← hq] at ih hdl ⊢
    rw[← hm]
    generalize aP f q=D at *
    clear hd
    simp(maxSteps:=9^7) (disch:=first|exact dI|fail) only[F41,h0,hI,hqI,push_cast,seval]
    refine bp ih rfl ?_
    simp(maxSteps:=9^7) (disch:=first|exact dI|fail) only[hqI,hmI,e,push_cast,seval]
theorem zn (n:Int)(h0:-999999999999999≤n)(h1:n≤999999999999999):aw Tryz.prog aD 41 [.int .i64 n] (.str (bW n)):=by
 by_cases h:n<0
 ·obtain⟨m,hm⟩:∃ m:Nat,n = -(m:Int):=⟨n.natAbs,by omega⟩
  subst hm
  have ih:=eQ 18 m (by omega) (by omega) (by omega)
  have e:bW (-(m:Int))=[45]++aP 18 m:=by
   rw[bW,if_pos h,show (-(m:Int)).natAbs=m by omega,kC 20 18 m (by omega) (by omega) (by omega) (by omega)];rfl
  have hdl:=gv 18 m (by omega) (by omega)
  rw[e]
  generalize aP 18 m=D at *
  have hneg:(0:Int) - -(m:Int)=(m:Int):=by omega
  refine aw.intro B8 (by simp[F41]) ?_
  simp(maxSteps:=9^7) (disch:=first|exact dI|fail) only[F41,h,hneg,push_cast,seval]
  refine ae.pure ih rfl ?_
  simp(maxSteps:=9^7) (disch:=first|exact dI|fail) only[push_cast,seval]
 ·obtain⟨m,hm⟩:∃ m:Nat,n=(m:Int):=⟨n.toNat,by omega⟩
  subst hm
  have ih:=eQ 18 m (by omega) (by omega) (by omega)
  rw[bW,if_neg h,Int.toNat_natCast,kC 20 18 m (by omega) (by omega) (by omega) (by omega)]
  exact ih
end Go.Proofs.YtamoeblcphjbaaaGreatDoor
set_option linter.unusedVariables false
set_option linter.unusedSimpArgs false
namespace Go.Ab
open Go
theorem rt (n:Int)(h0:0≤n):∀ k:Nat,n<dE ((k:Int)+1)→∃ y:Int,1≤y∧y≤k∧dE y≤n∧n<dE (y+1)
 | 0,h=>absurd h (by rw[show dE (((0:Nat):Int)+1)=0 from rfl];omega)
 | k+1,h=>by
   by_cases hk:dE ((k:Int)+1)≤n
   ·exact⟨(k:Int)+1,by omega,by omega,hk,by simpa using h⟩
   ·obtain⟨y,a,b,c,d⟩:=rt n h0 k (by omega)
    exact⟨y,a,by omega,c,d⟩
theorem nJ (y r:Int)(h0:0≤r):∀ k:Nat,r<dG y k→∃ m:Nat,1≤m∧m≤k∧dG y (m - 1)≤r∧r<dG y m
 | 0,h=>absurd h (by rw[show dG y 0=0 from rfl];omega)
 | k+1,h=>by
   by_cases hk:dG y k≤r
   ·exact⟨k+1,by omega,by omega,hk,h⟩
   ·obtain⟨m,a,b,c,d⟩:=nJ y r h0 k (by omega)
    exact⟨m,a,by omega,c,d⟩
theorem BV {n:Int}(h0:0≤n)(h1:n≤3652058):∃ y m d,DateOk y m d∧n=kY y m d:=by
 have hb:dE (((9999:Nat):Int)+1)=3652059:=by decide
 obtain⟨y,y1,y2,b1,b2⟩:=rt n h0 9999 (by rw[hb];omega)
 have hs:=i7 y
 have h12:=Bm y
 obtain⟨m,m1,m2,c1,c2⟩:=nJ y (n - dE y) (by omega) 12 (by omega)
 have hm:dG y m=dG y (m - 1)+mdI y m:=by
  obtain⟨k,rfl⟩:∃ k,m=k+1:=⟨m - 1,by omega⟩
  simp[dG]
 exact⟨y,m,n - dE y - dG y (m - 1)+1,⟨y1,by simpa using y2,m1,m2,by omega,by omega⟩,by unfold kY;omega⟩
end Go.Ab
set_option maxRecDepth 100000
set_option linter.unusedVariables false
set_option linter.unusedSimpArgs false
namespace Go.Proofs.YtamoeblcphjbaaaGreatDoor
open Go Go.Ab
def bZ (s:List UInt8):Prop:=s.flatMap cu=s
theorem aO {a b:List UInt8}(ha:bZ a)(hb:bZ b):bZ (a++b):=by
 unfold bZ at *;rw[List.flatMap_append,ha,hb]
theorem bq:∀ (k n:Nat),bZ (cY k n)
 | 0,_=>rfl
 | k+1,n=>by
   rw[cY]
   refine aO (bq k _) ?_
   unfold bZ
   have hc:(UInt8.ofNat (48+n % 10)).toNat=48+n % 10:=by
    rw[UInt8.toNat_ofNat'];omega
   simp only[List.flatMap_cons,List.flatMap_nil,List.append_nil]
   exact Ec (by omega) (by omega)
theorem fU (y:Int)(m:Nat)(d:Int):bZ (eH y m d):=by
 unfold eH
 exact aO (aO (aO (aO (bq _ _) rfl) (bq _ _)) rfl) (bq _ _)
theorem kj (y:Int)(m:Nat)(d:Int):(eH y m d).length=10:=by
 simp[eH,aT]
theorem lX {t:List UInt8}(ht:bZ t)(h mi s ms:Nat):bZ (lk t h mi s ms):=by
 unfold lk
 refine aO (aO (aO ht ?_) ?_) rfl
 ·exact aO (aO (aO (aO (aO rfl (bq _ _)) rfl) (bq _ _)) rfl) (bq _ _)
 ·split
  ·rfl
  ·exact aO rfl (bq _ _)
theorem uT (t:List UInt8)(h mi s ms:Nat):(lk t h mi s ms).length≤t.length+14:=by
 unfold lk
 split<;>simp[aT]<;>omega
theorem n5 {n:Int}(h0:-719162≤n)(h1:n≤2932896):∃ s,aw Tryz.prog aD 43 [.int .i64 n] (.tup [.str s,.int .i64 0])∧bZ s∧s.length≤10:=by
 obtain⟨y,m,d,hd,he⟩:=BV (n:=n+719162) (by omega) (by omega)
 refine⟨eH y m d,?_,fU _ _ _,by rw[kj];omega⟩
 have:=Bk hd
 rw[← he,show n+719162 - 719162=n by omega] at this
 exact this
theorem jm {n:Int}(h0:-62135596800000≤n)(h1:n≤253402300799999):∃ s,aw Tryz.prog aD 44 [.int .i64 n] (.tup [.str s,.int .i64 0])∧bZ s∧s.length≤24:=by
 obtain⟨D,hD⟩:∃ D,D=n / 86400000:=⟨_,rfl⟩
 obtain⟨r,hr⟩:∃ r:Nat,(r:Int)=n % 86400000:=⟨(n % 86400000).toNat,by omega⟩
 obtain⟨y,m,d,hd,he⟩:=BV (n:=D+719162) (by omega) (by omega)
 have hr1:r<86400000:=by omega
 have hn:n=(kY y m d - 719162)*86400000+((((60*((r / 3600000:Nat):Int)+((r / 60000 % 60:Nat):Int))*60+((r / 1000 % 60:Nat):Int))*1000+((r % 1000:Nat):Int))):=by
  rw[← he];omega
 refine⟨lk (eH y m d) (r / 3600000) (r / 60000 % 60) (r / 1000 % 60) (r % 1000),?_,lX (fU _ _ _) _ _ _ _,?_⟩
 ·have:=oE hd (h:=r / 3600000) (mi:=r / 60000 % 60) (s:=r / 1000 % 60) (ms:=r % 1000) (by omega) (by omega) (by omega) (by omega)
  rw[← hn] at this
  exact this
 ·have:=uT (eH y m d) (r / 3600000) (r / 60000 % 60) (r / 1000 % 60) (r % 1000)
  rw[kj] at this
  exact this
end Go.Proofs.YtamoeblcphjbaaaGreatDoor
set_option maxRecDepth 100000
set_option linter.unusedVariables false
set_option linter.unusedSimpArgs false
namespace Go.Proofs.YtamoeblcphjbaaaGreatDoor
open Go Go.Ab
attribute [local irreducible] vc
def aQ (v:Val):List Val:=if v.kind=8∨v.kind=10 then v.lst else if v.kind=9 then v.fields.map Fld.value else []
theorem bx {v:Val}(h:v.kind=8∨v.kind=10):aQ v=v.lst:=if_pos h
theorem dw {v:Val}(h:v.kind=9):aQ v=v.fields.map Fld.value:=by unfold aQ;rw[if_neg (by omega),if_pos h]
theorem pr {v:Val}(h:¬ (v.kind=8∨v.kind=10))(h9:¬ v.kind=9):aQ v=[]:=by unfold aQ;rw[if_neg h,if_neg h9]
theorem zb (v:Val)(hf:v.fields.length*104≤140737488351232):aw Tryz.prog aD 149 [v.pv] (.list ((aQ v).map Val.pv)):=by
 obtain⟨k,n,s,t,l,fs⟩:=v
 simp only[Val.fields] at hf
 by_cases h8:k=8∨k=10
 ·rw[bx (v:=.mk k n s t l fs) h8]
  simp only[Val.lst]
  rcases h8 with rfl | rfl
  ·refine aw.intro jf (by simp[Bf]) ?_
   simp(disch:=first|exact dI|fail) only[Bf,Val.pv_mk,push_cast,seval]
  ·refine aw.intro jf (by simp[Bf]) ?_
   simp(disch:=first|exact dI|fail) only[Bf,Val.pv_mk,push_cast,seval]
 ·by_cases h9:k=9
  ·subst h9
   rw[dw (v:=.mk 9 n s t l fs) rfl]
   simp only[Val.fields]
   refine aw.intro jf (by simp[Bf]) ?_
   simp(disch:=first|exact dI|fail) only[Bf,Val.pv_mk,push_cast,seval]
   refine be ([(3,0,25,6)]) (fun i:Nat=>[(3,.olist 0 6 (((fs.take i).map Fld.value).map Val.pv)),(18,.pv (.int .i64 (i:Int)))]) (fun _=>[]) (fun i=>i≤fs.length) (fun i=>fs.length - i) (0) ?_;intro e0 σ0 n0 h0;simp(disch:=first|exact dI|fail) only[push_cast,seval] at h0;obtain⟨rfl,rfl,rfl⟩:=h0;refine⟨?_,?_,?_⟩
   ·simp(disch:=first|exact dI|fail) only[push_cast,seval]
   ·omega
   rintro i hi
   by_cases hlt:i<fs.length
   ·have hltI:(i:Int)<(fs.length:Int):=by omega
    obtain⟨c,hc⟩:∃ c,fs[i]? = some c:=⟨_,List.getElem?_eq_getElem hlt⟩
    have hts:=aZ hc
    obtain⟨nm,⟨k',n',s',t',l',f'⟩⟩:=c
    have hcp:(fs.map Fld.pv)[i]? = some (.agg [.str nm,.int .i64 k',.int .i64 n',.int .i64 s',.str t',.list (l'.map Val.pv),.list (f'.map Fld.pv)]):=by simp[hc,Fld.pv_mk,Val.pv_mk,aV]
    simp(disch:=first|exact dI|fail) only[hcp,push_cast,seval]
    exact⟨i+1,bX (by simp(disch:=first|exact dI|fail) only[hts,List.map_append,Fld.value,Val.pv_mk,push_cast,seval]),by omega,by omega⟩
   ·have he:i=fs.length:=by omega
    subst he
    simp(disch:=first|exact dI|fail) only[List.take_length,ul,push_cast,seval]
  ·rw[pr (v:=.mk k n s t l fs) h8 h9]
   refine aw.intro jf (by simp[Bf]) ?_
   have e1:¬ k=8:=by omega
   have e2:¬ k=10:=by omega
   simp(disch:=first|exact dI|fail) only[Bf,Val.pv_mk,push_cast,seval]
end Go.Proofs.YtamoeblcphjbaaaGreatDoor
