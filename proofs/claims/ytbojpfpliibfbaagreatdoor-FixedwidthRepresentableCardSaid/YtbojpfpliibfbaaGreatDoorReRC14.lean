/- A part of the proof for FixedwidthRepresentableCardSaid. -/
import Derived.Test.YtbojpfpliibfbaaGreatDoorReRSg
set_option maxRecDepth 100000
set_option linter.unusedVariables false
set_option linter.unusedSimpArgs false
namespace Go.Proofs.YtbojpfpliibfbaaGreatDoor
open Go Go.Ab
attribute [local irreducible] vc
theorem ly:∀ k:Nat,Lib.repeatL [48] k=List.replicate k 48
 | 0=>rfl
 | k+1=>by rw[Lib.repeatL,ly k];rfl
theorem zE (k:Nat)(h:k≤17):ag Tryz.prog aD 45 [.str [48],.int .i64 (k:Int)] (.str (List.replicate k 48)):=by
 have h1:=lx [48] (k:Int) (by omega) (by omega) (by simp;omega)
 rw[Int.toNat_natCast,ly] at h1;exact h1
def dP:Nat→Nat→List UInt8
 | 0,_=>[]
 | k+1,n=>dP k (n / 10)++[UInt8.ofNat (48+n % 10)]
theorem dO:∀ (k n:Nat),(dP k n).length=k
 | 0,_=>rfl
 | k+1,n=>by simp[dP,dO k]
theorem lN:∀ k:Nat,dP k 0=List.replicate k 48
 | 0=>rfl
 | k+1=>by rw[dP,show 0 / 10=0 from rfl,lN k,List.replicate_succ'];rfl
theorem e7:∀ (k f n:Nat),n<10 ^ f→n<10 ^ (k+1)→0<f→List.replicate (k+1 - (bJ f n).length) 48++bJ f n=dP (k+1) n
 | k,0,n,_,_,h=>absurd h (by omega)
 | k,f+1,n,hf,hk,_=>by
   rw[bJ]
   by_cases h:n<10
   ·rw[if_pos h,dP,show n / 10=0 by omega,lN,show n % 10=n by omega]
    simp
   ·rw[if_neg h]
    cases k with
    | zero=>simp at hk;omega
    | succ k=>
      have hf':n / 10<10 ^ f:=by rw[Nat.pow_succ] at hf;exact Nat.div_lt_of_lt_mul (by rw[Nat.mul_comm];exact hf)
      have hk':n / 10<10 ^ (k+1):=by rw[Nat.pow_succ] at hk;exact Nat.div_lt_of_lt_mul (by rw[Nat.mul_comm];exact hk)
      have h0:0<f:=by
       cases f with
       | zero=>simp at hf;omega
       | succ f=>omega
      have ih:=e7 k f (n / 10) hf' hk' h0
      rw[dP,← ih,List.length_append,List.append_assoc]
      simp
end Go.Proofs.YtbojpfpliibfbaaGreatDoor
-- many steps
namespace Go.Proofs.YtbojpfpliibfbaaGreatDoor
open Go Go.Ab
attribute [local irreducible] vc
end Go.Proofs.YtbojpfpliibfbaaGreatDoor
-- many steps
namespace Go.Proofs.YtbojpfpliibfbaaGreatDoor
open Go Go.Ab
attribute [local irreducible] vc
def IsN (n:Int)(sc:Nat):Prop:=-999999999999999≤n∧n≤999999999999999∧sc≤12
instance (n:Int) (sc:Nat):Decidable (IsN n sc):=by unfold IsN;infer_instance
def dl (a:Nat):Nat:=(bJ 20 a).length
theorem Di:∀ (f a:Nat),a<10 ^ f→0<f→1≤(bJ f a).length∧a<10 ^ (bJ f a).length
 | 0,a,_,h=>absurd h (by omega)
 | f+1,a,hf,_=>by
   rw[bJ]
   by_cases h:a<10
   ·rw[if_pos h];simp;omega
   ·rw[if_neg h]
    have hf':a / 10<10 ^ f:=by rw[Nat.pow_succ] at hf;exact Nat.div_lt_of_lt_mul (by rw[Nat.mul_comm];exact hf)
    have h0:0<f:=by
     cases f with
     | zero=>simp at hf;omega
     | succ f=>omega
    have ih:=Di f (a / 10) hf' h0
    rw[List.length_append,List.length_cons,List.length_nil,Nat.pow_succ]
    omega
theorem n5 {a:Nat}(h:a<10 ^ 15):1≤dl a∧dl a≤15∧a<10 ^ dl a:=by
 have h20:a<10 ^ 20:=Nat.lt_of_lt_of_le h (Nat.pow_le_pow_right (by omega) (by omega))
 have h1:=Di 20 a h20 (by omega)
 have h2:=congrArg List.length (e7 14 20 a h20 h (by omega))
 rw[List.length_append,List.length_replicate,dO] at h2
 unfold dl
 exact⟨h1.1,by omega,h1.2⟩
theorem wW {a K:Nat}(h:a<10 ^ 15)(hK:dl a≤K):List.replicate (K - dl a) 48++bJ 20 a=dP K a:=by
 have h20:a<10 ^ 20:=Nat.lt_of_lt_of_le h (Nat.pow_le_pow_right (by omega) (by omega))
 have hs:=n5 h
 obtain⟨k,rfl⟩:∃ k,K=k+1:=⟨K - 1,by omega⟩
 exact e7 k 20 a h20 (Nat.lt_of_lt_of_le hs.2.2 (Nat.pow_le_pow_right (by omega) hK)) (by omega)
theorem fS (i:Nat):∀ (j a:Nat),dP (i+j) a=dP i (a / 10 ^ j)++dP j a
 | 0,a=>by simp[dP]
 | j+1,a=>by
   rw[← Nat.add_assoc,dP,fS i j (a / 10),dP,List.append_assoc,Nat.div_div_eq_div_mul,Nat.pow_succ,Nat.mul_comm 10]
def jZ (n:Int)(sc:Nat):List UInt8:=
 (if n<0 then [45] else [])++(dP (max (dl n.natAbs) (sc+1) - sc) (n.natAbs / 10 ^ sc)++(if sc=0 then [] else 46::dP sc n.natAbs))
theorem J3 {n:Int}(h:-9223372036854775808<n)(h2:n≤9223372036854775807):ag Tryz.prog aD 141 [.int .i64 n] (.int .i64 (n.natAbs:Int)):=by
 have e:max n (0 - n)=(n.natAbs:Int):=by omega
 refine ag.intro Ho (by simp[Ng]) ?_
 simp(maxSteps:=9^7) (disch:=try exact dI) only[Ng,e,push_cast,seval]
theorem FW {n:Int}(h:-9223372036854775808<n)(h2:n≤9223372036854775807)(sc:Nat):ag Tryz.prog aD 140 [.agg [.int .i64 n,.int .i64 (sc:Int)]] (.int .i64 (if IsN n sc then 0 else 2)):=by
 have ha:=J3 h h2
 by_cases h1:(999999999999999:Int)<(n.natAbs:Int)
 ·rw[if_neg (by unfold IsN;omega)]
  refine ag.intro ol (by simp[Hp]) ?_
  simp(maxSteps:=9^7) (disch:=try exact dI) only[Hp,push_cast,seval]
  refine ab.pure ha rfl ?_
  simp(maxSteps:=9^7) (disch:=try exact dI) only[push_cast,seval]
 have h2:¬ n < -999999999999999:=by omega
 have h3:¬ (sc:Int)<0:=by omega
 by_cases h4:(12:Int)<(sc:Int)
 ·rw[if_neg (by unfold IsN;omega)]
  refine ag.intro ol (by simp[Hp]) ?_
  simp(maxSteps:=9^7) (disch:=try exact dI) only[Hp,push_cast,seval]
  refine ab.pure ha rfl ?_
  simp(maxSteps:=9^7) (disch:=try exact dI) only[push_cast,seval]
 ·rw[if_pos (by unfold IsN;omega)]
  refine ag.intro ol (by simp[Hp]) ?_
  simp(maxSteps:=9^7) (disch:=try exact dI) only[Hp,push_cast,seval]
  refine ab.pure ha rfl ?_
  simp(maxSteps:=9^7) (disch:=try exact dI) only[push_cast,seval]
theorem H2 {n:Int}{sc:Nat}(hn:IsN n sc):ag Tryz.prog aD 83 [.agg [.int .i64 n,.int .i64 (sc:Int)]] (.tup [.str (jZ n sc),.int .i64 0]):=by
 obtain⟨hn1,hn2,hn3⟩:=hn
 have hc:=FW (n:=n) (by omega) (by omega) sc
 rw[if_pos ⟨hn1,hn2,hn3⟩] at hc
 have ha:=J3 (n:=n) (by omega) (by omega)
 have hi:=vZ (n.natAbs:Int) (by omega) (by omega)
 have hlt:n.natAbs<10 ^ 15:=by simp;omega
 have hdl:=n5 hlt
 have hL:=wW hlt (K:=max (dl n.natAbs) (sc+1)) (by omega)
 have hL2:=fS (max (dl n.natAbs) (sc+1) - sc) sc n.natAbs
 rw[show max (dl n.natAbs) (sc+1) - sc+sc=max (dl n.natAbs) (sc+1) by omega] at hL2
 have hr:=zE (sc+1 - dl n.natAbs) (by omega)
 rw[show max (dl n.natAbs) (sc+1) - dl n.natAbs=sc+1 - dl n.natAbs by omega] at hL
 have e1:kD (n.natAbs:Int)=bJ 20 n.natAbs:=by unfold kD;rw[if_neg (by omega),Int.toNat_natCast]
 rw[e1] at hi
 have l1:=dO (max (dl n.natAbs) (sc+1) - sc) (n.natAbs / 10 ^ sc)
 have l2:=dO sc n.natAbs
 have l0:(bJ 20 n.natAbs).length=dl n.natAbs:=rfl
 have lZ:(List.replicate (sc+1 - dl n.natAbs) (48:UInt8)).length=sc+1 - dl n.natAbs:=by simp
 unfold jZ
 rw[hL2] at hL
 have hm:max (0:Int) ((sc:Int)+1 - ((dl n.natAbs:Nat):Int))=((sc+1 - dl n.natAbs:Nat):Int):=by omega
 rw[← hm] at hr
 generalize dP (max (dl n.natAbs) (sc+1) - sc) (n.natAbs / 10 ^ sc)=A at *
 generalize dP sc n.natAbs=B at *
 generalize bJ 20 n.natAbs=D at *
 generalize dl n.natAbs=k at *
 generalize List.replicate (sc+1 - k) (48:UInt8)=Z at *
 have lA:1≤A.length:=by omega
 clear hL2 e1 hlt
 by_cases hs:sc=0
 ·subst hs
  rw[if_pos rfl,List.append_nil]
  have hB:B=[]:=List.length_eq_zero_iff.1 l2
  have hDA:D=A:=by
   have hz:Z=[]:=by
    have:=congrArg List.length hL
    simp only[List.length_append] at this
    exact List.length_eq_zero_iff.1 (by omega)
   rw[hz,hB] at hL
   simpa using hL
  subst hDA
  by_cases hneg:n<0
  ·rw[if_pos hneg]
   refine ag.intro pU (by simp[F83]) ?_
   simp(maxSteps:=9^7) (disch:=try exact dI) only[F83,push_cast,seval]
   refine ab.pure hc rfl ?_
   simp(maxSteps:=9^7) (disch:=try exact dI) only[push_cast,seval]
   refine ab.pure ha rfl ?_
   simp(maxSteps:=9^7) (disch:=try exact dI) only[push_cast,seval]
   refine ab.pure hi rfl ?_
   simp(maxSteps:=9^7) (disch:=try exact dI) only[push_cast,seval]
  ·rw[if_neg hneg]
   refine ag.intro pU (by simp[F83]) ?_
   simp(maxSteps:=9^7) (disch:=try exact dI) only[F83,push_cast,seval]
   refine ab.pure hc rfl ?_
   simp(maxSteps:=9^7) (disch:=try exact dI) only[push_cast,seval]
   refine ab.pure ha rfl ?_
   simp(maxSteps:=9^7) (disch:=try exact dI) only[push_cast,seval]
   refine ab.pure hi rfl ?_
   simp(maxSteps:=9^7) (disch:=try exact dI) only[push_cast,seval]
 ·rw[if_neg hs]
  have hsI:(0:Int)<(sc:Int):=by omega
  have el:((A.length:Int)+(B.length:Int)) - (sc:Int)=(A.length:Int):=by omega
  have et:(((A++B).length:Int) - (sc:Int)).toNat=A.length:=by rw[List.length_append];omega
  have t1:(A++B).take A.length=A:=by simp
  have t2:(A++B).drop A.length=B:=by simp
  by_cases hneg:n<0
  ·rw[if_pos hneg]
   refine ag.intro pU (by simp[F83]) ?_
   simp(maxSteps:=9^7) (disch:=try exact dI) only[F83,push_cast,seval]
   refine ab.pure hc rfl ?_
   simp(maxSteps:=9^7) (disch:=try exact dI) only[push_cast,seval]
   refine ab.pure ha rfl ?_
   simp(maxSteps:=9^7) (disch:=try exact dI) only[push_cast,seval]
   refine ab.pure hi rfl ?_
   simp(maxSteps:=9^7) (disch:=try exact dI) only[l0,push_cast,seval]
   refine ab.pure hr rfl ?_
   simp(maxSteps:=9^7) (disch:=try exact dI) only[hL,el,t1,t2,push_cast,seval]
   rw[et,List.take_length,t1,t2]
  ·rw[if_neg hneg]
   refine ag.intro pU (by simp[F83]) ?_
   simp(maxSteps:=9^7) (disch:=try exact dI) only[F83,push_cast,seval]
   refine ab.pure hc rfl ?_
   simp(maxSteps:=9^7) (disch:=try exact dI) only[push_cast,seval]
   refine ab.pure ha rfl ?_
   simp(maxSteps:=9^7) (disch:=try exact dI) only[push_cast,seval]
   refine ab.pure hi rfl ?_
   simp(maxSteps:=9^7) (disch:=try exact dI) only[l0,push_cast,seval]
   refine ab.pure hr rfl ?_
   simp(maxSteps:=9^7) (disch:=try exact dI) only[hL,el,t1,t2,push_cast,seval]
   rw[et,List.take_length,t1,t2]
end Go.Proofs.YtbojpfpliibfbaaGreatDoor
-- many steps
namespace Go.Proofs.YtbojpfpliibfbaaGreatDoor
open Go Go.Ab
attribute [local irreducible] vc
def mI (n:Nat):PV:=.int .i64 (n:Int)
def dd:Nat→Nat→List Nat
 | 0,_=>[]
 | f+1,a=>if a=0 then [] else a % 10::dd f (a / 10)
theorem er:∀ (f a:Nat),(dd f a).length≤f
 | 0,a=>by simp[dd]
 | f+1,a=>by
   rw[dd]
   split
   ·simp
   ·have:=er f (a / 10)
    simp;omega
theorem Dk:∀ (f a i:Nat),a<10 ^ f→(dd f a).getD i 0=a / 10 ^ i % 10
 | 0,a,i,h=>by
   have:a=0:=by simpa using h
   subst this
   simp[dd]
 | f+1,a,i,h=>by
   rw[dd]
   by_cases ha:a=0
   ·subst ha;simp
   ·rw[if_neg ha]
    have hf':a / 10<10 ^ f:=by rw[Nat.pow_succ] at h;exact Nat.div_lt_of_lt_mul (by rw[Nat.mul_comm];exact h)
    cases i with
    | zero=>simp
    | succ i=>
      rw[List.getD_cons_succ,Dk f (a / 10) i hf',Nat.div_div_eq_div_mul,Nat.pow_succ,Nat.mul_comm 10]
theorem Dj:∀ (f a:Nat),a<10 ^ f→a≠0→(dd f a).length=(bJ f a).length
 | 0,a,h,h0=>by simp at h;omega
 | f+1,a,h,h0=>by
   rw[dd,bJ,if_neg h0]
   have hf':a / 10<10 ^ f:=by rw[Nat.pow_succ] at h;exact Nat.div_lt_of_lt_mul (by rw[Nat.mul_comm];exact h)
   by_cases h10:a<10
   ·rw[if_pos h10,show a / 10=0 by omega]
    cases f<;>simp[dd]
   ·rw[if_neg h10,List.length_cons,List.length_append,Dj f (a / 10) hf' (by omega)]
    simp
theorem wY:∀ (f a:Nat),a<10 ^ f→a≠0→(dd f a)[(dd f a).length - 1]?≠some 0
 | 0,a,h,h0=>by simp at h;omega
 | f+1,a,h,h0=>by
   rw[dd,if_neg h0]
   have hf':a / 10<10 ^ f:=by rw[Nat.pow_succ] at h;exact Nat.div_lt_of_lt_mul (by rw[Nat.mul_comm];exact h)
   by_cases h10:a / 10=0
   ·rw[h10]
    have e:dd f 0=[]:=by cases f<;>simp[dd]
    rw[e]
    simp;omega
   ·have ih:=wY f (a / 10) hf' h10
    have hne:1≤(dd f (a / 10)).length:=by
     cases f with
     | zero=>simp at hf';omega
     | succ f=>rw[dd,if_neg h10];simp
    rw[List.length_cons,Nat.add_sub_cancel,show (dd f (a / 10)).length=(dd f (a / 10)).length - 1+1 by omega,List.getElem?_cons_succ]
    exact ih
theorem DR (sg:Int)(D:List Nat)(hl:D.length≤100)(h:D[D.length - 1]?≠some 0):ag Tryz.prog aD 240 [.agg [.int .i64 sg,.list (D.map mI)]] (.agg [.int .i64 (if D=[] then 0 else sg),.list (D.map mI)]):=by
 refine ag.intro GR (by simp[Lu]) ?_
 by_cases hD:D=[]
 ·subst hD
  rw[if_pos rfl]
  simp(maxSteps:=9^7) (disch:=try exact dI) only[Lu,push_cast,seval]
  refine aw ([]) (fun i:Nat=>[(3,.pv (.int .i64 0))]) (fun _=>[]) (fun i=>i=0) (fun i=>0) (0) ?_;intro e0 σ0 n0 h0;simp(maxSteps:=9^7) (disch:=try exact dI) only[push_cast,seval] at h0;obtain⟨rfl,rfl,rfl⟩:=h0;refine⟨?_,?_,?_⟩
  ·simp(maxSteps:=9^7) (disch:=try exact dI) only[push_cast,seval]
  ·rfl
  rintro i rfl
  simp(maxSteps:=9^7) (disch:=try exact dI) only[push_cast,seval]
 ·rw[if_neg hD]
  have hp:0<D.length:=List.length_pos_iff.2 hD
  obtain⟨k,hk⟩:∃ k,D.length=k+1:=⟨D.length - 1,by omega⟩
  obtain⟨x,hx⟩:∃ x,D[k]? = some x:=⟨_,List.getElem?_eq_getElem (by omega)⟩
  rw[hk,Nat.add_sub_cancel] at h
  have hx0:¬ (x:Int)=0:=fun e=>h (by rw[hx,show x=0 by omega])
  have hxp:(D.map mI)[k]? = some (.int .i64 (x:Int)):=by simp[hx,mI]
  have e1:((D.length:Int) - 1)=(k:Int):=by omega
  have hpI:(0:Int)<(D.length:Int):=by omega
  have hnz:¬ (D.length:Int)=0:=by omega
  simp(maxSteps:=9^7) (disch:=try exact dI) only[Lu,push_cast,seval]
  refine aw ([]) (fun i:Nat=>[(3,.pv (.int .i64 (D.length:Int)))]) (fun _=>[]) (fun i=>i=0) (fun i=>0) (0) ?_;intro e0 σ0 n0 h0;simp(maxSteps:=9^7) (disch:=try exact dI) only[push_cast,seval] at h0;obtain⟨rfl,rfl,rfl⟩:=h0;refine⟨?_,?_,?_⟩
  ·simp(maxSteps:=9^7) (disch:=try exact dI) only[push_cast,seval]
  ·rfl
  rintro i rfl
  simp(maxSteps:=9^7) (disch:=try exact dI) only[e1,hxp,List.take_length,push_cast,seval]
theorem B8 (sg:Int)(D:List Nat)(i:Nat):ag Tryz.prog aD 192 [.agg [.int .i64 sg,.list (D.map mI)],.int .i64 (i:Int)] (mI (D.getD i 0)):=by
 by_cases hi:i<D.length
 ·obtain⟨x,hx⟩:∃ x,D[i]? = some x:=⟨_,List.getElem?_eq_getElem hi⟩
  have hxp:(D.map mI)[i]? = some (.int .i64 (x:Int)):=by simp[hx,mI]
  have hg:D.getD i 0=x:=by rw[List.getD_eq_getElem?_getD,hx];rfl
  rw[hg]
  refine ag.intro yd (by simp[KV]) ?_
  simp(maxSteps:=9^7) (disch:=try exact dI) only[KV,hxp,mI,push_cast,seval]
 ·have hg:D.getD i 0=0:=by rw[List.getD_eq_getElem?_getD,List.getElem?_eq_none (by omega)];rfl
  rw[hg]
  refine ag.intro yd (by simp[KV]) ?_
  simp(maxSteps:=9^7) (disch:=try exact dI) only[KV,mI,push_cast,seval]
def sgn (n:Int):Int:=if n=0 then 0 else if n<0 then -1 else 1
theorem L3 {n:Int}(h1:-999999999999999≤n)(h2:n≤999999999999999):ag Tryz.prog aD 191 [.int .i64 n,.int .i64 0] (.agg [.int .i64 (sgn n),.list ((dd 20 n.natAbs).map mI)]):=by
 have hlt:n.natAbs<10 ^ 20:=by simp;omega
 have hL:=er 20 n.natAbs
 have hlast:(dd 20 n.natAbs)[(dd 20 n.natAbs).length - 1]?≠some 0:=by
  by_cases h0:n.natAbs=0
  ·rw[h0];simp[dd]
  ·exact wY 20 _ hlt h0
 have ht:=DR (if n<0 then -1 else 1) (dd 20 n.natAbs) (by omega) hlast
 have hsg:(if dd 20 n.natAbs=[] then (0:Int) else if n<0 then -1 else 1)=sgn n:=by
  unfold sgn
  by_cases h0:n=0
  ·rw[h0];simp[dd]
  ·rw[if_neg h0,if_neg]
   rw[dd,if_neg (by omega)]
   simp
 rw[hsg] at ht
 generalize sgn n=SG at *
 clear hsg hlast hL
 refine ag.intro G3 (by simp[Lv]) ?_
 by_cases hneg:n<0
 ·rw[if_pos hneg] at ht
  have ea:0 - n=(n.natAbs:Int):=by omega
  simp(maxSteps:=9^7) (disch:=try exact dI) only[Lv,push_cast,seval]
  refine aw ([(5,2,3,1)]) (fun i:Nat=>[(6,.pv (.int .i64 (i:Int)))]) (fun i=>[(1,.cells 201 true [.pv (.int .i64 (-1)),.olist 2 1 []])]) (fun i=>i=0) (fun i=>0) (0) ?_;intro e0 σ0 n0 h0;simp(maxSteps:=9^7) (disch:=try exact dI) only[push_cast,seval] at h0;obtain⟨rfl,rfl,rfl⟩:=h0;refine⟨?_,?_,?_⟩
  ·simp(maxSteps:=9^7) (disch:=try exact dI) only[push_cast,seval]
  ·rfl
  rintro i rfl
  simp(maxSteps:=9^7) (disch:=try exact dI) only[ea,push_cast,seval]
  refine aw ([]) (fun y:Nat×List Nat=>[(0,.pv (.int .i64 (y.1:Int)))]) (fun y=>[(1,.cells 201 true [.pv (.int .i64 (-1)),.olist 2 1 (y.2.map mI)])]) (fun y=>∃ f,y.1<10 ^ f∧y.1≤999999999999999∧y.2++dd f y.1=dd 20 n.natAbs) (fun y=>y.1) ((n.natAbs,[])) ?_;intro e0 σ0 n0 h0;simp(maxSteps:=9^7) (disch:=try exact dI) only[push_cast,seval] at h0;obtain⟨rfl,rfl,rfl⟩:=h0;refine⟨?_,?_,?_⟩
  ·simp(maxSteps:=9^7) (disch:=try exact dI) only[List.map_nil,ea,push_cast,seval]
  ·exact⟨20,hlt,by simp only;omega,rfl⟩
  rintro⟨r,L⟩ ⟨f,h1,hr,h2⟩
  simp only at h1 h2 hr
  have hLl:L.length≤20:=by
   have g1:=congrArg List.length h2
   have g2:=er 20 n.natAbs
   rw[List.length_append] at g1
   omega
  by_cases  h0:r=0
  ·subst h0
   have hL:L=dd 20 n.natAbs:=by
    rw[← h2]
    cases f<;>simp[dd]
   simp(maxSteps:=9^7) (disch:=try exact dI) only[hL,push_cast,seval]
   refine ab.pure ht rfl ?_
   simp(maxSteps:=9^7) (disch:=try exact dI) only[push_cast,seval]
  ·have h0I:(0:Int)<(r:Int):=by omega
   have q1:=tw (a:=(r:Int)) (b:=10) (by omega)
   have q2:=tv (a:=(r:Int)) (b:=10) (by omega)
   obtain⟨f,rfl⟩:∃ g,f=g+1:=by
    cases f with
    | zero=>simp at h1;omega
    | succ g=>exact⟨g,rfl⟩
   rw[dd,if_neg h0] at h2
   have hf':r / 10<10 ^ f:=by rw[Nat.pow_succ] at h1;exact Nat.div_lt_of_lt_mul (by rw[Nat.mul_comm];exact h1)
   simp(maxSteps:=9^7) (disch:=try exact dI) only[q1,q2,push_cast,seval]
   exact⟨(r / 10,L++[r % 10]),aT (by simp(maxSteps:=9^7) (disch:=try exact dI) only[List.map_append,mI,push_cast,seval]),⟨f,hf',by simp only;omega,by rw[← h2];simp⟩,by simp only;omega⟩
 ·rw[if_neg hneg] at ht
  have ea:n=(n.natAbs:Int):=by omega
  obtain⟨a,ha⟩:∃ a,a=n.natAbs:=⟨_,rfl⟩
  rw[← ha] at ht hlt ea ⊢
  subst ea
  simp(maxSteps:=9^7) (disch:=try exact dI) only[Lv,push_cast,seval]
  refine aw ([(5,2,3,1)]) (fun i:Nat=>[(6,.pv (.int .i64 (i:Int)))]) (fun i=>[(1,.cells 201 true [.pv (.int .i64 (1)),.olist 2 1 []])]) (fun i=>i=0) (fun i=>0) (0) ?_;intro e0 σ0 n0 h0;simp(maxSteps:=9^7) (disch:=try exact dI) only[push_cast,seval] at h0;obtain⟨rfl,rfl,rfl⟩:=h0;refine⟨?_,?_,?_⟩
  ·simp(maxSteps:=9^7) (disch:=try exact dI) only[push_cast,seval]
  ·rfl
  rintro i rfl
  simp(maxSteps:=9^7) (disch:=try exact dI) only[push_cast,seval]
  refine aw ([]) (fun y:Nat×List Nat=>[(0,.pv (.int .i64 (y.1:Int)))]) (fun y=>[(1,.cells 201 true [.pv (.int .i64 (1)),.olist 2 1 (y.2.map mI)])]) (fun y=>∃ f,y.1<10 ^ f∧y.1≤999999999999999∧y.2++dd f y.1=dd 20 a) (fun y=>y.1) ((a,[])) ?_;intro e0 σ0 n0 h0;simp(maxSteps:=9^7) (disch:=try exact dI) only[push_cast,seval] at h0;obtain⟨rfl,rfl,rfl⟩:=h0;refine⟨?_,?_,?_⟩
  ·simp(maxSteps:=9^7) (disch:=try exact dI) only[List.map_nil,push_cast,seval]
  ·exact⟨20,hlt,by simp only;omega,rfl⟩
  rintro⟨r,L⟩ ⟨f,h1,hr,h2⟩
  simp only at h1 h2 hr
  have hLl:L.length≤20:=by
   have g1:=congrArg List.length h2
   have g2:=er 20 a
   rw[List.length_append] at g1
   omega
  by_cases  h0:r=0
  ·subst h0
   have hL:L=dd 20 a:=by
    rw[← h2]
    cases f<;>simp[dd]
   simp(maxSteps:=9^7) (disch:=try exact dI) only[hL,push_cast,seval]
   refine ab.pure ht rfl ?_
   simp(maxSteps:=9^7) (disch:=try exact dI) only[push_cast,seval]
  ·have h0I:(0:Int)<(r:Int):=by omega
   have q1:=tw (a:=(r:Int)) (b:=10) (by omega)
   have q2:=tv (a:=(r:Int)) (b:=10) (by omega)
   obtain⟨f,rfl⟩:∃ g,f=g+1:=by
    cases f with
    | zero=>simp at h1;omega
    | succ g=>exact⟨g,rfl⟩
   rw[dd,if_neg h0] at h2
   have hf':r / 10<10 ^ f:=by rw[Nat.pow_succ] at h1;exact Nat.div_lt_of_lt_mul (by rw[Nat.mul_comm];exact h1)
   simp(maxSteps:=9^7) (disch:=try exact dI) only[q1,q2,push_cast,seval]
   exact⟨(r / 10,L++[r % 10]),aT (by simp(maxSteps:=9^7) (disch:=try exact dI) only[List.map_append,mI,push_cast,seval]),⟨f,hf',by simp only;omega,by rw[← h2];simp⟩,by simp only;omega⟩
end Go.Proofs.YtbojpfpliibfbaaGreatDoor
