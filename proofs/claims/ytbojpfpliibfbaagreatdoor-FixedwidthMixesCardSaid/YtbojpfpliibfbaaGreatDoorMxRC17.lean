/- A part of the proof. -/
import Derived.Test.YtbojpfpliibfbaaGreatDoorMxRC3
set_option maxRecDepth 100000
set_option linter.unusedVariables false
set_option linter.unusedSimpArgs false
namespace Go.Proofs.YtbojpfpliibfbaaGreatDoor
open Go Go.Ab
attribute [local irreducible] vc
def IsN (n:Int)(sc:Nat):Prop:=-999999999999999<=n/\n<=999999999999999/\sc<=12
instance (n:Int) (sc:Nat):Decidable (IsN n sc):=by unfold IsN;infer_instance
def dl (a:Nat):Nat:=(bg 20 a).length
theorem Jq:∀ (f a:Nat),a<10 ^ f->0<f->1<=(bg f a).length/\a<10 ^ (bg f a).length
 | 0,a,_,h=>absurd h (by omega)
 | f+1,a,hf,_=>by
   rw[bg]
   by_cases h:a<10
   ·rw[if_pos h];simp;omega
   ·rw[if_neg h]
    have hf':a / 10<10 ^ f:=by rw[Nat.pow_succ] at hf;exact Nat.div_lt_of_lt_mul (by rw[Nat.mul_comm];exact hf)
    have h0:0<f:=by
     cases f with
     | zero=>simp at hf;omega
     | succ f=>omega
    have ih:=Jq f (a / 10) hf' h0
    rw[List.length_append,List.length_cons,List.length_nil,Nat.pow_succ]
    omega
theorem iE {a:Nat}(h:a<10 ^ 15):1<=dl a/\dl a<=15/\a<10 ^ dl a:=by
 have h20:a<10 ^ 20:=Nat.lt_of_lt_of_le h (Nat.pow_le_pow_right (by omega) (by omega))
 have h1:=Jq 20 a h20 (by omega)
 have h2:=congrArg List.length (eu 14 20 a h20 h (by omega))
 rw[List.length_append,List.length_replicate,aT] at h2
 unfold dl
 exact⟨h1.1,by omega,h1.2⟩
theorem DA {a K:Nat}(h:a<10 ^ 15)(hK:dl a<=K):List.replicate (K - dl a) 48++bg 20 a=aQ K a:=by
 have h20:a<10 ^ 20:=Nat.lt_of_lt_of_le h (Nat.pow_le_pow_right (by omega) (by omega))
 have hs:=iE h
 obtain⟨k,rfl⟩:∃ k,K=k+1:=⟨K - 1,by omega⟩
 exact eu k 20 a h20 (Nat.lt_of_lt_of_le hs.2.2 (Nat.pow_le_pow_right (by omega) hK)) (by omega)
theorem fv (i:Nat):∀ (j a:Nat),aQ (i+j) a=aQ i (a / 10 ^ j)++aQ j a
 | 0,a=>by simp[aQ]
 | j+1,a=>by
   rw[<- Nat.add_assoc,aQ,fv i j (a / 10),aQ,List.append_assoc,Nat.div_div_eq_div_mul,Nat.pow_succ,Nat.mul_comm 10]
def ce (n:Int)(sc:Nat):List UInt8:=
 (if n<0 then [45] else [])++(aQ (max (dl n.natAbs) (sc+1) - sc) (n.natAbs / 10 ^ sc)++(if sc=0 then [] else 46::aQ sc n.natAbs))
theorem QD {n:Int}(h:-9223372036854775808<n)(h2:n<=9223372036854775807):ag Tryz.prog aq 141 [.int .i64 n] (.int .i64 (n.natAbs:Int)):=by
 have e:max n (0 - n)=(n.natAbs:Int):=by omega
 refine ag.intro Tt.2 (by simp[Tt]) ?_
 simp(disch:=try exact dI) only[Tt,e,push_cast,seval]
theorem DS {n:Int}(h:-9223372036854775808<n)(h2:n<=9223372036854775807)(sc:Nat):ag Tryz.prog aq 140 [.agg [.int .i64 n,.int .i64 (sc:Int)]] (.int .i64 (if IsN n sc then 0 else 2)):=by
 have ha:=QD h h2
 by_cases h1:(999999999999999:Int)<(n.natAbs:Int)
 ·rw[if_neg (by unfold IsN;omega)]
  refine ag.intro IH.2 (by simp[IH]) ?_
  simp(disch:=try exact dI) only[IH,push_cast,seval]
  refine ab.pure ha rfl ?_
  exact qsZ
 have h2:¬ n < -999999999999999:=by omega
 have h3:¬ (sc:Int)<0:=by omega
 by_cases h4:(12:Int)<(sc:Int)
 ·rw[if_neg (by unfold IsN;omega)]
  refine ag.intro IH.2 (by simp[IH]) ?_
  simp(disch:=try exact dI) only[IH,push_cast,seval]
  refine ab.pure ha rfl ?_
  exact qsZ
 ·rw[if_pos (by unfold IsN;omega)]
  refine ag.intro IH.2 (by simp[IH]) ?_
  simp(disch:=try exact dI) only[IH,push_cast,seval]
  refine ab.pure ha rfl ?_
  exact qsZ
theorem zY {n:Int}(h:-9223372036854775808<n)(h2:n<=9223372036854775807){sc:Nat}(hn:¬ IsN n sc):ag Tryz.prog aq 83 [.agg [.int .i64 n,.int .i64 (sc:Int)]] (.tup [.str [],.int .i64 2]):=by
 have hc:=DS h h2 sc
 rw[if_neg hn] at hc
 refine ag.intro Q83.2 (by simp[Q83]) ?_
 simp(disch:=try exact dI) only[Q83,push_cast,seval]
 refine ab.pure hc rfl ?_
 exact qsZ
theorem zZ {n:Int}{sc:Nat}(hn:IsN n sc):ag Tryz.prog aq 83 [.agg [.int .i64 n,.int .i64 (sc:Int)]] (.tup [.str (ce n sc),.int .i64 0]):=by
 obtain⟨hn1,hn2,hn3⟩:=hn
 have hc:=DS (n:=n) (by omega) (by omega) sc
 rw[if_pos ⟨hn1,hn2,hn3⟩] at hc
 have ha:=QD (n:=n) (by omega) (by omega)
 have hi:=r6 (n.natAbs:Int) (by omega) (by omega)
 have hlt:n.natAbs<10 ^ 15:=by simp;omega
 have hdl:=iE hlt
 have hL:=DA hlt (K:=max (dl n.natAbs) (sc+1)) (by omega)
 have hL2:=fv (max (dl n.natAbs) (sc+1) - sc) sc n.natAbs
 rw[show max (dl n.natAbs) (sc+1) - sc+sc=max (dl n.natAbs) (sc+1) by omega] at hL2
 have hr:=tj (sc+1 - dl n.natAbs) (by omega)
 rw[show max (dl n.natAbs) (sc+1) - dl n.natAbs=sc+1 - dl n.natAbs by omega] at hL
 have e1:fX (n.natAbs:Int)=bg 20 n.natAbs:=by unfold fX;rw[if_neg (by omega),Int.toNat_natCast]
 rw[e1] at hi
 have l1:=aT (max (dl n.natAbs) (sc+1) - sc) (n.natAbs / 10 ^ sc)
 have l2:=aT sc n.natAbs
 have l0:(bg 20 n.natAbs).length=dl n.natAbs:=rfl
 have lZ:(List.replicate (sc+1 - dl n.natAbs) (48:UInt8)).length=sc+1 - dl n.natAbs:=by simp
 unfold ce
 rw[hL2] at hL
 have hm:max (0:Int) ((sc:Int)+1 - ((dl n.natAbs:Nat):Int))=((sc+1 - dl n.natAbs:Nat):Int):=by omega
 rw[<- hm] at hr
 generalize aQ (max (dl n.natAbs) (sc+1) - sc) (n.natAbs / 10 ^ sc)=A at *
 generalize aQ sc n.natAbs=B at *
 generalize bg 20 n.natAbs=D at *
 generalize dl n.natAbs=k at *
 generalize List.replicate (sc+1 - k) (48:UInt8)=Z at *
 have lA:1<=A.length:=by omega
 clear hL2 e1 hlt
 by_cases hs:sc=0
 ·subst hs
  rw[if_pos rfl,List.append_nil]
  have hB:B=[]:=List.length_eq_zero_iff.1 l2
  have hDA:D=A:=by
   have hz:Z=[]:=by
    have:=congrArg List.length hL
    simp only[List.length_append] at this
    exact List.length_eq_zero_iff.1 (by omega)
   rw[hz,hB] at hL
   simpa using hL
  subst hDA
  by_cases hneg:n<0
  ·rw[if_pos hneg]
   refine ag.intro Q83.2 (by simp[Q83]) ?_
   simp(disch:=try exact dI) only[Q83,push_cast,seval]
   refine ab.pure hc rfl ?_
   refine zgZ ?_
   refine ab.pure ha rfl ?_
   refine zgZ ?_
   refine ab.pure hi rfl ?_
   exact qsZ
  ·rw[if_neg hneg]
   refine ag.intro Q83.2 (by simp[Q83]) ?_
   simp(disch:=try exact dI) only[Q83,push_cast,seval]
   refine ab.pure hc rfl ?_
   refine zgZ ?_
   refine ab.pure ha rfl ?_
   refine zgZ ?_
   refine ab.pure hi rfl ?_
   exact qsZ
 ·rw[if_neg hs]
  have hsI:(0:Int)<(sc:Int):=by omega
  have el:((A.length:Int)+(B.length:Int)) - (sc:Int)=(A.length:Int):=by omega
  have et:(((A++B).length:Int) - (sc:Int)).toNat=A.length:=by rw[List.length_append];omega
  have t1:(A++B).take A.length=A:=by simp
  have t2:(A++B).drop A.length=B:=by simp
  by_cases hneg:n<0
  ·rw[if_pos hneg]
   refine ag.intro Q83.2 (by simp[Q83]) ?_
   simp(disch:=try exact dI) only[Q83,push_cast,seval]
   refine ab.pure hc rfl ?_
   refine zgZ ?_
   refine ab.pure ha rfl ?_
   refine zgZ ?_
   refine ab.pure hi rfl ?_
   simp(disch:=try exact dI) only[l0,push_cast,seval]
   refine ab.pure hr rfl ?_
   simp(disch:=try exact dI) only[hL,el,t1,t2,push_cast,seval]
   rw[et,List.take_length,t1,t2]
  ·rw[if_neg hneg]
   refine ag.intro Q83.2 (by simp[Q83]) ?_
   simp(disch:=try exact dI) only[Q83,push_cast,seval]
   refine ab.pure hc rfl ?_
   refine zgZ ?_
   refine ab.pure ha rfl ?_
   refine zgZ ?_
   refine ab.pure hi rfl ?_
   simp(disch:=try exact dI) only[l0,push_cast,seval]
   refine ab.pure hr rfl ?_
   simp(disch:=try exact dI) only[hL,el,t1,t2,push_cast,seval]
   rw[et,List.take_length,t1,t2]
def lh (n:Nat):PV:=.int .i64 (n:Int)
def dd:Nat->Nat->List Nat
 | 0,_=>[]
 | f+1,a=>if a=0 then [] else a % 10::dd f (a / 10)
theorem fh:∀ (f a:Nat),(dd f a).length<=f
 | 0,a=>by simp[dd]
 | f+1,a=>by
   rw[dd]
   split
   ·simp
   ·have:=fh f (a / 10)
    simp;omega
theorem Jt:∀ (f a i:Nat),a<10 ^ f->(dd f a).getD i 0=a / 10 ^ i % 10
 | 0,a,i,h=>by
   have:a=0:=by simpa using h
   subst this
   simp[dd]
 | f+1,a,i,h=>by
   rw[dd]
   by_cases ha:a=0
   ·subst ha;simp
   ·rw[if_neg ha]
    have hf':a / 10<10 ^ f:=by rw[Nat.pow_succ] at h;exact Nat.div_lt_of_lt_mul (by rw[Nat.mul_comm];exact h)
    cases i with
    | zero=>simp
    | succ i=>
      rw[List.getD_cons_succ,Jt f (a / 10) i hf',Nat.div_div_eq_div_mul,Nat.pow_succ,Nat.mul_comm 10]
theorem Js:∀ (f a:Nat),a<10 ^ f->a≠0->(dd f a).length=(bg f a).length
 | 0,a,h,h0=>by simp at h;omega
 | f+1,a,h,h0=>by
   rw[dd,bg,if_neg h0]
   have hf':a / 10<10 ^ f:=by rw[Nat.pow_succ] at h;exact Nat.div_lt_of_lt_mul (by rw[Nat.mul_comm];exact h)
   by_cases h10:a<10
   ·rw[if_pos h10,show a / 10=0 by omega]
    cases f<;>simp[dd]
   ·rw[if_neg h10,List.length_cons,List.length_append,Js f (a / 10) hf' (by omega)]
    simp
theorem DB:∀ (f a:Nat),a<10 ^ f->a≠0->(dd f a)[(dd f a).length - 1]?≠some 0
 | 0,a,h,h0=>by simp at h;omega
 | f+1,a,h,h0=>by
   rw[dd,if_neg h0]
   have hf':a / 10<10 ^ f:=by rw[Nat.pow_succ] at h;exact Nat.div_lt_of_lt_mul (by rw[Nat.mul_comm];exact h)
   by_cases h10:a / 10=0
   ·rw[h10]
    have e:dd f 0=[]:=by cases f<;>simp[dd]
    rw[e]
    simp;omega
   ·have ih:=DB f (a / 10) hf' h10
    have hne:1<=(dd f (a / 10)).length:=by
     cases f with
     | zero=>simp at hf';omega
     | succ f=>rw[dd,if_neg h10];simp
    rw[List.length_cons,Nat.add_sub_cancel,show (dd f (a / 10)).length=(dd f (a / 10)).length - 1+1 by omega,List.getElem?_cons_succ]
    exact ih
theorem J6 (sg:Int)(D:List Nat)(hl:D.length<=100)(h:D[D.length - 1]?≠some 0):ag Tryz.prog aq 240 [.agg [.int .i64 sg,.list (D.map lh)]] (.agg [.int .i64 (if D=[] then 0 else sg),.list (D.map lh)]):=by
 refine ag.intro Rc.2 (by simp[Rc]) ?_
 by_cases hD:D=[]
 ·subst hD
  rw[if_pos rfl]
  simp(disch:=try exact dI) only[Rc,push_cast,seval]
  refine az ([]) (fun i:Nat=>[(3,.pv (.int .i64 0))]) (fun _=>[]) (fun i=>i=0) (fun i=>0) (0) ?_;intro e0 σ0 n0 h0;simp(disch:=try exact dI) only[push_cast,seval] at h0;obtain⟨rfl,rfl,rfl⟩:=h0;refine⟨?_,?_,?_⟩
  ·exact qsZ
  ·rfl
  rintro i rfl
  exact qsZ
 ·rw[if_neg hD]
  have hp:0<D.length:=List.length_pos_iff.2 hD
  obtain⟨k,hk⟩:∃ k,D.length=k+1:=⟨D.length - 1,by omega⟩
  obtain⟨x,hx⟩:∃ x,D[k]? = some x:=⟨_,List.getElem?_eq_getElem (by omega)⟩
  rw[hk,Nat.add_sub_cancel] at h
  have hx0:¬ (x:Int)=0:=fun e=>h (by rw[hx,show x=0 by omega])
  have hxp:(D.map lh)[k]? = some (.int .i64 (x:Int)):=by simp[hx,lh]
  have e1:((D.length:Int) - 1)=(k:Int):=by omega
  have hpI:(0:Int)<(D.length:Int):=by omega
  have hnz:¬ (D.length:Int)=0:=by omega
  simp(disch:=try exact dI) only[Rc,push_cast,seval]
  refine az ([]) (fun i:Nat=>[(3,.pv (.int .i64 (D.length:Int)))]) (fun _=>[]) (fun i=>i=0) (fun i=>0) (0) ?_;intro e0 σ0 n0 h0;simp(disch:=try exact dI) only[push_cast,seval] at h0;obtain⟨rfl,rfl,rfl⟩:=h0;refine⟨?_,?_,?_⟩
  ·exact qsZ
  ·rfl
  rintro i rfl
  simp(disch:=try exact dI) only[e1,hxp,List.take_length,push_cast,seval]
theorem HW (sg:Int)(D:List Nat)(i:Nat):ag Tryz.prog aq 192 [.agg [.int .i64 sg,.list (D.map lh)],.int .i64 (i:Int)] (lh (D.getD i 0)):=by
 by_cases hi:i<D.length
 ·obtain⟨x,hx⟩:∃ x,D[i]? = some x:=⟨_,List.getElem?_eq_getElem hi⟩
  have hxp:(D.map lh)[i]? = some (.int .i64 (x:Int)):=by simp[hx,lh]
  have hg:D.getD i 0=x:=by rw[List.getD_eq_getElem?_getD,hx];rfl
  rw[hg]
  refine ag.intro Ny.2 (by simp[Ny]) ?_
  simp(disch:=try exact dI) only[Ny,hxp,lh,push_cast,seval]
 ·have hg:D.getD i 0=0:=by rw[List.getD_eq_getElem?_getD,List.getElem?_eq_none (by omega)];rfl
  rw[hg]
  refine ag.intro Ny.2 (by simp[Ny]) ?_
  simp(disch:=try exact dI) only[Ny,lh,push_cast,seval]
def sgn (n:Int):Int:=if n=0 then 0 else if n<0 then -1 else 1
theorem RP {n:Int}(h1:-999999999999999<=n)(h2:n<=999999999999999):ag Tryz.prog aq 191 [.int .i64 n,.int .i64 0] (.agg [.int .i64 (sgn n),.list ((dd 20 n.natAbs).map lh)]):=by
 have hlt:n.natAbs<10 ^ 20:=by simp;omega
 have hL:=fh 20 n.natAbs
 have hlast:(dd 20 n.natAbs)[(dd 20 n.natAbs).length - 1]?≠some 0:=by
  by_cases h0:n.natAbs=0
  ·rw[h0];simp[dd]
  ·exact DB 20 _ hlt h0
 have ht:=J6 (if n<0 then -1 else 1) (dd 20 n.natAbs) (by omega) hlast
 have hsg:(if dd 20 n.natAbs=[] then (0:Int) else if n<0 then -1 else 1)=sgn n:=by
  unfold sgn
  by_cases h0:n=0
  ·rw[h0];simp[dd]
  ·rw[if_neg h0,if_neg]
   rw[dd,if_neg (by omega)]
   simp
 rw[hsg] at ht
 generalize sgn n=SG at *
 clear hsg hlast hL
 refine ag.intro Rf.2 (by simp[Rf]) ?_
 by_cases hneg:n<0
 ·rw[if_pos hneg] at ht
  have ea:0 - n=(n.natAbs:Int):=by omega
  simp(disch:=try exact dI) only[Rf,push_cast,seval]
  refine az ([(5,2,3,1)]) (fun i:Nat=>[(6,.pv (.int .i64 (i:Int)))]) (fun i=>[(1,.cells 201 true [.pv (.int .i64 (-1)),.olist 2 1 []])]) (fun i=>i=0) (fun i=>0) (0) ?_;intro e0 σ0 n0 h0;simp(disch:=try exact dI) only[push_cast,seval] at h0;obtain⟨rfl,rfl,rfl⟩:=h0;refine⟨?_,?_,?_⟩
  ·exact qsZ
  ·rfl
  rintro i rfl
  simp(disch:=try exact dI) only[ea,push_cast,seval]
  refine az ([]) (fun y:Nat×List Nat=>[(0,.pv (.int .i64 (y.1:Int)))]) (fun y=>[(1,.cells 201 true [.pv (.int .i64 (-1)),.olist 2 1 (y.2.map lh)])]) (fun y=>∃ f,y.1<10 ^ f/\y.1<=999999999999999/\y.2++dd f y.1=dd 20 n.natAbs) (fun y=>y.1) ((n.natAbs,[])) ?_;intro e0 σ0 n0 h0;simp(disch:=try exact dI) only[push_cast,seval] at h0;obtain⟨rfl,rfl,rfl⟩:=h0;refine⟨?_,?_,?_⟩
  ·simp(disch:=try exact dI) only[List.map_nil,ea,push_cast,seval]
  ·exact⟨20,hlt,by simp only;omega,rfl⟩
  rintro⟨r,L⟩ ⟨f,h1,hr,h2⟩
  simp only at h1 h2 hr
  have hLl:L.length<=20:=by
   have g1:=congrArg List.length h2
   have g2:=fh 20 n.natAbs
   rw[List.length_append] at g1
   omega
  by_cases  h0:r=0
  ·subst h0
   have hL:L=dd 20 n.natAbs:=by
    rw[<- h2]
    cases f<;>simp[dd]
   simp(disch:=try exact dI) only[hL,push_cast,seval]
   refine ab.pure ht rfl ?_
   exact qsZ
  ·have h0I:(0:Int)<(r:Int):=by omega
   have q1:=eS (a:=(r:Int)) (b:=10) (by omega)
   have q2:=eD (a:=(r:Int)) (b:=10) (by omega)
   obtain⟨f,rfl⟩:∃ g,f=g+1:=by
    cases f with
    | zero=>simp at h1;omega
    | succ g=>exact⟨g,rfl⟩
   rw[dd,if_neg h0] at h2
   have hf':r / 10<10 ^ f:=by rw[Nat.pow_succ] at h1;exact Nat.div_lt_of_lt_mul (by rw[Nat.mul_comm];exact h1)
   simp(disch:=try exact dI) only[q1,q2,push_cast,seval]
   exact⟨(r / 10,L++[r % 10]),aV (by simp(disch:=try exact dI) only[List.map_append,lh,push_cast,seval]),⟨f,hf',by simp only;omega,by rw[<- h2];simp⟩,by simp only;omega⟩
 ·rw[if_neg hneg] at ht
  have ea:n=(n.natAbs:Int):=by omega
  obtain⟨a,ha⟩:∃ a,a=n.natAbs:=⟨_,rfl⟩
  rw[<- ha] at ht hlt ea ⊢
  subst ea
  simp(disch:=try exact dI) only[Rf,push_cast,seval]
  refine az ([(5,2,3,1)]) (fun i:Nat=>[(6,.pv (.int .i64 (i:Int)))]) (fun i=>[(1,.cells 201 true [.pv (.int .i64 (1)),.olist 2 1 []])]) (fun i=>i=0) (fun i=>0) (0) ?_;intro e0 σ0 n0 h0;simp(disch:=try exact dI) only[push_cast,seval] at h0;obtain⟨rfl,rfl,rfl⟩:=h0;refine⟨?_,?_,?_⟩
  ·exact qsZ
  ·rfl
  rintro i rfl
  refine zgZ ?_
  refine az ([]) (fun y:Nat×List Nat=>[(0,.pv (.int .i64 (y.1:Int)))]) (fun y=>[(1,.cells 201 true [.pv (.int .i64 (1)),.olist 2 1 (y.2.map lh)])]) (fun y=>∃ f,y.1<10 ^ f/\y.1<=999999999999999/\y.2++dd f y.1=dd 20 a) (fun y=>y.1) ((a,[])) ?_;intro e0 σ0 n0 h0;simp(disch:=try exact dI) only[push_cast,seval] at h0;obtain⟨rfl,rfl,rfl⟩:=h0;refine⟨?_,?_,?_⟩
  ·simp(disch:=try exact dI) only[List.map_nil,push_cast,seval]
  ·exact⟨20,hlt,by simp only;omega,rfl⟩
  rintro⟨r,L⟩ ⟨f,h1,hr,h2⟩
  simp only at h1 h2 hr
  have hLl:L.length<=20:=by
   have g1:=congrArg List.length h2
   have g2:=fh 20 a
   rw[List.length_append] at g1
   omega
  by_cases  h0:r=0
  ·subst h0
   have hL:L=dd 20 a:=by
    rw[<- h2]
    cases f<;>simp[dd]
   simp(disch:=try exact dI) only[hL,push_cast,seval]
   refine ab.pure ht rfl ?_
   exact qsZ
  ·have h0I:(0:Int)<(r:Int):=by omega
   have q1:=eS (a:=(r:Int)) (b:=10) (by omega)
   have q2:=eD (a:=(r:Int)) (b:=10) (by omega)
   obtain⟨f,rfl⟩:∃ g,f=g+1:=by
    cases f with
    | zero=>simp at h1;omega
    | succ g=>exact⟨g,rfl⟩
   rw[dd,if_neg h0] at h2
   have hf':r / 10<10 ^ f:=by rw[Nat.pow_succ] at h1;exact Nat.div_lt_of_lt_mul (by rw[Nat.mul_comm];exact h1)
   simp(disch:=try exact dI) only[q1,q2,push_cast,seval]
   exact⟨(r / 10,L++[r % 10]),aV (by simp(disch:=try exact dI) only[List.map_append,lh,push_cast,seval]),⟨f,hf',by simp only;omega,by rw[<- h2];simp⟩,by simp only;omega⟩
def ll (a sc i:Nat):List UInt8:=if i<=sc then aQ i a else aQ (i - sc) (a / 10 ^ sc)++(if sc=0 then [] else 46::aQ sc a)
theorem kb (i a:Nat):aQ (i+1) a=UInt8.ofNat (48+a / 10 ^ i % 10)::aQ i a:=by
 rw[Nat.add_comm,fv 1 i a]
 simp[aQ]
theorem zG (a sc i:Nat):ll a sc (i+1)=UInt8.ofNat (48+a / 10 ^ i % 10)::(if i=sc/\0<i then [46]++ll a sc i else ll a sc i):=by
 by_cases h:i<sc
 ·have e1:ll a sc (i+1)=aQ (i+1) a:=by unfold ll;rw[if_pos (by omega)]
  have e2:ll a sc i=aQ i a:=by unfold ll;rw[if_pos (by omega)]
  rw[e1,e2,kb,if_neg (by omega)]
 ·have e1:ll a sc (i+1)=aQ (i - sc+1) (a / 10 ^ sc)++(if sc=0 then [] else 46::aQ sc a):=by
   unfold ll
   rw[if_neg (show ¬ i+1<=sc by omega),show i+1 - sc=i - sc+1 by omega]
  rw[e1,kb,Nat.div_div_eq_div_mul,<- Nat.pow_add,show sc+(i - sc)=i by omega]
  by_cases he:i=sc
  ·subst he
   have e2:ll a i i=aQ i a:=by unfold ll;rw[if_pos (Nat.le_refl i)]
   rw[e2,Nat.sub_self]
   by_cases h0:i=0
   ·subst h0;simp[aQ]
   ·rw[if_neg h0,if_pos (show i=i/\0<i from⟨rfl,by omega⟩)]
    simp[aQ]
  ·have e2:ll a sc i=aQ (i - sc) (a / 10 ^ sc)++(if sc=0 then [] else 46::aQ sc a):=by unfold ll;rw[if_neg (show ¬ i<=sc by omega)]
   rw[e2,if_neg (show ¬ (i=sc/\0<i) by omega)]
   rfl
theorem uk (n:Int)(sc:Nat):ce n sc=(if n<0 then [45] else [])++ll n.natAbs sc (max (dl n.natAbs) (sc+1)):=by
 have e:ll n.natAbs sc (max (dl n.natAbs) (sc+1))=aQ (max (dl n.natAbs) (sc+1) - sc) (n.natAbs / 10 ^ sc)++(if sc=0 then [] else 46::aQ sc n.natAbs):=by
  unfold ll
  rw[if_neg (show ¬ max (dl n.natAbs) (sc+1)<=sc by omega)]
 rw[e]
 rfl
theorem sW (a sc i:Nat):(ll a sc i).length<=i+1:=by
 unfold ll
 split
 ·rw[aT];omega
 ·split
  ·simp[aT];omega
  ·simp[aT];omega
theorem Sm {a:Nat}(h:a<10 ^ 15)(sc:Nat):max (dd 20 a).length (sc+1)=max (dl a) (sc+1):=by
 have h20:a<10 ^ 20:=Nat.lt_of_lt_of_le h (Nat.pow_le_pow_right (by omega) (by omega))
 by_cases h0:a=0
 ·subst h0
  have e1:(dd 20 0).length=0:=by simp[dd]
  have e2:dl 0=1:=by decide
  omega
 ·rw[Js 20 a h20 h0]
  rfl
theorem Kg {n:Int}{sc:Nat}(hn:IsN n sc):ag Tryz.prog aq 128 [.agg [.int .i64 n,.int .i64 (sc:Int)]] (.str (ce n sc)):=by
 obtain⟨h1,h2,h3⟩:=hn
 have ho:=RP h1 h2
 have hlt:n.natAbs<10 ^ 15:=by simp;omega
 have hlt20:n.natAbs<10 ^ 20:=by simp;omega
 have hdl:=iE hlt
 have hmx:=Sm hlt sc
 have hget:=fun i=>Jt 20 n.natAbs i hlt20
 have hdg:=fun i=>HW (sgn n) (dd 20 n.natAbs) i
 have hDl:=fh 20 n.natAbs
 rw[uk]
 have hstep:=zG n.natAbs sc
 have hlen:=sW n.natAbs sc
 have hx0:ll n.natAbs sc 0=[]:=by simp[ll,aQ]
 obtain⟨K,hK⟩:∃ K,K=max (dl n.natAbs) (sc+1):=⟨_,rfl⟩
 rw[<- hK] at hmx ⊢
 have hmxI:max (((dd 20 n.natAbs).length:Nat):Int) ((sc:Int)+1)=(K:Int):=by omega
 have hK15:K<=15:=by omega
 generalize sgn n=SG at *
 generalize dd 20 n.natAbs=D at *
 obtain⟨T,hT⟩:∃ T,T=ll n.natAbs sc:=⟨_,rfl⟩
 rw[<- hT] at hstep hlen hx0 ⊢
 obtain⟨a,ha⟩:∃ a,a=n.natAbs:=⟨_,rfl⟩
 rw[<- ha] at hget hstep
 clear hT hdl hK hmx hDl ha
 have hlT:=hlen K
 refine ag.intro Tx.2 (by simp[Tx]) ?_
 simp(disch:=try exact dI) only[Tx,push_cast,seval]
 refine ab.pure ho rfl ?_
 refine zgZ ?_
 refine az ([]) (fun i:Nat=>[(4,.pv (.str (T i))),(5,.pv (.int .i64 (i:Int)))]) (fun _=>[]) (fun i=>i<=K) (fun i=>K - i) (0) ?_;intro e0 σ0 n0 h0;simp(disch:=try exact dI) only[push_cast,seval] at h0;obtain⟨rfl,rfl,rfl⟩:=h0;refine⟨?_,?_,?_⟩
 ·simp(disch:=try exact dI) only[hx0,push_cast,seval]
 ·omega
 intro i hi
 have hli:=hlen i
 have hg:=hget i
 have hd:=hdg i
 rw[hg] at hd
 have hs:=hstep i
 by_cases hlti:i<K
 ·have hltI:(i:Int)<(K:Int):=by omega
  have hb:a / 10 ^ i % 10<10:=Nat.mod_lt _ (by omega)
  generalize a / 10 ^ i % 10=x at *
  simp only[lh] at hd
  have hw:IntKind.u8.wrap (48+(x:Int))=48+(x:Int):=by
   unfold IntKind.wrap;simp[IntKind.bits,IntKind.signed];omega
  have hu:(48+(x:Int)).toNat=48+x:=by omega
  by_cases hc:i=sc/\0<i
  ·obtain⟨rfl,hp⟩:=hc
   have hpI:(0:Int)<(i:Int):=by omega
   rw[if_pos ⟨rfl,hp⟩] at hs
   simp(disch:=try exact dI) only[hmxI,push_cast,seval]
   refine ab.pure hd rfl ?_
   simp(disch:=try exact dI) only[hw,push_cast,seval]
   exact⟨i+1,aV (by simp(disch:=try exact dI) only[hs,hu,push_cast,seval]),by omega,by omega⟩
  ·rw[if_neg hc] at hs
   by_cases he:i=sc
   ·have h0:i=0:=Decidable.of_not_not fun h=>hc ⟨he,by omega⟩
    subst he
    have h0I:¬ (0:Int)<(i:Int):=by omega
    simp(disch:=try exact dI) only[hmxI,push_cast,seval]
    refine ab.pure hd rfl ?_
    simp(disch:=try exact dI) only[hw,push_cast,seval]
    exact⟨i+1,aV (by simp(disch:=try exact dI) only[hs,hu,push_cast,seval]),by omega,by omega⟩
   ·have heI:¬ (i:Int)=(sc:Int):=by omega
    simp(disch:=try exact dI) only[hmxI,push_cast,seval]
    refine ab.pure hd rfl ?_
    simp(disch:=try exact dI) only[hw,push_cast,seval]
    exact⟨i+1,aV (by simp(disch:=try exact dI) only[hs,hu,push_cast,seval]),by omega,by omega⟩
 ·have hiK:i=K:=by omega
  subst hiK
  by_cases hneg:n<0
  ·rw[if_pos hneg]
   simp(disch:=try exact dI) only[hmxI,push_cast,seval]
  ·rw[if_neg hneg]
   simp(disch:=try exact dI) only[hmxI,push_cast,seval]
end Go.Proofs.YtbojpfpliibfbaaGreatDoor
namespace Go.Ab
open Go
theorem yW (n:Int)(h0:0<=n):∀ k:Nat,n<dZ ((k:Int)+1)->∃ y:Int,1<=y/\y<=k/\dZ y<=n/\n<dZ (y+1)
 | 0,h=>absurd h (by rw[show dZ (((0:Nat):Int)+1)=0 from rfl];omega)
 | k+1,h=>by
   by_cases hk:dZ ((k:Int)+1)<=n
   ·exact⟨(k:Int)+1,by omega,by omega,hk,by simpa using h⟩
   ·obtain⟨y,a,b,c,d⟩:=yW n h0 k (by omega)
    exact⟨y,a,by omega,c,d⟩
theorem tH (y r:Int)(h0:0<=r):∀ k:Nat,r<dE y k->∃ m:Nat,1<=m/\m<=k/\dE y (m - 1)<=r/\r<dE y m
 | 0,h=>absurd h (by rw[show dE y 0=0 from rfl];omega)
 | k+1,h=>by
   by_cases hk:dE y k<=r
   ·exact⟨k+1,by omega,by omega,hk,h⟩
   ·obtain⟨m,a,b,c,d⟩:=tH y r h0 k (by omega)
    exact⟨m,a,by omega,c,d⟩
theorem Jv {n:Int}(h0:0<=n)(h1:n<=3652058):∃ y m d,DateOk y m d/\n=jg y m d:=by
 have hb:dZ (((9999:Nat):Int)+1)=3652059:=by decide
 obtain⟨y,y1,y2,b1,b2⟩:=yW n h0 9999 (by rw[hb];omega)
 have hs:=nG y
 have h12:=IR y
 obtain⟨m,m1,m2,c1,c2⟩:=tH y (n - dZ y) (by omega) 12 (by omega)
 have hm:dE y m=dE y (m - 1)+mdI y m:=by
  obtain⟨k,rfl⟩:∃ k,m=k+1:=⟨m - 1,by omega⟩
  simp[dE]
 exact⟨y,m,n - dZ y - dE y (m - 1)+1,⟨y1,by simpa using y2,m1,m2,by omega,by omega⟩,by unfold jg;omega⟩
end Go.Ab
namespace Go.Proofs.YtbojpfpliibfbaaGreatDoor
open Go Go.Ab
attribute [local irreducible] vc
end Go.Proofs.YtbojpfpliibfbaaGreatDoor
