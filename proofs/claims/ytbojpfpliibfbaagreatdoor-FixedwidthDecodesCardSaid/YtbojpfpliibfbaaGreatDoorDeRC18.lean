/- A part of the proof. -/
import Derived.Test.YtbojpfpliibfbaaGreatDoorDeRC5
set_option maxRecDepth 100000
set_option linter.unusedVariables false
set_option linter.unusedSimpArgs false
namespace Go.Proofs.YtbojpfpliibfbaaGreatDoor
open Go Go.Ab
attribute [local irreducible] vc
def lB (n:Nat):PV:=.int .i64 (n:Int)
def dd:Nat->Nat->List Nat
 | 0,_=>[]
 | f+1,a=>if a=0 then [] else a % 10::dd f (a / 10)
theorem fg:∀ (f a:Nat),(dd f a).length<=f
 | 0,a=>by simp[dd]
 | f+1,a=>by
   rw[dd]
   split
   ·simp
   ·have:=fg f (a / 10)
    simp;omega
theorem Ii:∀ (f a i:Nat),a<10 ^ f->(dd f a).getD i 0=a / 10 ^ i % 10
 | 0,a,i,h=>by
   have:a=0:=by simpa using h
   subst this
   simp[dd]
 | f+1,a,i,h=>by
   rw[dd]
   by_cases ha:a=0
   ·subst ha;simp
   ·rw[if_neg ha]
    have hf':a / 10<10 ^ f:=by rw[Nat.pow_succ] at h;exact Nat.div_lt_of_lt_mul (by rw[Nat.mul_comm];exact h)
    cases i with
    | zero=>simp
    | succ i=>
      rw[List.getD_cons_succ,Ii f (a / 10) i hf',Nat.div_div_eq_div_mul,Nat.pow_succ,Nat.mul_comm 10]
theorem Ih:∀ (f a:Nat),a<10 ^ f->a≠0->(dd f a).length=(bI f a).length
 | 0,a,h,h0=>by simp at h;omega
 | f+1,a,h,h0=>by
   rw[dd,bI,if_neg h0]
   have hf':a / 10<10 ^ f:=by rw[Nat.pow_succ] at h;exact Nat.div_lt_of_lt_mul (by rw[Nat.mul_comm];exact h)
   by_cases h10:a<10
   ·rw[if_pos h10,show a / 10=0 by omega]
    cases f<;>simp[dd]
   ·rw[if_neg h10,List.length_cons,List.length_append,Ih f (a / 10) hf' (by omega)]
    simp
theorem CJ:∀ (f a:Nat),a<10 ^ f->a≠0->(dd f a)[(dd f a).length - 1]?≠some 0
 | 0,a,h,h0=>by simp at h;omega
 | f+1,a,h,h0=>by
   rw[dd,if_neg h0]
   have hf':a / 10<10 ^ f:=by rw[Nat.pow_succ] at h;exact Nat.div_lt_of_lt_mul (by rw[Nat.mul_comm];exact h)
   by_cases h10:a / 10=0
   ·rw[h10]
    have e:dd f 0=[]:=by cases f<;>simp[dd]
    rw[e]
    simp;omega
   ·have ih:=CJ f (a / 10) hf' h10
    have hne:1<=(dd f (a / 10)).length:=by
     cases f with
     | zero=>simp at hf';omega
     | succ f=>rw[dd,if_neg h10];simp
    rw[List.length_cons,Nat.add_sub_cancel,show (dd f (a / 10)).length=(dd f (a / 10)).length - 1+1 by omega,List.getElem?_cons_succ]
    exact ih
theorem IR (sg:Int)(D:List Nat)(hl:D.length<=100)(h:D[D.length - 1]?≠some 0):ak Tryz.prog ap 240 [.agg [.int .i64 sg,.list (D.map lB)]] (.agg [.int .i64 (if D=[] then 0 else sg),.list (D.map lB)]):=by
 refine ak.intro PU.2 (by simp[PU]) ?_
 by_cases hD:D=[]
 ·subst hD
  rw[if_pos rfl]
  simp(disch:=try exact dI) only[PU,push_cast,seval]
  refine am ([]) (fun i:Nat=>[(3,.pv (.int .i64 0))]) (fun _=>[]) (fun i=>i=0) (fun i=>0) (0) ?_;intro e0 σ0 n0 h0;simp(disch:=try exact dI) only[push_cast,seval] at h0;obtain⟨rfl,rfl,rfl⟩:=h0;refine⟨?_,?_,?_⟩
  ·exact qsZ
  ·rfl
  rintro i rfl
  exact qsZ
 ·rw[if_neg hD]
  have hp:0<D.length:=List.length_pos_iff.2 hD
  obtain⟨k,hk⟩:∃ k,D.length=k+1:=⟨D.length - 1,by omega⟩
  obtain⟨x,hx⟩:∃ x,D[k]? = some x:=⟨_,List.getElem?_eq_getElem (by omega)⟩
  rw[hk,Nat.add_sub_cancel] at h
  have hx0:¬ (x:Int)=0:=fun e=>h (by rw[hx,show x=0 by omega])
  have hxp:(D.map lB)[k]? = some (.int .i64 (x:Int)):=by simp[hx,lB]
  have e1:((D.length:Int) - 1)=(k:Int):=by omega
  have hpI:(0:Int)<(D.length:Int):=by omega
  have hnz:¬ (D.length:Int)=0:=by omega
  simp(disch:=try exact dI) only[PU,push_cast,seval]
  refine am ([]) (fun i:Nat=>[(3,.pv (.int .i64 (D.length:Int)))]) (fun _=>[]) (fun i=>i=0) (fun i=>0) (0) ?_;intro e0 σ0 n0 h0;simp(disch:=try exact dI) only[push_cast,seval] at h0;obtain⟨rfl,rfl,rfl⟩:=h0;refine⟨?_,?_,?_⟩
  ·exact qsZ
  ·rfl
  rintro i rfl
  simp(disch:=try exact dI) only[e1,hxp,List.take_length,push_cast,seval]
theorem GT (sg:Int)(D:List Nat)(i:Nat):ak Tryz.prog ap 192 [.agg [.int .i64 sg,.list (D.map lB)],.int .i64 (i:Int)] (lB (D.getD i 0)):=by
 by_cases hi:i<D.length
 ·obtain⟨x,hx⟩:∃ x,D[i]? = some x:=⟨_,List.getElem?_eq_getElem hi⟩
  have hxp:(D.map lB)[i]? = some (.int .i64 (x:Int)):=by simp[hx,lB]
  have hg:D.getD i 0=x:=by rw[List.getD_eq_getElem?_getD,hx];rfl
  rw[hg]
  refine ak.intro Mi.2 (by simp[Mi]) ?_
  simp(disch:=try exact dI) only[Mi,hxp,lB,push_cast,seval]
 ·have hg:D.getD i 0=0:=by rw[List.getD_eq_getElem?_getD,List.getElem?_eq_none (by omega)];rfl
  rw[hg]
  refine ak.intro Mi.2 (by simp[Mi]) ?_
  simp(disch:=try exact dI) only[Mi,lB,push_cast,seval]
def sgn (n:Int):Int:=if n=0 then 0 else if n<0 then -1 else 1
theorem Qz {n:Int}(h1:-999999999999999<=n)(h2:n<=999999999999999):ak Tryz.prog ap 191 [.int .i64 n,.int .i64 0] (.agg [.int .i64 (sgn n),.list ((dd 20 n.natAbs).map lB)]):=by
 have hlt:n.natAbs<10 ^ 20:=by simp;omega
 have hL:=fg 20 n.natAbs
 have hlast:(dd 20 n.natAbs)[(dd 20 n.natAbs).length - 1]?≠some 0:=by
  by_cases h0:n.natAbs=0
  ·rw[h0];simp[dd]
  ·exact CJ 20 _ hlt h0
 have ht:=IR (if n<0 then -1 else 1) (dd 20 n.natAbs) (by omega) hlast
 have hsg:(if dd 20 n.natAbs=[] then (0:Int) else if n<0 then -1 else 1)=sgn n:=by
  unfold sgn
  by_cases h0:n=0
  ·rw[h0];simp[dd]
  ·rw[if_neg h0,if_neg]
   rw[dd,if_neg (by omega)]
   simp
 rw[hsg] at ht
 generalize sgn n=SG at *
 clear hsg hlast hL
 refine ak.intro PX.2 (by simp[PX]) ?_
 by_cases hneg:n<0
 ·rw[if_pos hneg] at ht
  have ea:0 - n=(n.natAbs:Int):=by omega
  simp(disch:=try exact dI) only[PX,push_cast,seval]
  refine am ([(5,2,3,1)]) (fun i:Nat=>[(6,.pv (.int .i64 (i:Int)))]) (fun i=>[(1,.cells 201 true [.pv (.int .i64 (-1)),.olist 2 1 []])]) (fun i=>i=0) (fun i=>0) (0) ?_;intro e0 σ0 n0 h0;simp(disch:=try exact dI) only[push_cast,seval] at h0;obtain⟨rfl,rfl,rfl⟩:=h0;refine⟨?_,?_,?_⟩
  ·exact qsZ
  ·rfl
  rintro i rfl
  simp(disch:=try exact dI) only[ea,push_cast,seval]
  refine am ([]) (fun y:Nat×List Nat=>[(0,.pv (.int .i64 (y.1:Int)))]) (fun y=>[(1,.cells 201 true [.pv (.int .i64 (-1)),.olist 2 1 (y.2.map lB)])]) (fun y=>∃ f,y.1<10 ^ f/\y.1<=999999999999999/\y.2++dd f y.1=dd 20 n.natAbs) (fun y=>y.1) ((n.natAbs,[])) ?_;intro e0 σ0 n0 h0;simp(disch:=try exact dI) only[push_cast,seval] at h0;obtain⟨rfl,rfl,rfl⟩:=h0;refine⟨?_,?_,?_⟩
  ·simp(disch:=try exact dI) only[List.map_nil,ea,push_cast,seval]
  ·exact⟨20,hlt,by simp only;omega,rfl⟩
  rintro⟨r,L⟩ ⟨f,h1,hr,h2⟩
  simp only at h1 h2 hr
  have hLl:L.length<=20:=by
   have g1:=congrArg List.length h2
   have g2:=fg 20 n.natAbs
   rw[List.length_append] at g1
   omega
  by_cases  h0:r=0
  ·subst h0
   have hL:L=dd 20 n.natAbs:=by
    rw[<- h2]
    cases f<;>simp[dd]
   simp(disch:=try exact dI) only[hL,push_cast,seval]
   refine ab.pure ht rfl ?_
   exact qsZ
  ·have h0I:(0:Int)<(r:Int):=by omega
   have q1:=gv (a:=(r:Int)) (b:=10) (by omega)
   have q2:=fI (a:=(r:Int)) (b:=10) (by omega)
   obtain⟨f,rfl⟩:∃ g,f=g+1:=by
    cases f with
    | zero=>simp at h1;omega
    | succ g=>exact⟨g,rfl⟩
   rw[dd,if_neg h0] at h2
   have hf':r / 10<10 ^ f:=by rw[Nat.pow_succ] at h1;exact Nat.div_lt_of_lt_mul (by rw[Nat.mul_comm];exact h1)
   simp(disch:=try exact dI) only[q1,q2,push_cast,seval]
   exact⟨(r / 10,L++[r % 10]),aI (by simp(disch:=try exact dI) only[List.map_append,lB,push_cast,seval]),⟨f,hf',by simp only;omega,by rw[<- h2];simp⟩,by simp only;omega⟩
 ·rw[if_neg hneg] at ht
  have ea:n=(n.natAbs:Int):=by omega
  obtain⟨a,ha⟩:∃ a,a=n.natAbs:=⟨_,rfl⟩
  rw[<- ha] at ht hlt ea ⊢
  subst ea
  simp(disch:=try exact dI) only[PX,push_cast,seval]
  refine am ([(5,2,3,1)]) (fun i:Nat=>[(6,.pv (.int .i64 (i:Int)))]) (fun i=>[(1,.cells 201 true [.pv (.int .i64 (1)),.olist 2 1 []])]) (fun i=>i=0) (fun i=>0) (0) ?_;intro e0 σ0 n0 h0;simp(disch:=try exact dI) only[push_cast,seval] at h0;obtain⟨rfl,rfl,rfl⟩:=h0;refine⟨?_,?_,?_⟩
  ·exact qsZ
  ·rfl
  rintro i rfl
  refine zgZ ?_
  refine am ([]) (fun y:Nat×List Nat=>[(0,.pv (.int .i64 (y.1:Int)))]) (fun y=>[(1,.cells 201 true [.pv (.int .i64 (1)),.olist 2 1 (y.2.map lB)])]) (fun y=>∃ f,y.1<10 ^ f/\y.1<=999999999999999/\y.2++dd f y.1=dd 20 a) (fun y=>y.1) ((a,[])) ?_;intro e0 σ0 n0 h0;simp(disch:=try exact dI) only[push_cast,seval] at h0;obtain⟨rfl,rfl,rfl⟩:=h0;refine⟨?_,?_,?_⟩
  ·simp(disch:=try exact dI) only[List.map_nil,push_cast,seval]
  ·exact⟨20,hlt,by simp only;omega,rfl⟩
  rintro⟨r,L⟩ ⟨f,h1,hr,h2⟩
  simp only at h1 h2 hr
  have hLl:L.length<=20:=by
   have g1:=congrArg List.length h2
   have g2:=fg 20 a
   rw[List.length_append] at g1
   omega
  by_cases  h0:r=0
  ·subst h0
   have hL:L=dd 20 a:=by
    rw[<- h2]
    cases f<;>simp[dd]
   simp(disch:=try exact dI) only[hL,push_cast,seval]
   refine ab.pure ht rfl ?_
   exact qsZ
  ·have h0I:(0:Int)<(r:Int):=by omega
   have q1:=gv (a:=(r:Int)) (b:=10) (by omega)
   have q2:=fI (a:=(r:Int)) (b:=10) (by omega)
   obtain⟨f,rfl⟩:∃ g,f=g+1:=by
    cases f with
    | zero=>simp at h1;omega
    | succ g=>exact⟨g,rfl⟩
   rw[dd,if_neg h0] at h2
   have hf':r / 10<10 ^ f:=by rw[Nat.pow_succ] at h1;exact Nat.div_lt_of_lt_mul (by rw[Nat.mul_comm];exact h1)
   simp(disch:=try exact dI) only[q1,q2,push_cast,seval]
   exact⟨(r / 10,L++[r % 10]),aI (by simp(disch:=try exact dI) only[List.map_append,lB,push_cast,seval]),⟨f,hf',by simp only;omega,by rw[<- h2];simp⟩,by simp only;omega⟩
theorem NO (n:Int)(sc:Nat):ak Tryz.prog ap 173 [.agg [.int .i64 n,.int .i64 (sc:Int)]] (.bool (decide (IsN n sc))):=by
 by_cases h1:-999999999999999<=n
 ·by_cases h2:n<=999999999999999
  ·by_cases h3:(sc:Int)<=12
   ·rw[decide_eq_true (show IsN n sc from⟨h1,h2,by omega⟩)]
    have h0:(0:Int)<=(sc:Int):=by omega
    refine ak.intro yo.2 (by simp[yo]) ?_
    simp(disch:=try exact dI) only[yo,push_cast,seval]
   ·rw[decide_eq_false (show ¬ IsN n sc from fun h=>h3 (by have:=h.2.2;omega))]
    have h0:(0:Int)<=(sc:Int):=by omega
    refine ak.intro yo.2 (by simp[yo]) ?_
    simp(disch:=try exact dI) only[yo,push_cast,seval]
  ·rw[decide_eq_false (show ¬ IsN n sc from fun h=>h2 h.2.1)]
   refine ak.intro yo.2 (by simp[yo]) ?_
   simp(disch:=try exact dI) only[yo,push_cast,seval]
 ·rw[decide_eq_false (show ¬ IsN n sc from fun h=>h1 h.1)]
  refine ak.intro yo.2 (by simp[yo]) ?_
  simp(disch:=try exact dI) only[yo,push_cast,seval]
def lD (a sc i:Nat):List UInt8:=if i<=sc then bn i a else bn (i - sc) (a / 10 ^ sc)++(if sc=0 then [] else 46::bn sc a)
theorem ko (i a:Nat):bn (i+1) a=UInt8.ofNat (48+a / 10 ^ i % 10)::bn i a:=by
 rw[Nat.add_comm,fq 1 i a]
 simp[bn]
theorem yR (a sc i:Nat):lD a sc (i+1)=UInt8.ofNat (48+a / 10 ^ i % 10)::(if i=sc/\0<i then [46]++lD a sc i else lD a sc i):=by
 by_cases h:i<sc
 ·have e1:lD a sc (i+1)=bn (i+1) a:=by unfold lD;rw[if_pos (by omega)]
  have e2:lD a sc i=bn i a:=by unfold lD;rw[if_pos (by omega)]
  rw[e1,e2,ko,if_neg (by omega)]
 ·have e1:lD a sc (i+1)=bn (i - sc+1) (a / 10 ^ sc)++(if sc=0 then [] else 46::bn sc a):=by
   unfold lD
   rw[if_neg (show ¬ i+1<=sc by omega),show i+1 - sc=i - sc+1 by omega]
  rw[e1,ko,Nat.div_div_eq_div_mul,<- Nat.pow_add,show sc+(i - sc)=i by omega]
  by_cases he:i=sc
  ·subst he
   have e2:lD a i i=bn i a:=by unfold lD;rw[if_pos (Nat.le_refl i)]
   rw[e2,Nat.sub_self]
   by_cases h0:i=0
   ·subst h0;simp[bn]
   ·rw[if_neg h0,if_pos (show i=i/\0<i from⟨rfl,by omega⟩)]
    simp[bn]
  ·have e2:lD a sc i=bn (i - sc) (a / 10 ^ sc)++(if sc=0 then [] else 46::bn sc a):=by unfold lD;rw[if_neg (show ¬ i<=sc by omega)]
   rw[e2,if_neg (show ¬ (i=sc/\0<i) by omega)]
   rfl
theorem un (n:Int)(sc:Nat):ew n sc=(if n<0 then [45] else [])++lD n.natAbs sc (max (dl n.natAbs) (sc+1)):=by
 have e:lD n.natAbs sc (max (dl n.natAbs) (sc+1))=bn (max (dl n.natAbs) (sc+1) - sc) (n.natAbs / 10 ^ sc)++(if sc=0 then [] else 46::bn sc n.natAbs):=by
  unfold lD
  rw[if_neg (show ¬ max (dl n.natAbs) (sc+1)<=sc by omega)]
 rw[e]
 rfl
theorem sG (a sc i:Nat):(lD a sc i).length<=i+1:=by
 unfold lD
 split
 ·rw[cS];omega
 ·split
  ·simp[cS];omega
  ·simp[cS];omega
theorem Q9 {a:Nat}(h:a<10 ^ 15)(sc:Nat):max (dd 20 a).length (sc+1)=max (dl a) (sc+1):=by
 have h20:a<10 ^ 20:=Nat.lt_of_lt_of_le h (Nat.pow_le_pow_right (by omega) (by omega))
 by_cases h0:a=0
 ·subst h0
  have e1:(dd 20 0).length=0:=by simp[dd]
  have e2:dl 0=1:=by decide
  omega
 ·rw[Ih 20 a h20 h0]
  rfl
theorem qI {n:Int}{sc:Nat}(hn:IsN n sc):ak Tryz.prog ap 128 [.agg [.int .i64 n,.int .i64 (sc:Int)]] (.str (ew n sc)):=by
 obtain⟨h1,h2,h3⟩:=hn
 have ho:=Qz h1 h2
 have hlt:n.natAbs<10 ^ 15:=by simp;omega
 have hlt20:n.natAbs<10 ^ 20:=by simp;omega
 have hdl:=lc hlt
 have hmx:=Q9 hlt sc
 have hget:=fun i=>Ii 20 n.natAbs i hlt20
 have hdg:=fun i=>GT (sgn n) (dd 20 n.natAbs) i
 have hDl:=fg 20 n.natAbs
 rw[un]
 have hstep:=yR n.natAbs sc
 have hlen:=sG n.natAbs sc
 have hx0:lD n.natAbs sc 0=[]:=by simp[lD,bn]
 obtain⟨K,hK⟩:∃ K,K=max (dl n.natAbs) (sc+1):=⟨_,rfl⟩
 rw[<- hK] at hmx ⊢
 have hmxI:max (((dd 20 n.natAbs).length:Nat):Int) ((sc:Int)+1)=(K:Int):=by omega
 have hK15:K<=15:=by omega
 generalize sgn n=SG at *
 generalize dd 20 n.natAbs=D at *
 obtain⟨T,hT⟩:∃ T,T=lD n.natAbs sc:=⟨_,rfl⟩
 rw[<- hT] at hstep hlen hx0 ⊢
 obtain⟨a,ha⟩:∃ a,a=n.natAbs:=⟨_,rfl⟩
 rw[<- ha] at hget hstep
 clear hT hdl hK hmx hDl ha
 have hlT:=hlen K
 refine ak.intro Sf.2 (by simp[Sf]) ?_
 simp(disch:=try exact dI) only[Sf,push_cast,seval]
 refine ab.pure ho rfl ?_
 refine zgZ ?_
 refine am ([]) (fun i:Nat=>[(4,.pv (.str (T i))),(5,.pv (.int .i64 (i:Int)))]) (fun _=>[]) (fun i=>i<=K) (fun i=>K - i) (0) ?_;intro e0 σ0 n0 h0;simp(disch:=try exact dI) only[push_cast,seval] at h0;obtain⟨rfl,rfl,rfl⟩:=h0;refine⟨?_,?_,?_⟩
 ·simp(disch:=try exact dI) only[hx0,push_cast,seval]
 ·omega
 intro i hi
 have hli:=hlen i
 have hg:=hget i
 have hd:=hdg i
 rw[hg] at hd
 have hs:=hstep i
 by_cases hlti:i<K
 ·have hltI:(i:Int)<(K:Int):=by omega
  have hb:a / 10 ^ i % 10<10:=Nat.mod_lt _ (by omega)
  generalize a / 10 ^ i % 10=x at *
  simp only[lB] at hd
  have hw:IntKind.u8.wrap (48+(x:Int))=48+(x:Int):=by
   unfold IntKind.wrap;simp[IntKind.bits,IntKind.signed];omega
  have hu:(48+(x:Int)).toNat=48+x:=by omega
  by_cases hc:i=sc/\0<i
  ·obtain⟨rfl,hp⟩:=hc
   have hpI:(0:Int)<(i:Int):=by omega
   rw[if_pos ⟨rfl,hp⟩] at hs
   simp(disch:=try exact dI) only[hmxI,push_cast,seval]
   refine ab.pure hd rfl ?_
   simp(disch:=try exact dI) only[hw,push_cast,seval]
   exact⟨i+1,aI (by simp(disch:=try exact dI) only[hs,hu,push_cast,seval]),by omega,by omega⟩
  ·rw[if_neg hc] at hs
   by_cases he:i=sc
   ·have h0:i=0:=Decidable.of_not_not fun h=>hc ⟨he,by omega⟩
    subst he
    have h0I:¬ (0:Int)<(i:Int):=by omega
    simp(disch:=try exact dI) only[hmxI,push_cast,seval]
    refine ab.pure hd rfl ?_
    simp(disch:=try exact dI) only[hw,push_cast,seval]
    exact⟨i+1,aI (by simp(disch:=try exact dI) only[hs,hu,push_cast,seval]),by omega,by omega⟩
   ·have heI:¬ (i:Int)=(sc:Int):=by omega
    simp(disch:=try exact dI) only[hmxI,push_cast,seval]
    refine ab.pure hd rfl ?_
    simp(disch:=try exact dI) only[hw,push_cast,seval]
    exact⟨i+1,aI (by simp(disch:=try exact dI) only[hs,hu,push_cast,seval]),by omega,by omega⟩
 ·have hiK:i=K:=by omega
  subst hiK
  by_cases hneg:n<0
  ·rw[if_pos hneg]
   simp(disch:=try exact dI) only[hmxI,push_cast,seval]
  ·rw[if_neg hneg]
   simp(disch:=try exact dI) only[hmxI,push_cast,seval]
end Go.Proofs.YtbojpfpliibfbaaGreatDoor
namespace Go.Ab
open Go
end Go.Ab
namespace Go.Proofs.YtbojpfpliibfbaaGreatDoor
open Go Go.Ab
attribute [local irreducible] vc
theorem BG (l:List TFd)(g:Nat)(cs:List PV)(q:TFd->Bool)(hq:∀ x∈l,ak Tryz.prog ap g (x.pv::cs) (.bool (q x)))(hl:l.length<=9000000000000) :
  ak Tryz.prog ap 193 [.list (l.map TFd.pv),.clo g [] cs] (.int .i64 (dt q l 0)):=by
 refine ak.intro Mh.2 (by simp[Mh]) ?_
 simp(disch:=try exact dI) only[Mh,push_cast,seval]
 refine am ([]) (fun m:Nat=>[(8,.pv (.int .i64 (m:Int)))]) (fun m=>[]) (fun m=>m<=l.length/\dt q l 0=dt q (l.drop m) m) (fun m=>l.length - m) (0) ?_;intro e0 σ0 n0 h0;simp(disch:=try exact dI) only[push_cast,seval] at h0;obtain⟨rfl,rfl,rfl⟩:=h0;refine⟨?_,?_,?_⟩
 ·exact qsZ
 ·exact⟨by omega,by simp⟩
 ·rintro m ⟨hm,he⟩
  by_cases hlt:m<l.length
  ·have hltI:(m:Int)<l.length:=by omega
   obtain⟨x,hx⟩:∃ x,l[m]? = some x:=⟨_,List.getElem?_eq_getElem hlt⟩
   have hcall:=hq x (List.mem_of_getElem? hx)
   simp(disch:=try exact dI) only[hx,TFd.cells_len,TFd.isAgg,push_cast,seval]
   refine ab.pure hcall (by exact tf (x.pv::cs)) ?_
   cases hqx:q x with
   | true=>
     rw[he,di hx hqx]
     exact qsZ
   | false=>
     rw[b9 hx hqx] at he
     refine zgZ ?_
     exact⟨m+1,aI qsZ,⟨by omega,he⟩,by omega⟩
  ·have hltI:¬ (m:Int)<l.length:=by omega
   rw[he,dj hlt]
   exact qsZ
theorem mL (l:List TFd)(g:Nat)(cs:List PV)(q:TFd->Bool)(hq:∀ x∈l,ak Tryz.prog ap g (x.pv::cs) (.bool (q x)))(hl:l.length<=9000000000000) :
  ak Tryz.prog ap 129 [.list (l.map TFd.pv),.clo g [] cs] (.bool (l.any q)):=by
 have h94:=BG l g cs q hq hl
 have hfa:=dz (p:=q) l
 refine ak.intro Iw.2 (by simp[Iw]) ?_
 rcases bp (p:=q) l 0 with ⟨h1,h2⟩ | ⟨k,x,h1,h2,h3⟩
 ·rw[h2] at h94
  rw[h1] at hfa
  rw[<- hfa]
  simp(disch:=try exact dI) only[Iw,push_cast,seval]
  refine ab.pure h94 rfl ?_
  refine zgZ ?_
  exact .refl _
 ·rw[h3] at h94
  rw[h2] at hfa
  rw[<- hfa]
  have hk:(0:Int)<=((0+k:Nat):Int):=by omega
  generalize ((0+k:Nat):Int)=z at *
  simp(disch:=try exact dI) only[Iw,push_cast,seval]
  refine ab.pure h94 rfl ?_
  refine zgZ ?_
  exact .refl _
def jm (f:TFd):Bool:=decide (f.typ.kind<1)||decide (7<f.typ.kind)
theorem Ob (f:TFd):ak Tryz.prog ap 130 [f.pv] (.bool (jm f)):=by
 obtain⟨a,b,c,⟨k,m,n,s,w,e,fs⟩,d⟩:=f
 refine ak.intro Py.2 (by simp[Py]) ?_
 simp only[jm,TFd.typ,Typ.kind]
 by_cases h1:k<1
 ·simp(disch:=try exact dI) only[Py,TFd.pv_mk,Typ.pv_mk,push_cast,seval]
  simp[h1]
 ·by_cases h2:7<k
  ·simp(disch:=try exact dI) only[Py,TFd.pv_mk,Typ.pv_mk,push_cast,seval]
   simp[h1,h2]
  ·simp(disch:=try exact dI) only[Py,TFd.pv_mk,Typ.pv_mk,push_cast,seval]
   simp[h1,h2]
def dW:Typ->Bool
 | .mk k _ _ _ _ _ f=>decide (k=9)&&(decide (0<f.length)&&!(f.any jm))
theorem NT (t:Typ)(h:t.fields.length<=9000000000000):ak Tryz.prog ap 74 [t.pv] (.bool (dW t)):=by
 obtain⟨k,m,n,s,w,e,f⟩:=t
 simp only[Typ.fields] at h
 have h64:=mL f 130 [] jm (fun x _=>Ob x) (by omega)
 refine ak.intro Q74.2 (by simp[Q74]) ?_
 simp only[dW]
 by_cases h1:k=9
 ·by_cases h2:0<f.length
  ·have h2I:(0:Int)<f.length:=by omega
   simp(disch:=try exact dI) only[Q74,Typ.pv_mk,h1,push_cast,seval]
   refine ab.pure h64 rfl ?_
   exact qsZ
  ·have h2I:¬ (0:Int)<f.length:=by omega
   simp(disch:=try exact dI) only[Q74,Typ.pv_mk,h1,push_cast,seval]
 ·simp(disch:=try exact dI) only[Q74,Typ.pv_mk,h1,push_cast,seval]
def ye (s:List UInt8):Bool:=decide (s[s.length - 1]? = some 32)
def rO (c:UInt8):Bool:=decide (c.toNat<32)
def wrB (s:List UInt8):Bool:=!ye s&&!(s.any rO)
theorem Cx {s:List UInt8}{c:UInt8}(h:s[s.length - 1]? = some c):s.drop (s.length - 1)=[c]:=by
 have hi:=(List.getElem?_eq_some_iff.1 h).1
 have he:s[s.length - 1]=c:=(List.getElem?_eq_some_iff.1 h).2
 rw[List.drop_eq_getElem_cons hi,he,List.drop_of_length_le (by omega)]
theorem y9 (s:List UInt8)(hs:s.length<=140737488351232):ak Tryz.prog ap 132 [.str s,.str [32]] (.bool (ye s)):=by
 by_cases h0:s=[]
 ·subst h0
  rw[show ye []=false from rfl]
  refine ak.intro LG.2 (by simp[LG]) ?_
  simp(disch:=try exact dI) only[LG,push_cast,seval]
 ·have hp:0<s.length:=List.length_pos_iff.2 h0
  obtain⟨c,hc⟩:∃ c,s[s.length - 1]? = some c:=⟨_,List.getElem?_eq_getElem (by omega)⟩
  have hd:=Cx hc
  have h1:(1:Int)<=(s.length:Int):=by omega
  have et:((s.length:Int) - 1).toNat=s.length - 1:=by omega
  have hEq:ye s=decide (c=32):=by unfold ye;rw[hc];simp
  rw[hEq]
  refine ak.intro LG.2 (by simp[LG]) ?_
  by_cases h:c=32
  ·subst h
   rw[decide_eq_true rfl]
   simp(disch:=try exact dI) only[LG,h1,et,hd,List.take_length,push_cast,seval]
  ·rw[decide_eq_false h]
   have hne:¬ [c]=([32]:List UInt8):=by simpa using h
   simp(disch:=try exact dI) only[LG,h1,et,hd,List.take_length,hne,push_cast,seval]
theorem Eo (s:List UInt8)(hs:s.length<=140737488351232):ak Tryz.prog ap 77 [.str s,.str [32]] (.bool (ye s)):=by
 have h:=y9 s hs
 generalize ye s=b at *
 refine ak.intro Q77.2 (by simp[Q77]) ?_
 simp(disch:=try exact dI) only[Q77,push_cast,seval]
 refine ab.pure h rfl ?_
 exact qsZ
theorem QD (c:UInt8):ak Tryz.prog ap 79 [.int .u8 (c.toNat:Int)] (.bool (rO c)):=by
 unfold rO
 refine ak.intro Q79.2 (by simp[Q79]) ?_
 by_cases h:c.toNat<32
 ·have hI:(c.toNat:Int)<32:=by omega
  rw[decide_eq_true h]
  simp(disch:=try exact dI) only[Q79,hI,push_cast,seval]
 ·have hI:¬ (c.toNat:Int)<32:=by omega
  rw[decide_eq_false h]
  simp(disch:=try exact dI) only[Q79,hI,push_cast,seval]
theorem Di (s:List UInt8):(aH s).length=s.length:=by simp[aH]
theorem G7 {s:List UInt8}{i:Nat}{c:UInt8}(h:s[i]? = some c):(aH s)[i]? = some (.int .u8 (c.toNat:Int)):=by simp[aH,h]
theorem Gf (s:List UInt8)(hs:s.length<=140737488351232):ak Tryz.prog ap 133 [.list (aH s),.clo 79 [] []] (.int .i64 (dt rO s 0)):=by
 refine ak.intro Sc.2 (by simp[Sc]) ?_
 simp(disch:=try exact dI) only[Sc,Di,push_cast,seval]
 refine am ([]) (fun m:Nat=>[(8,.pv (.int .i64 (m:Int)))]) (fun m=>[]) (fun m=>m<=s.length/\dt rO s 0=dt rO (s.drop m) m) (fun m=>s.length - m) (0) ?_;intro e0 σ0 n0 h0;simp(disch:=try exact dI) only[push_cast,seval] at h0;obtain⟨rfl,rfl,rfl⟩:=h0;refine⟨?_,?_,?_⟩
 ·exact qsZ
 ·exact⟨by omega,by simp⟩
 ·rintro m ⟨hm,he⟩
  by_cases hlt:m<s.length
  ·have hltI:(m:Int)<s.length:=by omega
   obtain⟨x,hx⟩:∃ x,s[m]? = some x:=⟨_,List.getElem?_eq_getElem hlt⟩
   have hcall:=QD x
   have hx':=G7 hx
   simp(disch:=try exact dI) only[hx',push_cast,seval]
   refine ab.pure hcall rfl ?_
   cases hqx:rO x with
   | true=>
     rw[he,di hx hqx]
     exact qsZ
   | false=>
     rw[b9 hx hqx] at he
     refine zgZ ?_
     exact⟨m+1,aI qsZ,⟨by omega,he⟩,by omega⟩
  ·have hltI:¬ (m:Int)<s.length:=by omega
   rw[he,dj hlt]
   exact qsZ
theorem xy (s:List UInt8)(hs:s.length<=140737488351232):ak Tryz.prog ap 78 [.list (aH s),.clo 79 [] []] (.bool (s.any rO)):=by
 have h94:=Gf s hs
 have hfa:=dz (p:=rO) s
 refine ak.intro Q78.2 (by simp[Q78]) ?_
 rcases bp (p:=rO) s 0 with ⟨h1,h2⟩ | ⟨k,x,h1,h2,h3⟩
 ·rw[h2] at h94
  rw[h1] at hfa
  rw[<- hfa]
  simp(disch:=try exact dI) only[Q78,push_cast,seval]
  refine ab.pure h94 rfl ?_
  refine zgZ ?_
  rfl
 ·rw[h3] at h94
  rw[h2] at hfa
  rw[<- hfa]
  have hk:(0:Int)<=((0+k:Nat):Int):=by omega
  generalize ((0+k:Nat):Int)=z at *
  simp(disch:=try exact dI) only[Q78,push_cast,seval]
  refine ab.pure h94 rfl ?_
  refine zgZ ?_
  rfl
theorem qy (e:List (Nat×AV))(σ:List (Nat×Blk))(new:Nat)(x:AX):DO e σ new (.ofStr x)=fL new (evE e x):=_root_.id rfl
theorem vO (new:Nat){k:List UInt8}(h:k.length<=140737488355328):fL new (.pv (.str k))=some (.pv (.list (aH k)),[(new,.none)]):=by simp[fL,h]
theorem od (s:List UInt8)(hs:s.length<=140737488351232):ak Tryz.prog ap 39 [.str s] (.bool (wrB s)):=by
 have h66:=Eo s hs
 have h67:=xy s hs
 unfold wrB
 have hof:=fun new=>vO new (k:=s) (by omega)
 generalize ye s=a at *
 generalize s.any rO=b at *
 refine ak.intro Q39.2 (by simp[Q39]) ?_
 simp(disch:=try exact dI) only[Q39,push_cast,seval]
 refine ab.pure h66 rfl ?_
 cases a with
 | true=>simp(disch:=try exact dI) only[push_cast,seval]
 | false=>
   simp(disch:=try exact dI) only[qy,hof,push_cast,seval]
   refine ab.pure h67 rfl ?_
   exact qsZ
def SL:List UInt8:=[48,49,50,51,52,53,54,55,56,57,97,98,99,100,101,102]
def hxB (n:Nat):UInt8:=SL.getD n 0
def hx2 (c:UInt8):List UInt8:=[hxB (c.toNat / 16),hxB (c.toNat % 16)]
theorem EI (k:Int):ak Tryz.prog ap 101 [.int .i64 k] (.bool (decide (k=2\/k=3))):=by
 refine ak.intro PA.2 (by simp[PA]) ?_
 by_cases h2:k=2
 ·subst h2
  rw[decide_eq_true (.inl rfl)]
  simp(disch:=try exact dI) only[PA,push_cast,seval]
 ·by_cases h3:k=3
  ·subst h3
   rw[decide_eq_true (.inr rfl)]
   simp(disch:=try exact dI) only[PA,push_cast,seval]
  ·rw[decide_eq_false (fun h=>h.elim h2 h3)]
   simp(disch:=try exact dI) only[PA,h2,h3,push_cast,seval]
end Go.Proofs.YtbojpfpliibfbaaGreatDoor
