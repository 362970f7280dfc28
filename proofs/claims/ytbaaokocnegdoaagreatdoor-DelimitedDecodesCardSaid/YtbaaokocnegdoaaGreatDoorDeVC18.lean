/- A part of the proof. -/
import Derived.Test.YtbaaokocnegdoaaGreatDoorDeVC13
set_option linter.unusedVariables false
set_option linter.unusedSimpArgs false
set_option maxHeartbeats 16000000
set_option maxRecDepth 100000
namespace Go.Proofs.YtbaaokocnegdoaaGreatDoor
open Go Go.Ab
attribute [local irreducible] vc
def dd:Nat->Nat->List Nat
 | 0,_=>[]
 | f+1,a=>if a=0 then [] else a % 10::dd f (a / 10)
theorem fx:∀ (f a:Nat),(dd f a).length<=f
 | 0,a=>by simp[dd]
 | f+1,a=>by
   rw[dd]
   split
   ·simp
   ·have:=fx f (a / 10)
    simp;omega
theorem KM:∀ (f a i:Nat),a<10 ^ f->(dd f a).getD i 0=a / 10 ^ i % 10
 | 0,a,i,h=>by
   have:a=0:=by simpa using h
   subst this
   simp[dd]
 | f+1,a,i,h=>by
   rw[dd]
   by_cases ha:a=0
   ·subst ha;simp
   ·rw[if_neg ha]
    have hf':a / 10<10 ^ f:=by rw[Nat.pow_succ] at h;exact Nat.div_lt_of_lt_mul (by rw[Nat.mul_comm];exact h)
    cases i with
    | zero=>simp
    | succ i=>
      rw[List.getD_cons_succ,KM f (a / 10) i hf',Nat.div_div_eq_div_mul,Nat.pow_succ,Nat.mul_comm 10]
theorem KL:∀ (f a:Nat),a<10 ^ f->a≠0->(dd f a).length=(bP f a).length
 | 0,a,h,h0=>by simp at h;omega
 | f+1,a,h,h0=>by
   rw[dd,bP,if_neg h0]
   have hf':a / 10<10 ^ f:=by rw[Nat.pow_succ] at h;exact Nat.div_lt_of_lt_mul (by rw[Nat.mul_comm];exact h)
   by_cases h10:a<10
   ·rw[if_pos h10,show a / 10=0 by omega]
    cases f<;>simp[dd]
   ·rw[if_neg h10,List.length_cons,List.length_append,KL f (a / 10) hf' (by omega)]
    simp
theorem EF:∀ (f a:Nat),a<10 ^ f->a≠0->(dd f a)[(dd f a).length - 1]?≠some 0
 | 0,a,h,h0=>by simp at h;omega
 | f+1,a,h,h0=>by
   rw[dd,if_neg h0]
   have hf':a / 10<10 ^ f:=by rw[Nat.pow_succ] at h;exact Nat.div_lt_of_lt_mul (by rw[Nat.mul_comm];exact h)
   by_cases h10:a / 10=0
   ·rw[h10]
    have e:dd f 0=[]:=by cases f<;>simp[dd]
    rw[e]
    simp;omega
   ·have ih:=EF f (a / 10) hf' h10
    have hne:1<=(dd f (a / 10)).length:=by
     cases f with
     | zero=>simp at hf';omega
     | succ f=>rw[dd,if_neg h10];simp
    rw[List.length_cons,Nat.add_sub_cancel,show (dd f (a / 10)).length=(dd f (a / 10)).length - 1+1 by omega,List.getElem?_cons_succ]
    exact ih
theorem Lq (sg:Int)(D:List Nat)(hl:D.length<=100)(h:D[D.length - 1]?≠some 0):ak Tryz.prog aq 208 [.agg [.int .i64 sg,.list (D.map fO)]] (.agg [.int .i64 (if D=[] then 0 else sg),.list (D.map fO)]):=by
 refine ak.intro Sh.2 (by simp[Sh]) ?_
 by_cases hD:D=[]
 ·subst hD
  rw[if_pos rfl]
  simp(disch:=try exact dI) only[Sh,push_cast,seval]
  refine ap ([]) (fun i:Nat=>[(3,.pv (.int .i64 0))]) (fun _=>[]) (fun i=>i=0) (fun i=>0) (0) ?_;intro e0 σ0 n0 h0;simp(disch:=try exact dI) only[push_cast,seval] at h0;obtain⟨rfl,rfl,rfl⟩:=h0;refine⟨?_,?_,?_⟩
  ·exact qsZ
  ·rfl
  rintro i rfl
  exact qsZ
 ·rw[if_neg hD]
  have hp:0<D.length:=List.length_pos_iff.2 hD
  obtain⟨k,hk⟩:∃ k,D.length=k+1:=⟨D.length - 1,by omega⟩
  obtain⟨x,hx⟩:∃ x,D[k]? = some x:=⟨_,List.getElem?_eq_getElem (by omega)⟩
  rw[hk,Nat.add_sub_cancel] at h
  have hx0:¬ (x:Int)=0:=fun e=>h (by rw[hx,show x=0 by omega])
  have hxp:(D.map fO)[k]? = some (.int .i64 (x:Int)):=by simp[hx,fO]
  have e1:((D.length:Int) - 1)=(k:Int):=by omega
  have hpI:(0:Int)<(D.length:Int):=by omega
  have hnz:¬ (D.length:Int)=0:=by omega
  simp(disch:=try exact dI) only[Sh,push_cast,seval]
  refine ap ([]) (fun i:Nat=>[(3,.pv (.int .i64 (D.length:Int)))]) (fun _=>[]) (fun i=>i=0) (fun i=>0) (0) ?_;intro e0 σ0 n0 h0;simp(disch:=try exact dI) only[push_cast,seval] at h0;obtain⟨rfl,rfl,rfl⟩:=h0;refine⟨?_,?_,?_⟩
  ·exact qsZ
  ·rfl
  rintro i rfl
  simp(disch:=try exact dI) only[e1,hxp,List.take_length,push_cast,seval]
theorem Jm (sg:Int)(D:List Nat)(i:Nat):ak Tryz.prog aq 155 [.agg [.int .i64 sg,.list (D.map fO)],.int .i64 (i:Int)] (fO (D.getD i 0)):=by
 by_cases hi:i<D.length
 ·obtain⟨x,hx⟩:∃ x,D[i]? = some x:=⟨_,List.getElem?_eq_getElem hi⟩
  have hxp:(D.map fO)[i]? = some (.int .i64 (x:Int)):=by simp[hx,fO]
  have hg:D.getD i 0=x:=by rw[List.getD_eq_getElem?_getD,hx];rfl
  rw[hg]
  refine ak.intro O7.2 (by simp[O7]) ?_
  simp(disch:=try exact dI) only[O7,hxp,fO,push_cast,seval]
 ·have hg:D.getD i 0=0:=by rw[List.getD_eq_getElem?_getD,List.getElem?_eq_none (by omega)];rfl
  rw[hg]
  refine ak.intro O7.2 (by simp[O7]) ?_
  simp(disch:=try exact dI) only[O7,fO,push_cast,seval]
def sgn (n:Int):Int:=if n=0 then 0 else if n<0 then -1 else 1
theorem SQ {n:Int}(h1:-999999999999999<=n)(h2:n<=999999999999999):ak Tryz.prog aq 154 [.int .i64 n,.int .i64 0] (.agg [.int .i64 (sgn n),.list ((dd 20 n.natAbs).map fO)]):=by
 have hlt:n.natAbs<10 ^ 20:=by simp;omega
 have hL:=fx 20 n.natAbs
 have hlast:(dd 20 n.natAbs)[(dd 20 n.natAbs).length - 1]?≠some 0:=by
  by_cases h0:n.natAbs=0
  ·rw[h0];simp[dd]
  ·exact EF 20 _ hlt h0
 have ht:=Lq (if n<0 then -1 else 1) (dd 20 n.natAbs) (by omega) hlast
 have hsg:(if dd 20 n.natAbs=[] then (0:Int) else if n<0 then -1 else 1)=sgn n:=by
  unfold sgn
  by_cases h0:n=0
  ·rw[h0];simp[dd]
  ·rw[if_neg h0,if_neg]
   rw[dd,if_neg (by omega)]
   simp
 rw[hsg] at ht
 generalize sgn n=SG at *
 clear hsg hlast hL
 refine ak.intro Si.2 (by simp[Si]) ?_
 by_cases hneg:n<0
 ·rw[if_pos hneg] at ht
  have ea:0 - n=(n.natAbs:Int):=by omega
  simp(disch:=try exact dI) only[Si,push_cast,seval]
  refine ap ([(5,2,3,1)]) (fun i:Nat=>[(6,.pv (.int .i64 (i:Int)))]) (fun i=>[(1,.cells 187 true [.pv (.int .i64 (-1)),.olist 2 1 []])]) (fun i=>i=0) (fun i=>0) (0) ?_;intro e0 σ0 n0 h0;simp(disch:=try exact dI) only[push_cast,seval] at h0;obtain⟨rfl,rfl,rfl⟩:=h0;refine⟨?_,?_,?_⟩
  ·exact qsZ
  ·rfl
  rintro i rfl
  simp(disch:=try exact dI) only[ea,push_cast,seval]
  refine ap ([]) (fun y:Nat×List Nat=>[(0,.pv (.int .i64 (y.1:Int)))]) (fun y=>[(1,.cells 187 true [.pv (.int .i64 (-1)),.olist 2 1 (y.2.map fO)])]) (fun y=>∃ f,y.1<10 ^ f/\y.1<=999999999999999/\y.2++dd f y.1=dd 20 n.natAbs) (fun y=>y.1) ((n.natAbs,[])) ?_;intro e0 σ0 n0 h0;simp(disch:=try exact dI) only[push_cast,seval] at h0;obtain⟨rfl,rfl,rfl⟩:=h0;refine⟨?_,?_,?_⟩
  ·simp(disch:=try exact dI) only[List.map_nil,ea,push_cast,seval]
  ·exact⟨20,hlt,by simp only;omega,rfl⟩
  rintro⟨r,L⟩ ⟨f,h1,hr,h2⟩
  simp only at h1 h2 hr
  have hLl:L.length<=20:=by
   have g1:=congrArg List.length h2
   have g2:=fx 20 n.natAbs
   rw[List.length_append] at g1
   omega
  by_cases  h0:r=0
  ·subst h0
   have hL:L=dd 20 n.natAbs:=by
    rw[<- h2]
    cases f<;>simp[dd]
   simp(disch:=try exact dI) only[hL,push_cast,seval]
   refine ab.pure ht rfl ?_
   exact qsZ
  ·have h0I:(0:Int)<(r:Int):=by omega
   have q1:=gK (a:=(r:Int)) (b:=10) (by omega)
   have q2:=fc (a:=(r:Int)) (b:=10) (by omega)
   obtain⟨f,rfl⟩:∃ g,f=g+1:=by
    cases f with
    | zero=>simp at h1;omega
    | succ g=>exact⟨g,rfl⟩
   rw[dd,if_neg h0] at h2
   have hf':r / 10<10 ^ f:=by rw[Nat.pow_succ] at h1;exact Nat.div_lt_of_lt_mul (by rw[Nat.mul_comm];exact h1)
   simp(disch:=try exact dI) only[q1,q2,push_cast,seval]
   exact⟨(r / 10,L++[r % 10]),aK (by simp(disch:=try exact dI) only[List.map_append,fO,push_cast,seval]),⟨f,hf',by simp only;omega,by rw[<- h2];simp⟩,by simp only;omega⟩
 ·rw[if_neg hneg] at ht
  have ea:n=(n.natAbs:Int):=by omega
  obtain⟨a,ha⟩:∃ a,a=n.natAbs:=⟨_,rfl⟩
  rw[<- ha] at ht hlt ea ⊢
  subst ea
  simp(disch:=try exact dI) only[Si,push_cast,seval]
  refine ap ([(5,2,3,1)]) (fun i:Nat=>[(6,.pv (.int .i64 (i:Int)))]) (fun i=>[(1,.cells 187 true [.pv (.int .i64 (1)),.olist 2 1 []])]) (fun i=>i=0) (fun i=>0) (0) ?_;intro e0 σ0 n0 h0;simp(disch:=try exact dI) only[push_cast,seval] at h0;obtain⟨rfl,rfl,rfl⟩:=h0;refine⟨?_,?_,?_⟩
  ·exact qsZ
  ·rfl
  rintro i rfl
  refine zgZ ?_
  refine ap ([]) (fun y:Nat×List Nat=>[(0,.pv (.int .i64 (y.1:Int)))]) (fun y=>[(1,.cells 187 true [.pv (.int .i64 (1)),.olist 2 1 (y.2.map fO)])]) (fun y=>∃ f,y.1<10 ^ f/\y.1<=999999999999999/\y.2++dd f y.1=dd 20 a) (fun y=>y.1) ((a,[])) ?_;intro e0 σ0 n0 h0;simp(disch:=try exact dI) only[push_cast,seval] at h0;obtain⟨rfl,rfl,rfl⟩:=h0;refine⟨?_,?_,?_⟩
  ·simp(disch:=try exact dI) only[List.map_nil,push_cast,seval]
  ·exact⟨20,hlt,by simp only;omega,rfl⟩
  rintro⟨r,L⟩ ⟨f,h1,hr,h2⟩
  simp only at h1 h2 hr
  have hLl:L.length<=20:=by
   have g1:=congrArg List.length h2
   have g2:=fx 20 a
   rw[List.length_append] at g1
   omega
  by_cases  h0:r=0
  ·subst h0
   have hL:L=dd 20 a:=by
    rw[<- h2]
    cases f<;>simp[dd]
   simp(disch:=try exact dI) only[hL,push_cast,seval]
   refine ab.pure ht rfl ?_
   exact qsZ
  ·have h0I:(0:Int)<(r:Int):=by omega
   have q1:=gK (a:=(r:Int)) (b:=10) (by omega)
   have q2:=fc (a:=(r:Int)) (b:=10) (by omega)
   obtain⟨f,rfl⟩:∃ g,f=g+1:=by
    cases f with
    | zero=>simp at h1;omega
    | succ g=>exact⟨g,rfl⟩
   rw[dd,if_neg h0] at h2
   have hf':r / 10<10 ^ f:=by rw[Nat.pow_succ] at h1;exact Nat.div_lt_of_lt_mul (by rw[Nat.mul_comm];exact h1)
   simp(disch:=try exact dI) only[q1,q2,push_cast,seval]
   exact⟨(r / 10,L++[r % 10]),aK (by simp(disch:=try exact dI) only[List.map_append,fO,push_cast,seval]),⟨f,hf',by simp only;omega,by rw[<- h2];simp⟩,by simp only;omega⟩
theorem Qu (n:Int)(sc:Nat):ak Tryz.prog aq 102 [.agg [.int .i64 n,.int .i64 (sc:Int)]] (.bool (decide (IsN n sc))):=by
 by_cases h1:-999999999999999<=n
 ·by_cases h2:n<=999999999999999
  ·by_cases h3:(sc:Int)<=12
   ·rw[decide_eq_true (show IsN n sc from⟨h1,h2,by omega⟩)]
    have h0:(0:Int)<=(sc:Int):=by omega
    refine ak.intro Av.2 (by simp[Av]) ?_
    simp(disch:=try exact dI) only[Av,push_cast,seval]
   ·rw[decide_eq_false (show ¬ IsN n sc from fun h=>h3 (by have:=h.2.2;omega))]
    have h0:(0:Int)<=(sc:Int):=by omega
    refine ak.intro Av.2 (by simp[Av]) ?_
    simp(disch:=try exact dI) only[Av,push_cast,seval]
  ·rw[decide_eq_false (show ¬ IsN n sc from fun h=>h2 h.2.1)]
   refine ak.intro Av.2 (by simp[Av]) ?_
   simp(disch:=try exact dI) only[Av,push_cast,seval]
 ·rw[decide_eq_false (show ¬ IsN n sc from fun h=>h1 h.1)]
  refine ak.intro Av.2 (by simp[Av]) ?_
  simp(disch:=try exact dI) only[Av,push_cast,seval]
def ma (a sc i:Nat):List UInt8:=if i<=sc then bv i a else bv (i - sc) (a / 10 ^ sc)++(if sc=0 then [] else 46::bv sc a)
theorem kV (i a:Nat):bv (i+1) a=UInt8.ofNat (48+a / 10 ^ i % 10)::bv i a:=by
 rw[Nat.add_comm,fN 1 i a]
 simp[bv]
theorem A3 (a sc i:Nat):ma a sc (i+1)=UInt8.ofNat (48+a / 10 ^ i % 10)::(if i=sc/\0<i then [46]++ma a sc i else ma a sc i):=by
 by_cases h:i<sc
 ·have e1:ma a sc (i+1)=bv (i+1) a:=by unfold ma;rw[if_pos (by omega)]
  have e2:ma a sc i=bv i a:=by unfold ma;rw[if_pos (by omega)]
  rw[e1,e2,kV,if_neg (by omega)]
 ·have e1:ma a sc (i+1)=bv (i - sc+1) (a / 10 ^ sc)++(if sc=0 then [] else 46::bv sc a):=by
   unfold ma
   rw[if_neg (show ¬ i+1<=sc by omega),show i+1 - sc=i - sc+1 by omega]
  rw[e1,kV,Nat.div_div_eq_div_mul,<- Nat.pow_add,show sc+(i - sc)=i by omega]
  by_cases he:i=sc
  ·subst he
   have e2:ma a i i=bv i a:=by unfold ma;rw[if_pos (Nat.le_refl i)]
   rw[e2,Nat.sub_self]
   by_cases h0:i=0
   ·subst h0;simp[bv]
   ·rw[if_neg h0,if_pos (show i=i/\0<i from⟨rfl,by omega⟩)]
    simp[bv]
  ·have e2:ma a sc i=bv (i - sc) (a / 10 ^ sc)++(if sc=0 then [] else 46::bv sc a):=by unfold ma;rw[if_neg (show ¬ i<=sc by omega)]
   rw[e2,if_neg (show ¬ (i=sc/\0<i) by omega)]
   rfl
theorem vD (n:Int)(sc:Nat):j0 n sc=(if n<0 then [45] else [])++ma n.natAbs sc (max (dl n.natAbs) (sc+1)):=by
 have e:ma n.natAbs sc (max (dl n.natAbs) (sc+1))=bv (max (dl n.natAbs) (sc+1) - sc) (n.natAbs / 10 ^ sc)++(if sc=0 then [] else 46::bv sc n.natAbs):=by
  unfold ma
  rw[if_neg (show ¬ max (dl n.natAbs) (sc+1)<=sc by omega)]
 rw[e]
 rfl
theorem uc (a sc i:Nat):(ma a sc i).length<=i+1:=by
 unfold ma
 split
 ·rw[cS];omega
 ·split
  ·simp[cS];omega
  ·simp[cS];omega
theorem Ts {a:Nat}(h:a<10 ^ 15)(sc:Nat):max (dd 20 a).length (sc+1)=max (dl a) (sc+1):=by
 have h20:a<10 ^ 20:=Nat.lt_of_lt_of_le h (Nat.pow_le_pow_right (by omega) (by omega))
 by_cases h0:a=0
 ·subst h0
  have e1:(dd 20 0).length=0:=by simp[dd]
  have e2:dl 0=1:=by decide
  omega
 ·rw[KL 20 a h20 h0]
  rfl
theorem A6 {n:Int}{sc:Nat}(hn:IsN n sc):ak Tryz.prog aq 103 [.agg [.int .i64 n,.int .i64 (sc:Int)]] (.str (j0 n sc)):=by
 obtain⟨h1,h2,h3⟩:=hn
 have ho:=SQ h1 h2
 have hlt:n.natAbs<10 ^ 15:=by simp;omega
 have hlt20:n.natAbs<10 ^ 20:=by simp;omega
 have hdl:=lM hlt
 have hmx:=Ts hlt sc
 have hget:=fun i=>KM 20 n.natAbs i hlt20
 have hdg:=fun i=>Jm (sgn n) (dd 20 n.natAbs) i
 have hDl:=fx 20 n.natAbs
 rw[vD]
 have hstep:=A3 n.natAbs sc
 have hlen:=uc n.natAbs sc
 have hx0:ma n.natAbs sc 0=[]:=by simp[ma,bv]
 obtain⟨K,hK⟩:∃ K,K=max (dl n.natAbs) (sc+1):=⟨_,rfl⟩
 rw[<- hK] at hmx ⊢
 have hmxI:max (((dd 20 n.natAbs).length:Nat):Int) ((sc:Int)+1)=(K:Int):=by omega
 have hK15:K<=15:=by omega
 generalize sgn n=SG at *
 generalize dd 20 n.natAbs=D at *
 obtain⟨T,hT⟩:∃ T,T=ma n.natAbs sc:=⟨_,rfl⟩
 rw[<- hT] at hstep hlen hx0 ⊢
 obtain⟨a,ha⟩:∃ a,a=n.natAbs:=⟨_,rfl⟩
 rw[<- ha] at hget hstep
 clear hT hdl hK hmx hDl ha
 have hlT:=hlen K
 refine ak.intro Ui.2 (by simp[Ui]) ?_
 simp(disch:=try exact dI) only[Ui,push_cast,seval]
 refine ab.pure ho rfl ?_
 refine zgZ ?_
 refine ap ([]) (fun i:Nat=>[(4,.pv (.str (T i))),(5,.pv (.int .i64 (i:Int)))]) (fun _=>[]) (fun i=>i<=K) (fun i=>K - i) (0) ?_;intro e0 σ0 n0 h0;simp(disch:=try exact dI) only[push_cast,seval] at h0;obtain⟨rfl,rfl,rfl⟩:=h0;refine⟨?_,?_,?_⟩
 ·simp(disch:=try exact dI) only[hx0,push_cast,seval]
 ·omega
 intro i hi
 have hli:=hlen i
 have hg:=hget i
 have hd:=hdg i
 rw[hg] at hd
 have hs:=hstep i
 by_cases hlti:i<K
 ·have hltI:(i:Int)<(K:Int):=by omega
  have hb:a / 10 ^ i % 10<10:=Nat.mod_lt _ (by omega)
  generalize a / 10 ^ i % 10=x at *
  simp only[fO] at hd
  have hw:IntKind.u8.wrap (48+(x:Int))=48+(x:Int):=by
   unfold IntKind.wrap;simp[IntKind.bits,IntKind.signed];omega
  have hu:(48+(x:Int)).toNat=48+x:=by omega
  by_cases hc:i=sc/\0<i
  ·obtain⟨rfl,hp⟩:=hc
   have hpI:(0:Int)<(i:Int):=by omega
   rw[if_pos ⟨rfl,hp⟩] at hs
   simp(disch:=try exact dI) only[hmxI,push_cast,seval]
   refine ab.pure hd rfl ?_
   simp(disch:=try exact dI) only[hw,push_cast,seval]
   exact⟨i+1,aK (by simp(disch:=try exact dI) only[hs,hu,push_cast,seval]),by omega,by omega⟩
  ·rw[if_neg hc] at hs
   by_cases he:i=sc
   ·have h0:i=0:=Decidable.of_not_not fun h=>hc ⟨he,by omega⟩
    subst he
    have h0I:¬ (0:Int)<(i:Int):=by omega
    simp(disch:=try exact dI) only[hmxI,push_cast,seval]
    refine ab.pure hd rfl ?_
    simp(disch:=try exact dI) only[hw,push_cast,seval]
    exact⟨i+1,aK (by simp(disch:=try exact dI) only[hs,hu,push_cast,seval]),by omega,by omega⟩
   ·have heI:¬ (i:Int)=(sc:Int):=by omega
    simp(disch:=try exact dI) only[hmxI,push_cast,seval]
    refine ab.pure hd rfl ?_
    simp(disch:=try exact dI) only[hw,push_cast,seval]
    exact⟨i+1,aK (by simp(disch:=try exact dI) only[hs,hu,push_cast,seval]),by omega,by omega⟩
 ·have hiK:i=K:=by omega
  subst hiK
  by_cases hneg:n<0
  ·rw[if_pos hneg]
   simp(disch:=try exact dI) only[hmxI,push_cast,seval]
  ·rw[if_neg hneg]
   simp(disch:=try exact dI) only[hmxI,push_cast,seval]
def rdS:Bool->Nat->Nat->List UInt8->Nat×Nat
 | _,v,c,[]=>(v,c)
 | p,v,c,b::r=>if isD b=true then rdS (p||decide (b=46)) (10*v+(b.toNat - 48)) (if (p||decide (b=46))=true then c+1 else c) r else rdS (p||decide (b=46)) v c r
def sgI (s:List UInt8)(v:Nat):Int:=if s.head? = some 45 then -(v:Int) else v
def aS (s:List UInt8):(Int×Nat)×Int:=
 if s=[] then ((0,0),4) else if 17<s.length then ((0,0),5) else
  if IsN (sgI s (rdS false 0 0 s).1) (rdS false 0 0 s).2/\j0 (sgI s (rdS false 0 0 s).1) (rdS false 0 0 s).2=s then ((sgI s (rdS false 0 0 s).1,(rdS false 0 0 s).2),0) else ((0,0),13)
theorem vE {n:Int}{sc:Nat}(h:IsN n sc):(j0 n sc).length<=17:=by
 obtain⟨h1,h2,h3⟩:=h
 have hdl:=lM (a:=n.natAbs) (by simp;omega)
 have:=uc n.natAbs sc (max (dl n.natAbs) (sc+1))
 rw[vD]
 split<;>simp<;>omega
theorem MM (s:List UInt8):ak Tryz.prog aq 81 [.str s] (.tup [.agg [.int .i64 (aS s).1.1,.int .i64 ((aS s).1.2:Int)],.int .i64 (aS s).2]):=by
 unfold aS
 by_cases h0:s=[]
 ·subst h0
  rw[if_pos rfl]
  refine ak.intro Q81.2 (by simp[Q81]) ?_
  simp(disch:=try exact dI) only[Q81,push_cast,seval]
 rw[if_neg h0]
 have h0b:decide (s=[])=false:=decide_eq_false h0
 by_cases hl:17<s.length
 ·rw[if_pos hl]
  have hlI:(17:Int)<(s.length:Int):=by omega
  refine ak.intro Q81.2 (by simp[Q81]) ?_
  simp(disch:=try exact dI) only[Q81,h0b,push_cast,seval]
 rw[if_neg hl]
 have hlI:¬ (17:Int)<(s.length:Int):=by omega
 obtain⟨R,hR⟩:∃ R,R=rdS false 0 0 s:=⟨_,rfl⟩
 rw[<- hR]
 refine ak.intro Q81.2 (by simp[Q81]) ?_
 simp(disch:=try exact dI) only[Q81,h0b,push_cast,seval]
 refine ap ([]) (fun y:Nat×Bool×Nat×Nat=>[(5,.pv (.bool y.2.1)),(6,.pv (.int .i64 (y.1:Int)))]) (fun y=>[(1,.cells 71 true [.pv (.int .i64 (y.2.2.1:Int)),.pv (.int .i64 (y.2.2.2:Int))])]) (fun y=>y.1<=s.length/\R=rdS y.2.1 y.2.2.1 y.2.2.2 (s.drop y.1)/\y.2.2.1+1<=10 ^ y.1/\y.2.2.2<=y.1) (fun y=>s.length - y.1) ((0,false,0,0)) ?_;intro e0 σ0 n0 h0;simp(disch:=try exact dI) only[push_cast,seval] at h0;obtain⟨rfl,rfl,rfl⟩:=h0;refine⟨?_,?_,?_⟩
 ·exact qsZ
 ·exact⟨by simp,by simp[hR],by simp,by simp⟩
 rintro⟨i,p,v,c⟩ ⟨h1,h2,h3,h4⟩
 simp only at h1 h2 h3 h4
 have hpw:10 ^ i<=10 ^ 17:=Nat.pow_le_pow_right (by omega) (by omega)
 by_cases hlt:i<s.length
 ·obtain⟨b,hb⟩:∃ b,s[i]? = some b:=⟨_,List.getElem?_eq_getElem hlt⟩
  rw[ba hb,rdS] at h2
  have hp1:10 ^ (i+1)=10*10 ^ i:=by rw[Nat.pow_succ];omega
  by_cases h46:b=46
  ·subst h46
   rw[if_neg (by decide)] at h2
   have hn:¬ (48:Int)<=((46:UInt8).toNat:Int):=by decide
   simp(disch:=try exact dI) only[hb,am,push_cast,seval]
   exact⟨(i+1,true,v,c),aK qsZ,⟨by simp only;omega,by simpa using h2,by simp only;omega,by simp only;omega⟩,by simp only;omega⟩
  ·have e46:(p||decide (b=46))=p:=by simp[h46]
   have n46:¬ (b.toNat:Int)=46:=fun h=>h46 (UInt8.toNat_inj.1 (by simpa using (by omega:b.toNat=46)))
   rw[e46] at h2
   by_cases hD:isD b=true
   ·rw[if_pos hD] at h2
    have hbd:=cD hD
    have g1:(48:Int)<=(b.toNat:Int):=by omega
    have g2:(b.toNat:Int)<=57:=by omega
    have hv:((b.toNat - 48:Nat):Int)=(b.toNat:Int) - 48:=by omega
    have hw:IntKind.i64.wrap ((b.toNat:Int) - 48)=(b.toNat:Int) - 48:=cP (by omega) (by omega)
    cases p with
    | true=>
      rw[if_pos rfl] at h2
      simp(disch:=try exact dI) only[hb,am,hw,push_cast,seval]
      exact⟨(i+1,true,10*v+(b.toNat - 48),c+1),aK (by simp(disch:=try exact dI) only[hv,push_cast,seval]),⟨by simp only;omega,h2,by simp only;omega,by simp only;omega⟩,by simp only;omega⟩
    | false=>
      rw[if_neg (by simp)] at h2
      simp(disch:=try exact dI) only[hb,am,hw,push_cast,seval]
      exact⟨(i+1,false,10*v+(b.toNat - 48),c),aK (by simp(disch:=try exact dI) only[hv,push_cast,seval]),⟨by simp only;omega,h2,by simp only;omega,by simp only;omega⟩,by simp only;omega⟩
   ·rw[if_neg hD] at h2
    by_cases g1:(48:Int)<=(b.toNat:Int)
    ·have g2:¬ (b.toNat:Int)<=57:=fun h=>hD (by simp[isD];omega)
     simp(disch:=try exact dI) only[hb,am,push_cast,seval]
     exact⟨(i+1,p,v,c),aK qsZ,⟨by simp only;omega,h2,by simp only;omega,by simp only;omega⟩,by simp only;omega⟩
    ·simp(disch:=try exact dI) only[hb,am,push_cast,seval]
     exact⟨(i+1,p,v,c),aK qsZ,⟨by simp only;omega,h2,by simp only;omega,by simp only;omega⟩,by simp only;omega⟩
 ·have hi:i=s.length:=by omega
  rw[List.drop_eq_nil_of_le (by omega)] at h2
  simp only[rdS] at h2
  subst h2
  simp only
  have hp:=Int.ofNat_le.2 hpw
  obtain⟨b,hb⟩:∃ b,s[0]? = some b:=⟨_,List.getElem?_eq_getElem (by cases s;exact absurd rfl h0;simp)⟩
  have hh:s.head? = some b:=by rw[List.head?_eq_getElem?,hb]
  have hv18:v<1000000000000000000:=by omega
  clear h1 h3 hpw hp
  unfold sgI
  rw[hh]
  have fin:∀ n:Int,True:=fun _=>trivial
  by_cases h45:b=45
  ·subst h45
   rw[if_pos rfl]
   have his:=Qu (-(v:Int)) c
   have ez:(0:Int) - (v:Int) = -(v:Int):=by omega
   generalize -(v:Int)=n at *
   by_cases hn:IsN n c
   ·have ht:=A6 hn
    have htl:=vE hn
    rw[decide_eq_true hn] at his
    generalize j0 n c=T at *
    by_cases hT:T=s
    ·rw[if_pos ⟨hn,hT⟩]
     subst hT
     simp(disch:=try exact dI) only[hb,am,ez,push_cast,seval]
     refine ab.pure his rfl ?_
     refine zgZ ?_
     refine ab.pure ht rfl ?_
     exact qsZ
    ·rw[if_neg (fun h=>hT h.2)]
     have hTb:(!decide (T=s))=true:=by simp[hT]
     simp(disch:=try exact dI) only[hb,am,ez,push_cast,seval]
     refine ab.pure his rfl ?_
     refine zgZ ?_
     refine ab.pure ht rfl ?_
     simp(disch:=try exact dI) only[hTb,push_cast,seval]
   ·rw[if_neg (fun h=>hn h.1)]
    rw[decide_eq_false hn] at his
    simp(disch:=try exact dI) only[hb,am,ez,push_cast,seval]
    refine ab.pure his rfl ?_
    exact qsZ
  ·rw[if_neg (show ¬ some b=some 45 by simp[h45])]
   have n45:¬ (b.toNat:Int)=45:=fun h=>h45 (UInt8.toNat_inj.1 (by simpa using (by omega:b.toNat=45)))
   have his:=Qu (v:Int) c
   generalize (v:Int)=n at *
   by_cases hn:IsN n c
   ·have ht:=A6 hn
    have htl:=vE hn
    rw[decide_eq_true hn] at his
    generalize j0 n c=T at *
    by_cases hT:T=s
    ·rw[if_pos ⟨hn,hT⟩]
     subst hT
     simp(disch:=try exact dI) only[hb,am,push_cast,seval]
     refine ab.pure his rfl ?_
     refine zgZ ?_
     refine ab.pure ht rfl ?_
     exact qsZ
    ·rw[if_neg (fun h=>hT h.2)]
     have hTb:(!decide (T=s))=true:=by simp[hT]
     simp(disch:=try exact dI) only[hb,am,push_cast,seval]
     refine ab.pure his rfl ?_
     refine zgZ ?_
     refine ab.pure ht rfl ?_
     simp(disch:=try exact dI) only[hTb,push_cast,seval]
   ·rw[if_neg (fun h=>hn h.1)]
    rw[decide_eq_false hn] at his
    simp(disch:=try exact dI) only[hb,am,push_cast,seval]
    refine ab.pure his rfl ?_
    exact qsZ
end Go.Proofs.YtbaaokocnegdoaaGreatDoor
