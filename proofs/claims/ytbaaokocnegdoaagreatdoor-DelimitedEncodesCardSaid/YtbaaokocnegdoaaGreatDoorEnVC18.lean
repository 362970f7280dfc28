/- A part. -/
import Derived.Test.YtbaaokocnegdoaaGreatDoorEnVC14
import Derived.Shelf.LaysM
import Derived.Shelf.Strconv.Atoi
import Derived.Shelf.Strconv.AtoiErr
import Derived.Test.YtbaaokocnegdoaaGreatDoorProg
set_option linter.unusedVariables false
set_option linter.unusedSimpArgs false
set_option maxRecDepth 100000
open Nat renaming pow_succ->Wd,div_lt_of_lt_mul->Wm,mul_comm->Wa,add_sub_cancel->V5
open List renaming length_cons->Vq,length_append->Vp,getElem?_eq_getElem->Vg,getD_eq_getElem?_getD->Vm,map_nil->Vo,map_append->VI
namespace Go.Proofs.YtbaaokocnegdoaaGreatDoor
open Go Go.Ab
attribute [local irreducible] vc
def dd:Nat->Nat->List Nat
 | 0,_=>[]
 | f+1,a=>if a=0 then [] else a % 10::dd f (a / 10)
theorem fQ:∀ (f a:Nat),(dd f a).length<=f
 | 0,a=>by simp[dd]
 | f+1,a=>by
   rw[dd]
   split
   ·simp
   ·have:=fQ f (a / 10)
    simp;omega
theorem Kv:∀ (f a i:Nat),a<10 ^ f->(dd f a).getD i 0=a / 10 ^ i % 10
 | 0,a,i,h=>by
   have:a=0:=by simpa using h
   subst this
   simp[dd]
 | f+1,a,i,h=>by
   rw[dd]
   by_cases ha:a=0
   ·subst ha;simp
   ·rw[if_neg ha]
    have hf':a / 10<10 ^ f:=by rw[Wd] at h;exact Wm (by rw[Wa];exact h)
    cases i with
    | zero=>simp
    | succ i=>
      rw[List.getD_cons_succ,Kv f (a / 10) i hf',Nat.div_div_eq_div_mul,Wd,Wa 10]
theorem Ku:∀ (f a:Nat),a<10 ^ f->a≠0->(dd f a).length=(bT f a).length
 | 0,a,h,h0=>by simp at h;omega
 | f+1,a,h,h0=>by
   rw[dd,bT,if_neg h0]
   have hf':a / 10<10 ^ f:=by rw[Wd] at h;exact Wm (by rw[Wa];exact h)
   by_cases h10:a<10
   ·rw[if_pos h10,show a / 10=0 by omega]
    cases f<;>simp[dd]
   ·rw[if_neg h10,Vq,Vp,Ku f (a / 10) hf' (by omega)]
    simp
theorem ET:∀ (f a:Nat),a<10 ^ f->a≠0->(dd f a)[(dd f a).length - 1]?≠some 0
 | 0,a,h,h0=>by simp at h;omega
 | f+1,a,h,h0=>by
   rw[dd,if_neg h0]
   have hf':a / 10<10 ^ f:=by rw[Wd] at h;exact Wm (by rw[Wa];exact h)
   by_cases h10:a / 10=0
   ·rw[h10]
    have e:dd f 0=[]:=by cases f<;>simp[dd]
    rw[e]
    simp;omega
   ·have ih:=ET f (a / 10) hf' h10
    have hne:1<=(dd f (a / 10)).length:=by
     cases f with
     | zero=>simp at hf';omega
     | succ f=>rw[dd,if_neg h10];simp
    rw[Vq,V5,show (dd f (a / 10)).length=(dd f (a / 10)).length - 1+1 by omega,List.getElem?_cons_succ]
    exact ih
theorem Li (sg:Int)(D:List Nat)(hl:D.length<=100)(h:D[D.length - 1]?≠some 0):ae Tryz.prog aq 208 [.agg [.int .i64 sg,.list (D.map gj)]] (.agg [.int .i64 (if D=[] then 0 else sg),.list (D.map gj)]):=by
 refine ae.intro R9.2 (by simp[R9]) ?_
 by_cases hD:D=[]
 ·subst hD
  rw[if_pos rfl]
  simp(disch:=try exact dI) only[R9,push_cast,seval]
  refine ap ([]) (fun i:Nat=>[(3,.pv (.int .i64 0))]) (fun _=>[]) (fun i=>i=0) (fun i=>0) (0) ?_;intro e0 σ0 n0 h0;simp(disch:=try exact dI) only[push_cast,seval] at h0;obtain⟨rfl,rfl,rfl⟩:=h0;refine⟨?_,?_,?_⟩
  ·exact qsZ
  ·rfl
  rintro i rfl
  exact qsZ
 ·rw[if_neg hD]
  have hp:0<D.length:=List.length_pos_iff.2 hD
  obtain⟨k,hk⟩:∃ k,D.length=k+1:=⟨D.length - 1,by omega⟩
  obtain⟨x,hx⟩:∃ x,D[k]? = some x:=⟨_,Vg (by omega)⟩
  rw[hk,V5] at h
  have hx0:¬ (x:Int)=0:=fun e=>h (by rw[hx,show x=0 by omega])
  have hxp:(D.map gj)[k]? = some (.int .i64 (x:Int)):=by simp[hx,gj]
  have e1:((D.length:Int) - 1)=(k:Int):=by omega
  have hpI:(0:Int)<(D.length:Int):=by omega
  have hnz:¬ (D.length:Int)=0:=by omega
  simp(disch:=try exact dI) only[R9,push_cast,seval]
  refine ap ([]) (fun i:Nat=>[(3,.pv (.int .i64 (D.length:Int)))]) (fun _=>[]) (fun i=>i=0) (fun i=>0) (0) ?_;intro e0 σ0 n0 h0;simp(disch:=try exact dI) only[push_cast,seval] at h0;obtain⟨rfl,rfl,rfl⟩:=h0;refine⟨?_,?_,?_⟩
  ·exact qsZ
  ·rfl
  rintro i rfl
  simp(disch:=try exact dI) only[e1,hxp,List.take_length,push_cast,seval]
theorem I8 (sg:Int)(D:List Nat)(i:Nat):ae Tryz.prog aq 155 [.agg [.int .i64 sg,.list (D.map gj)],.int .i64 (i:Int)] (gj (D.getD i 0)):=by
 by_cases hi:i<D.length
 ·obtain⟨x,hx⟩:∃ x,D[i]? = some x:=⟨_,Vg hi⟩
  have hxp:(D.map gj)[i]? = some (.int .i64 (x:Int)):=by simp[hx,gj]
  have hg:D.getD i 0=x:=by rw[Vm,hx];rfl
  rw[hg]
  refine ae.intro OP.2 (by simp[OP]) ?_
  simp(disch:=try exact dI) only[OP,hxp,gj,push_cast,seval]
 ·have hg:D.getD i 0=0:=by rw[Vm,List.getElem?_eq_none (by omega)];rfl
  rw[hg]
  refine ae.intro OP.2 (by simp[OP]) ?_
  simp(disch:=try exact dI) only[OP,gj,push_cast,seval]
def sgn (n:Int):Int:=if n=0 then 0 else if n<0 then -1 else 1
theorem SK {n:Int}(h1:-999999999999999<=n)(h2:n<=999999999999999):ae Tryz.prog aq 154 [.int .i64 n,.int .i64 0] (.agg [.int .i64 (sgn n),.list ((dd 20 n.natAbs).map gj)]):=by
 have hlt:n.natAbs<10 ^ 20:=by simp;omega
 have hL:=fQ 20 n.natAbs
 have hlast:(dd 20 n.natAbs)[(dd 20 n.natAbs).length - 1]?≠some 0:=by
  by_cases h0:n.natAbs=0
  ·rw[h0];simp[dd]
  ·exact ET 20 _ hlt h0
 have ht:=Li (if n<0 then -1 else 1) (dd 20 n.natAbs) (by omega) hlast
 have hsg:(if dd 20 n.natAbs=[] then (0:Int) else if n<0 then -1 else 1)=sgn n:=by
  unfold sgn
  by_cases h0:n=0
  ·rw[h0];simp[dd]
  ·rw[if_neg h0,if_neg]
   rw[dd,if_neg (by omega)]
   simp
 rw[hsg] at ht
 generalize sgn n=SG at *
 clear hsg hlast hL
 refine ae.intro Sb.2 (by simp[Sb]) ?_
 by_cases hneg:n<0
 ·rw[if_pos hneg] at ht
  have ea:0 - n=(n.natAbs:Int):=by omega
  simp(disch:=try exact dI) only[Sb,push_cast,seval]
  refine ap ([(5,2,3,1)]) (fun i:Nat=>[(6,.pv (.int .i64 (i:Int)))]) (fun i=>[(1,.cells 187 true [.pv (.int .i64 (-1)),.olist 2 1 []])]) (fun i=>i=0) (fun i=>0) (0) ?_;intro e0 σ0 n0 h0;simp(disch:=try exact dI) only[push_cast,seval] at h0;obtain⟨rfl,rfl,rfl⟩:=h0;refine⟨?_,?_,?_⟩
  ·exact qsZ
  ·rfl
  rintro i rfl
  simp(disch:=try exact dI) only[ea,push_cast,seval]
  refine ap ([]) (fun y:Nat×List Nat=>[(0,.pv (.int .i64 (y.1:Int)))]) (fun y=>[(1,.cells 187 true [.pv (.int .i64 (-1)),.olist 2 1 (y.2.map gj)])]) (fun y=>∃ f,y.1<10 ^ f/\y.1<=999999999999999/\y.2++dd f y.1=dd 20 n.natAbs) (fun y=>y.1) ((n.natAbs,[])) ?_;intro e0 σ0 n0 h0;simp(disch:=try exact dI) only[push_cast,seval] at h0;obtain⟨rfl,rfl,rfl⟩:=h0;refine⟨?_,?_,?_⟩
  ·simp(disch:=try exact dI) only[Vo,ea,push_cast,seval]
  ·exact⟨20,hlt,by simp only;omega,rfl⟩
  rintro⟨r,L⟩ ⟨f,h1,hr,h2⟩
  simp only at h1 h2 hr
  have hLl:L.length<=20:=by
   have g1:=congrArg List.length h2
   have g2:=fQ 20 n.natAbs
   rw[Vp] at g1
   omega
  by_cases  h0:r=0
  ·subst h0
   have hL:L=dd 20 n.natAbs:=by
    rw[<- h2]
    cases f<;>simp[dd]
   simp(disch:=try exact dI) only[hL,push_cast,seval]
   refine ab.pure ht rfl ?_
   exact qsZ
  ·have h0I:(0:Int)<(r:Int):=by omega
   have q1:=cZ (a:=(r:Int)) (b:=10) (by omega)
   have q2:=cY (a:=(r:Int)) (b:=10) (by omega)
   obtain⟨f,rfl⟩:∃ g,f=g+1:=by
    cases f with
    | zero=>simp at h1;omega
    | succ g=>exact⟨g,rfl⟩
   rw[dd,if_neg h0] at h2
   have hf':r / 10<10 ^ f:=by rw[Wd] at h1;exact Wm (by rw[Wa];exact h1)
   simp(disch:=try exact dI) only[q1,q2,push_cast,seval]
   exact⟨(r / 10,L++[r % 10]),aI (by simp(disch:=try exact dI) only[VI,gj,push_cast,seval]),⟨f,hf',by simp only;omega,by rw[<- h2];simp⟩,by simp only;omega⟩
 ·rw[if_neg hneg] at ht
  have ea:n=(n.natAbs:Int):=by omega
  obtain⟨a,ha⟩:∃ a,a=n.natAbs:=⟨_,rfl⟩
  rw[<- ha] at ht hlt ea ⊢
  subst ea
  simp(disch:=try exact dI) only[Sb,push_cast,seval]
  refine ap ([(5,2,3,1)]) (fun i:Nat=>[(6,.pv (.int .i64 (i:Int)))]) (fun i=>[(1,.cells 187 true [.pv (.int .i64 (1)),.olist 2 1 []])]) (fun i=>i=0) (fun i=>0) (0) ?_;intro e0 σ0 n0 h0;simp(disch:=try exact dI) only[push_cast,seval] at h0;obtain⟨rfl,rfl,rfl⟩:=h0;refine⟨?_,?_,?_⟩
  ·exact qsZ
  ·rfl
  rintro i rfl
  refine zgZ ?_
  refine ap ([]) (fun y:Nat×List Nat=>[(0,.pv (.int .i64 (y.1:Int)))]) (fun y=>[(1,.cells 187 true [.pv (.int .i64 (1)),.olist 2 1 (y.2.map gj)])]) (fun y=>∃ f,y.1<10 ^ f/\y.1<=999999999999999/\y.2++dd f y.1=dd 20 a) (fun y=>y.1) ((a,[])) ?_;intro e0 σ0 n0 h0;simp(disch:=try exact dI) only[push_cast,seval] at h0;obtain⟨rfl,rfl,rfl⟩:=h0;refine⟨?_,?_,?_⟩
  ·simp(disch:=try exact dI) only[Vo,push_cast,seval]
  ·exact⟨20,hlt,by simp only;omega,rfl⟩
  rintro⟨r,L⟩ ⟨f,h1,hr,h2⟩
  simp only at h1 h2 hr
  have hLl:L.length<=20:=by
   have g1:=congrArg List.length h2
   have g2:=fQ 20 a
   rw[Vp] at g1
   omega
  by_cases  h0:r=0
  ·subst h0
   have hL:L=dd 20 a:=by
    rw[<- h2]
    cases f<;>simp[dd]
   simp(disch:=try exact dI) only[hL,push_cast,seval]
   refine ab.pure ht rfl ?_
   exact qsZ
  ·have h0I:(0:Int)<(r:Int):=by omega
   have q1:=cZ (a:=(r:Int)) (b:=10) (by omega)
   have q2:=cY (a:=(r:Int)) (b:=10) (by omega)
   obtain⟨f,rfl⟩:∃ g,f=g+1:=by
    cases f with
    | zero=>simp at h1;omega
    | succ g=>exact⟨g,rfl⟩
   rw[dd,if_neg h0] at h2
   have hf':r / 10<10 ^ f:=by rw[Wd] at h1;exact Wm (by rw[Wa];exact h1)
   simp(disch:=try exact dI) only[q1,q2,push_cast,seval]
   exact⟨(r / 10,L++[r % 10]),aI (by simp(disch:=try exact dI) only[VI,gj,push_cast,seval]),⟨f,hf',by simp only;omega,by rw[<- h2];simp⟩,by simp only;omega⟩
theorem SR (n:Int)(sc:Nat):ae Tryz.prog aq 102 [.agg [.int .i64 n,.int .i64 (sc:Int)]] (.bool (decide (IsN n sc))):=by
 by_cases h1:-999999999999999<=n
 ·by_cases h2:n<=999999999999999
  ·by_cases h3:(sc:Int)<=12
   ·rw[decide_eq_true (show IsN n sc from⟨h1,h2,by omega⟩)]
    have h0:(0:Int)<=(sc:Int):=by omega
    refine ae.intro AZ.2 (by simp[AZ]) ?_
    simp(disch:=try exact dI) only[AZ,push_cast,seval]
   ·rw[decide_eq_false (show ¬ IsN n sc from fun h=>h3 (by have:=h.2.2;omega))]
    have h0:(0:Int)<=(sc:Int):=by omega
    refine ae.intro AZ.2 (by simp[AZ]) ?_
    simp(disch:=try exact dI) only[AZ,push_cast,seval]
  ·rw[decide_eq_false (show ¬ IsN n sc from fun h=>h2 h.2.1)]
   refine ae.intro AZ.2 (by simp[AZ]) ?_
   simp(disch:=try exact dI) only[AZ,push_cast,seval]
 ·rw[decide_eq_false (show ¬ IsN n sc from fun h=>h1 h.1)]
  refine ae.intro AZ.2 (by simp[AZ]) ?_
  simp(disch:=try exact dI) only[AZ,push_cast,seval]
def m8 (a sc i:Nat):List UInt8:=if i<=sc then aT i a else aT (i - sc) (a / 10 ^ sc)++(if sc=0 then [] else 46::aT sc a)
theorem iG (i a:Nat):aT (i+1) a=UInt8.ofNat (48+a / 10 ^ i % 10)::aT i a:=by
 rw[Nat.add_comm,gi 1 i a]
 simp[aT]
theorem Bu (a sc i:Nat):m8 a sc (i+1)=UInt8.ofNat (48+a / 10 ^ i % 10)::(if i=sc/\0<i then [46]++m8 a sc i else m8 a sc i):=by
 by_cases h:i<sc
 ·have e1:m8 a sc (i+1)=aT (i+1) a:=by unfold m8;rw[if_pos (by omega)]
  have e2:m8 a sc i=aT i a:=by unfold m8;rw[if_pos (by omega)]
  rw[e1,e2,iG,if_neg (by omega)]
 ·have e1:m8 a sc (i+1)=aT (i - sc+1) (a / 10 ^ sc)++(if sc=0 then [] else 46::aT sc a):=by
   unfold m8
   rw[if_neg (show ¬ i+1<=sc by omega),show i+1 - sc=i - sc+1 by omega]
  rw[e1,iG,Nat.div_div_eq_div_mul,<- Nat.pow_add,show sc+(i - sc)=i by omega]
  by_cases he:i=sc
  ·subst he
   have e2:m8 a i i=aT i a:=by unfold m8;rw[if_pos (Nat.le_refl i)]
   rw[e2,Nat.sub_self]
   by_cases h0:i=0
   ·subst h0;simp[aT]
   ·rw[if_neg h0,if_pos (show i=i/\0<i from⟨rfl,by omega⟩)]
    simp[aT]
  ·have e2:m8 a sc i=aT (i - sc) (a / 10 ^ sc)++(if sc=0 then [] else 46::aT sc a):=by unfold m8;rw[if_neg (show ¬ i<=sc by omega)]
   rw[e2,if_neg (show ¬ (i=sc/\0<i) by omega)]
   rfl
theorem wy (n:Int)(sc:Nat):iX n sc=(if n<0 then [45] else [])++m8 n.natAbs sc (max (dl n.natAbs) (sc+1)):=by
 have e:m8 n.natAbs sc (max (dl n.natAbs) (sc+1))=aT (max (dl n.natAbs) (sc+1) - sc) (n.natAbs / 10 ^ sc)++(if sc=0 then [] else 46::aT sc n.natAbs):=by
  unfold m8
  rw[if_neg (show ¬ max (dl n.natAbs) (sc+1)<=sc by omega)]
 rw[e]
 rfl
theorem uO (a sc i:Nat):(m8 a sc i).length<=i+1:=by
 unfold m8
 split
 ·rw[aM];omega
 ·split
  ·simp[aM];omega
  ·simp[aM];omega
theorem Tv {a:Nat}(h:a<10 ^ 15)(sc:Nat):max (dd 20 a).length (sc+1)=max (dl a) (sc+1):=by
 have h20:a<10 ^ 20:=Nat.lt_of_lt_of_le h (Nat.pow_le_pow_right (by omega) (by omega))
 by_cases h0:a=0
 ·subst h0
  have e1:(dd 20 0).length=0:=by simp[dd]
  have e2:dl 0=1:=by decide
  omega
 ·rw[Ku 20 a h20 h0]
  rfl
theorem Ln {n:Int}{sc:Nat}(hn:IsN n sc):ae Tryz.prog aq 103 [.agg [.int .i64 n,.int .i64 (sc:Int)]] (.str (iX n sc)):=by
 obtain⟨h1,h2,h3⟩:=hn
 have ho:=SK h1 h2
 have hlt:n.natAbs<10 ^ 15:=by simp;omega
 have hlt20:n.natAbs<10 ^ 20:=by simp;omega
 have hdl:=jI hlt
 have hmx:=Tv hlt sc
 have hget:=fun i=>Kv 20 n.natAbs i hlt20
 have hdg:=fun i=>I8 (sgn n) (dd 20 n.natAbs) i
 have hDl:=fQ 20 n.natAbs
 rw[wy]
 have hstep:=Bu n.natAbs sc
 have hlen:=uO n.natAbs sc
 have hx0:m8 n.natAbs sc 0=[]:=by simp[m8,aT]
 obtain⟨K,hK⟩:∃ K,K=max (dl n.natAbs) (sc+1):=⟨_,rfl⟩
 rw[<- hK] at hmx ⊢
 have hmxI:max (((dd 20 n.natAbs).length:Nat):Int) ((sc:Int)+1)=(K:Int):=by omega
 have hK15:K<=15:=by omega
 generalize sgn n=SG at *
 generalize dd 20 n.natAbs=D at *
 obtain⟨T,hT⟩:∃ T,T=m8 n.natAbs sc:=⟨_,rfl⟩
 rw[<- hT] at hstep hlen hx0 ⊢
 obtain⟨a,ha⟩:∃ a,a=n.natAbs:=⟨_,rfl⟩
 rw[<- ha] at hget hstep
 clear hT hdl hK hmx hDl ha
 have hlT:=hlen K
 refine ae.intro Ut.2 (by simp[Ut]) ?_
 simp(disch:=try exact dI) only[Ut,push_cast,seval]
 refine ab.pure ho rfl ?_
 refine zgZ ?_
 refine ap ([]) (fun i:Nat=>[(4,.pv (.str (T i))),(5,.pv (.int .i64 (i:Int)))]) (fun _=>[]) (fun i=>i<=K) (fun i=>K - i) (0) ?_;intro e0 σ0 n0 h0;simp(disch:=try exact dI) only[push_cast,seval] at h0;obtain⟨rfl,rfl,rfl⟩:=h0;refine⟨?_,?_,?_⟩
 ·simp(disch:=try exact dI) only[hx0,push_cast,seval]
 ·omega
 intro i hi
 have hli:=hlen i
 have hg:=hget i
 have hd:=hdg i
 rw[hg] at hd
 have hs:=hstep i
 by_cases hlti:i<K
 ·have hltI:(i:Int)<(K:Int):=by omega
  have hb:a / 10 ^ i % 10<10:=Nat.mod_lt _ (by omega)
  generalize a / 10 ^ i % 10=x at *
  simp only[gj] at hd
  have hw:IntKind.u8.wrap (48+(x:Int))=48+(x:Int):=by
   unfold IntKind.wrap;simp[IntKind.bits,IntKind.signed];omega
  have hu:(48+(x:Int)).toNat=48+x:=by omega
  by_cases hc:i=sc/\0<i
  ·obtain⟨rfl,hp⟩:=hc
   have hpI:(0:Int)<(i:Int):=by omega
   rw[if_pos ⟨rfl,hp⟩] at hs
   simp(disch:=try exact dI) only[hmxI,push_cast,seval]
   refine ab.pure hd rfl ?_
   simp(disch:=try exact dI) only[hw,push_cast,seval]
   exact⟨i+1,aI (by simp(disch:=try exact dI) only[hs,hu,push_cast,seval]),by omega,by omega⟩
  ·rw[if_neg hc] at hs
   by_cases he:i=sc
   ·have h0:i=0:=Decidable.of_not_not fun h=>hc ⟨he,by omega⟩
    subst he
    have h0I:¬ (0:Int)<(i:Int):=by omega
    simp(disch:=try exact dI) only[hmxI,push_cast,seval]
    refine ab.pure hd rfl ?_
    simp(disch:=try exact dI) only[hw,push_cast,seval]
    exact⟨i+1,aI (by simp(disch:=try exact dI) only[hs,hu,push_cast,seval]),by omega,by omega⟩
   ·have heI:¬ (i:Int)=(sc:Int):=by omega
    simp(disch:=try exact dI) only[hmxI,push_cast,seval]
    refine ab.pure hd rfl ?_
    simp(disch:=try exact dI) only[hw,push_cast,seval]
    exact⟨i+1,aI (by simp(disch:=try exact dI) only[hs,hu,push_cast,seval]),by omega,by omega⟩
 ·have hiK:i=K:=by omega
  subst hiK
  by_cases hneg:n<0
  ·rw[if_pos hneg]
   simp(disch:=try exact dI) only[hmxI,push_cast,seval]
  ·rw[if_neg hneg]
   simp(disch:=try exact dI) only[hmxI,push_cast,seval]
def rdS:Bool->Nat->Nat->List UInt8->Nat×Nat
 | _,v,c,[]=>(v,c)
 | p,v,c,b::r=>if isD b=true then rdS (p||decide (b=46)) (10*v+(b.toNat - 48)) (if (p||decide (b=46))=true then c+1 else c) r else rdS (p||decide (b=46)) v c r
def sgI (s:List UInt8)(v:Nat):Int:=if s.head? = some 45 then -(v:Int) else v
def aY (s:List UInt8):(Int×Nat)×Int:=
 if s=[] then ((0,0),4) else if 17<s.length then ((0,0),5) else
  if IsN (sgI s (rdS false 0 0 s).1) (rdS false 0 0 s).2/\iX (sgI s (rdS false 0 0 s).1) (rdS false 0 0 s).2=s then ((sgI s (rdS false 0 0 s).1,(rdS false 0 0 s).2),0) else ((0,0),13)
theorem wz {n:Int}{sc:Nat}(h:IsN n sc):(iX n sc).length<=17:=by
 obtain⟨h1,h2,h3⟩:=h
 have hdl:=jI (a:=n.natAbs) (by simp;omega)
 have:=uO n.natAbs sc (max (dl n.natAbs) (sc+1))
 rw[wy]
 split<;>simp<;>omega
end Go.Proofs.YtbaaokocnegdoaaGreatDoor
/-
 DERIVED: THE SHELF's CONTRACTS AT THIS DUMP,IN PLAIN WORDS (tools/lay-plain.mjs out of 'TryzAtoi.lean',which tools/lay-shelf.mjs wrote): THE SAME DECLARATIONS UNDER THE SAME NAMES: 'import','namespace','open','def','theorem' AND NOTHING ELSE: no command of the shelf's: FOR A HAND-IN. Each laying: the table of numbers ('.._ren') and one theorem,a field a fact of the dump's own or the kernel's comparison;each gr: ONE APPLICATION.
-/
namespace Go.Proofs
open Go.Shelf
def Tryz.lays172_ren:Go.Shelf.Ren:=⟨fun | 172=>72 | 244=>121 | 245=>122 | 247=>170 | 279=>171 | 280=>172 | 281=>173 | 282=>174 | 287=>229 | 316=>230 | 171=>87 | 205=>231 | 321=>261 | 322=>262 | 243=>138 | 246=>183 | 283=>234 | 284=>235 | 285=>236 | 286=>237 | 129=>219 | 317=>264 | 318=>265 | 319=>266 | 320=>267 | 337=>292 | 338=>293 | n=>n,fun | 9=>9 | 3=>3 | 75=>91 | 76=>114 | 4=>4 | 5=>5 | 167=>200 | 37=>64 | 0=>0 | 85=>201 | 2=>2 | 168=>203 | 53=>213 | 175=>240 | 46=>93 | 210=>244 | 127=>140 | 145=>278 | 143=>276 | 21=>21 | 171=>246 | 173=>248 | 212=>281 | 51=>210 | 20=>20 | 213=>282 | 232=>295 | 233=>296 | 80=>94 | n=>n,fun | 15=>1 | 16=>2 | 17=>5 | 18=>6 | 19=>7 | n=>n⟩
theorem Tryz.lays172:Go.Proofs.Lays.n172 Tryz.prog Tryz.lays172_ren:={
 mixed:=by kernel_rfl
 f129:=Tryz.func219.trans (congrArg some (by kernel_rfl))
 f171:=Tryz.func87.trans (congrArg some (by kernel_rfl))
 f172:=Tryz.func72.trans (congrArg some (by kernel_rfl))
 f205:=Tryz.func231.trans (congrArg some (by kernel_rfl))
 f243:=Tryz.func138.trans (congrArg some (by kernel_rfl))
 f244:=Tryz.func121.trans (congrArg some (by kernel_rfl))
 f245:=Tryz.func122.trans (congrArg some (by kernel_rfl))
 f246:=Tryz.func183.trans (congrArg some (by kernel_rfl))
 f247:=Tryz.func170.trans (congrArg some (by kernel_rfl))
 f279:=Tryz.func171.trans (congrArg some (by kernel_rfl))
 f280:=Tryz.func172.trans (congrArg some (by kernel_rfl))
 f281:=Tryz.func173.trans (congrArg some (by kernel_rfl))
 f282:=Tryz.func174.trans (congrArg some (by kernel_rfl))
 f283:=Tryz.func234.trans (congrArg some (by kernel_rfl))
 f284:=Tryz.func235.trans (congrArg some (by kernel_rfl))
 f285:=Tryz.func236.trans (congrArg some (by kernel_rfl))
 f286:=Tryz.func237.trans (congrArg some (by kernel_rfl))
 f287:=Tryz.func229.trans (congrArg some (by kernel_rfl))
 f316:=Tryz.func230.trans (congrArg some (by kernel_rfl))
 f317:=Tryz.func264.trans (congrArg some (by kernel_rfl))
 f318:=Tryz.func265.trans (congrArg some (by kernel_rfl))
 f319:=Tryz.func266.trans (congrArg some (by kernel_rfl))
 f320:=Tryz.func267.trans (congrArg some (by kernel_rfl))
 f321:=Tryz.func261.trans (congrArg some (by kernel_rfl))
 f322:=Tryz.func262.trans (congrArg some (by kernel_rfl))
 f337:=Tryz.func292.trans (congrArg some (by kernel_rfl))
 f338:=Tryz.func293.trans (congrArg some (by kernel_rfl))
 t0:=Tryz.underlying0
 a0:=Tryz.isAgg0
 z0:=Tryz.sizeOf0
 v0:=Tryz.zeroValue0
 t2:=Tryz.underlying2
 a2:=Tryz.isAgg2
 z2:=Tryz.sizeOf2
 v2:=Tryz.zeroValue2
 t3:=Tryz.underlying3
 a3:=Tryz.isAgg3
 z3:=Tryz.sizeOf3
 v3:=Tryz.zeroValue3
 t4:=Tryz.underlying4
 a4:=Tryz.isAgg4
 z4:=Tryz.sizeOf4
 v4:=Tryz.zeroValue4
 t5:=Tryz.underlying5
 a5:=Tryz.isAgg5
 z5:=Tryz.sizeOf5
 v5:=Tryz.zeroValue5
 t9:=Tryz.underlying9
 a9:=Tryz.isAgg9
 z9:=Tryz.sizeOf9
 v9:=Tryz.zeroValue9
 t20:=Tryz.underlying20
 a20:=Tryz.isAgg20
 z20:=Tryz.sizeOf20
 v20:=Tryz.zeroValue20
 t21:=Tryz.underlying21
 a21:=Tryz.isAgg21
 z21:=Tryz.sizeOf21
 v21:=Tryz.zeroValue21
 t37:=Tryz.underlying64
 a37:=Tryz.isAgg64
 z37:=Tryz.sizeOf64
 v37:=Tryz.zeroValue64
 t46:=Tryz.underlying93
 a46:=Tryz.isAgg93
 z46:=Tryz.sizeOf93
 v46:=Tryz.zeroValue93
 t51:=Tryz.underlying210
 a51:=Tryz.isAgg210
 z51:=Tryz.sizeOf210
 v51:=Tryz.zeroValue210
 t53:=Tryz.underlying213
 a53:=Tryz.isAgg213
 z53:=Tryz.sizeOf213
 v53:=Tryz.zeroValue213
 t75:=Tryz.underlying91
 a75:=Tryz.isAgg91
 z75:=Tryz.sizeOf91
 v75:=Tryz.zeroValue91
 t76:=Tryz.underlying114
 a76:=Tryz.isAgg114
 z76:=Tryz.sizeOf114
 v76:=Tryz.zeroValue114
 t85:=Tryz.underlying201
 a85:=Tryz.isAgg201
 z85:=Tryz.sizeOf201
 v85:=Tryz.zeroValue201
 t127:=Tryz.underlying140
 a127:=Tryz.isAgg140
 z127:=Tryz.sizeOf140
 v127:=Tryz.zeroValue140
 t143:=Tryz.underlying276
 a143:=Tryz.isAgg276
 z143:=Tryz.sizeOf276
 v143:=Tryz.zeroValue276
 t145:=Tryz.underlying278
 a145:=Tryz.isAgg278
 z145:=Tryz.sizeOf278
 v145:=Tryz.zeroValue278
 t167:=Tryz.underlying200
 a167:=Tryz.isAgg200
 z167:=Tryz.sizeOf200
 v167:=Tryz.zeroValue200
 t168:=Tryz.underlying203
 a168:=Tryz.isAgg203
 z168:=Tryz.sizeOf203
 v168:=Tryz.zeroValue203
 t171:=Tryz.underlying246
 a171:=Tryz.isAgg246
 z171:=Tryz.sizeOf246
 v171:=Tryz.zeroValue246
 t173:=Tryz.underlying248
 a173:=Tryz.isAgg248
 z173:=Tryz.sizeOf248
 v173:=Tryz.zeroValue248
 t175:=Tryz.underlying240
 a175:=Tryz.isAgg240
 z175:=Tryz.sizeOf240
 v175:=Tryz.zeroValue240
 t210:=Tryz.underlying244
 a210:=Tryz.isAgg244
 z210:=Tryz.sizeOf244
 v210:=Tryz.zeroValue244
 t212:=Tryz.underlying281
 a212:=Tryz.isAgg281
 z212:=Tryz.sizeOf281
 v212:=Tryz.zeroValue281
 t213:=Tryz.underlying282
 a213:=Tryz.isAgg282
 z213:=Tryz.sizeOf282
 t232:=Tryz.underlying295
 a232:=Tryz.isAgg295
 z232:=Tryz.sizeOf295
 v232:=Tryz.zeroValue295
 t233:=Tryz.underlying296
 a233:=Tryz.isAgg296
 z233:=Tryz.sizeOf296
 v233:=Tryz.zeroValue296
 g15:=by kernel_rfl
 g16:=by kernel_rfl
 g17:=by kernel_rfl
 g18:=by kernel_rfl
 g19:=by kernel_rfl }
def Tryz.laysC172_ren:Go.Shelf.Ren:=⟨fun | 172=>72 | 244=>121 | 245=>122 | 247=>170 | 279=>171 | 280=>172 | 281=>173 | 282=>174 | 287=>229 | 316=>230 | 171=>87 | 205=>231 | 321=>261 | 322=>262 | 243=>138 | 246=>183 | 283=>234 | 284=>235 | 285=>236 | 286=>237 | 129=>219 | 317=>264 | 318=>265 | 319=>266 | 320=>267 | 337=>292 | 338=>293 | n=>n,fun | 9=>9 | 3=>3 | 75=>91 | 76=>114 | 4=>4 | 5=>5 | 167=>200 | 37=>64 | 0=>0 | 85=>201 | 2=>2 | 168=>203 | 53=>213 | 175=>240 | 46=>93 | 210=>244 | 127=>140 | 145=>278 | 143=>276 | 21=>21 | 171=>246 | 173=>248 | 212=>281 | 51=>210 | 20=>20 | 213=>282 | 232=>295 | 233=>296 | 80=>94 | n=>n,fun | 15=>1 | 16=>2 | 17=>5 | 18=>6 | 19=>7 | n=>n⟩
theorem Tryz.laysC172:Go.Proofs.LaysC.n172 Tryz.prog Tryz.laysC172_ren:={
 mixed:=by kernel_rfl
 f129:=Tryz.func219.trans (congrArg some (by kernel_rfl))
 f171:=Tryz.func87.trans (congrArg some (by kernel_rfl))
 f172:=Tryz.func72.trans (congrArg some (by kernel_rfl))
 f205:=Tryz.func231.trans (congrArg some (by kernel_rfl))
 f243:=Tryz.func138.trans (congrArg some (by kernel_rfl))
 f244:=Tryz.func121.trans (congrArg some (by kernel_rfl))
 f245:=Tryz.func122.trans (congrArg some (by kernel_rfl))
 f246:=Tryz.func183.trans (congrArg some (by kernel_rfl))
 f247:=Tryz.func170.trans (congrArg some (by kernel_rfl))
 f279:=Tryz.func171.trans (congrArg some (by kernel_rfl))
 f280:=Tryz.func172.trans (congrArg some (by kernel_rfl))
 f281:=Tryz.func173.trans (congrArg some (by kernel_rfl))
 f282:=Tryz.func174.trans (congrArg some (by kernel_rfl))
 f283:=Tryz.func234.trans (congrArg some (by kernel_rfl))
 f284:=Tryz.func235.trans (congrArg some (by kernel_rfl))
 f285:=Tryz.func236.trans (congrArg some (by kernel_rfl))
 f286:=Tryz.func237.trans (congrArg some (by kernel_rfl))
 f287:=Tryz.func229.trans (congrArg some (by kernel_rfl))
 f316:=Tryz.func230.trans (congrArg some (by kernel_rfl))
 f317:=Tryz.func264.trans (congrArg some (by kernel_rfl))
 f318:=Tryz.func265.trans (congrArg some (by kernel_rfl))
 f319:=Tryz.func266.trans (congrArg some (by kernel_rfl))
 f320:=Tryz.func267.trans (congrArg some (by kernel_rfl))
 f321:=Tryz.func261.trans (congrArg some (by kernel_rfl))
 f322:=Tryz.func262.trans (congrArg some (by kernel_rfl))
 f337:=Tryz.func292.trans (congrArg some (by kernel_rfl))
 f338:=Tryz.func293.trans (congrArg some (by kernel_rfl))
 t0:=Tryz.underlying0
 a0:=Tryz.isAgg0
 z0:=Tryz.sizeOf0
 v0:=Tryz.zeroValue0
 t2:=Tryz.underlying2
 a2:=Tryz.isAgg2
 z2:=Tryz.sizeOf2
 v2:=Tryz.zeroValue2
 t3:=Tryz.underlying3
 a3:=Tryz.isAgg3
 z3:=Tryz.sizeOf3
 v3:=Tryz.zeroValue3
 t4:=Tryz.underlying4
 a4:=Tryz.isAgg4
 z4:=Tryz.sizeOf4
 v4:=Tryz.zeroValue4
 t5:=Tryz.underlying5
 a5:=Tryz.isAgg5
 z5:=Tryz.sizeOf5
 v5:=Tryz.zeroValue5
 t9:=Tryz.underlying9
 a9:=Tryz.isAgg9
 z9:=Tryz.sizeOf9
 v9:=Tryz.zeroValue9
 t20:=Tryz.underlying20
 a20:=Tryz.isAgg20
 z20:=Tryz.sizeOf20
 v20:=Tryz.zeroValue20
 t21:=Tryz.underlying21
 a21:=Tryz.isAgg21
 z21:=Tryz.sizeOf21
 v21:=Tryz.zeroValue21
 t37:=Tryz.underlying64
 a37:=Tryz.isAgg64
 z37:=Tryz.sizeOf64
 v37:=Tryz.zeroValue64
 t46:=Tryz.underlying93
 a46:=Tryz.isAgg93
 z46:=Tryz.sizeOf93
 v46:=Tryz.zeroValue93
 t51:=Tryz.underlying210
 a51:=Tryz.isAgg210
 z51:=Tryz.sizeOf210
 v51:=Tryz.zeroValue210
 t53:=Tryz.underlying213
 a53:=Tryz.isAgg213
 z53:=Tryz.sizeOf213
 v53:=Tryz.zeroValue213
 t75:=Tryz.underlying91
 a75:=Tryz.isAgg91
 z75:=Tryz.sizeOf91
 v75:=Tryz.zeroValue91
 t76:=Tryz.underlying114
 a76:=Tryz.isAgg114
 z76:=Tryz.sizeOf114
 v76:=Tryz.zeroValue114
 t85:=Tryz.underlying201
 a85:=Tryz.isAgg201
 z85:=Tryz.sizeOf201
 v85:=Tryz.zeroValue201
 t127:=Tryz.underlying140
 a127:=Tryz.isAgg140
 z127:=Tryz.sizeOf140
 v127:=Tryz.zeroValue140
 t143:=Tryz.underlying276
 a143:=Tryz.isAgg276
 z143:=Tryz.sizeOf276
 v143:=Tryz.zeroValue276
 t145:=Tryz.underlying278
 a145:=Tryz.isAgg278
 z145:=Tryz.sizeOf278
 v145:=Tryz.zeroValue278
 t167:=Tryz.underlying200
 a167:=Tryz.isAgg200
 z167:=Tryz.sizeOf200
 v167:=Tryz.zeroValue200
 t168:=Tryz.underlying203
 a168:=Tryz.isAgg203
 z168:=Tryz.sizeOf203
 v168:=Tryz.zeroValue203
 t171:=Tryz.underlying246
 a171:=Tryz.isAgg246
 z171:=Tryz.sizeOf246
 v171:=Tryz.zeroValue246
 t173:=Tryz.underlying248
 a173:=Tryz.isAgg248
 z173:=Tryz.sizeOf248
 v173:=Tryz.zeroValue248
 t175:=Tryz.underlying240
 a175:=Tryz.isAgg240
 z175:=Tryz.sizeOf240
 v175:=Tryz.zeroValue240
 t210:=Tryz.underlying244
 a210:=Tryz.isAgg244
 z210:=Tryz.sizeOf244
 v210:=Tryz.zeroValue244
 t212:=Tryz.underlying281
 a212:=Tryz.isAgg281
 z212:=Tryz.sizeOf281
 v212:=Tryz.zeroValue281
 t213:=Tryz.underlying282
 a213:=Tryz.isAgg282
 z213:=Tryz.sizeOf282
 t232:=Tryz.underlying295
 a232:=Tryz.isAgg295
 z232:=Tryz.sizeOf295
 v232:=Tryz.zeroValue295
 t233:=Tryz.underlying296
 a233:=Tryz.isAgg296
 z233:=Tryz.sizeOf296
 v233:=Tryz.zeroValue296
 g15:=by kernel_rfl
 g16:=by kernel_rfl
 g17:=by kernel_rfl
 g18:=by kernel_rfl
 g19:=by kernel_rfl
 t80:=Tryz.underlying94
 a80:=Tryz.isAgg94
 z80:=Tryz.sizeOf94
 v80:=Tryz.zeroValue94
 i0:=by kernel_rfl
 i2:=by kernel_rfl
 i3:=by kernel_rfl
 i4:=by kernel_rfl
 i5:=by kernel_rfl
 i9:=by kernel_rfl
 i20:=by kernel_rfl
 i21:=by kernel_rfl
 i37:=by kernel_rfl
 i46:=by kernel_rfl
 i51:=by kernel_rfl
 i53:=by kernel_rfl
 i75:=by kernel_rfl
 i76:=by kernel_rfl
 i80:=by kernel_rfl
 i85:=by kernel_rfl
 i127:=by kernel_rfl
 i143:=by kernel_rfl
 i145:=by kernel_rfl
 i167:=by kernel_rfl
 i168:=by kernel_rfl
 i171:=by kernel_rfl
 i173:=by kernel_rfl
 i175:=by kernel_rfl
 i210:=by kernel_rfl
 i212:=by kernel_rfl
 i232:=by kernel_rfl
 i233:=by kernel_rfl
 m15:=by kernel_rfl
 m16:=by kernel_rfl
 m17:=by kernel_rfl
 m18:=by kernel_rfl
 m19:=by kernel_rfl
 c0:=by kernel_rfl
 c2:=by kernel_rfl
 c3:=by kernel_rfl
 c4:=by kernel_rfl
 c5:=by kernel_rfl
 c9:=by kernel_rfl
 c20:=by kernel_rfl
 c21:=by kernel_rfl
 c37:=by kernel_rfl
 c46:=by kernel_rfl
 c51:=by kernel_rfl
 c53:=by kernel_rfl
 c75:=by kernel_rfl
 c76:=by kernel_rfl
 c80:=by kernel_rfl
 c85:=by kernel_rfl
 c127:=by kernel_rfl
 c143:=by kernel_rfl
 c145:=by kernel_rfl
 c167:=by kernel_rfl
 c168:=by kernel_rfl
 c171:=by kernel_rfl
 c173:=by kernel_rfl
 c175:=by kernel_rfl
 c210:=by kernel_rfl
 c212:=by kernel_rfl
 c213:=by kernel_rfl
 c232:=by kernel_rfl
 c233:=by kernel_rfl }
open Go.RowKit in
theorem Tryz.strconv_Atoi_err (s:ByteArray)(hl:s.size<=18)(h:Lib.atoi s.data.toList=none)(ev:Value)(w:World)(hv:w.cell? ⟨1,0,none⟩=some ev)(hev:ev = .nilIface\/∃ te pe,ev = .iface te pe) :
  Calls Tryz.prog 72 #[.string s] w fun e w'=>∃ N,e = .returned (.tuple #[.int .i64 0,.iface 203 (.pointer (some ⟨N,0,none⟩))])/\w.heap.size<=N/\w'.heap[N]? = some (.cells #[.string ⟨#[65,116,111,105]⟩,.string s,ev] 244 (0,0))/\Below w.heap.size w w':=Any.strconv_Atoi_err Tryz.laysC172 s hl h ev w hv hev
