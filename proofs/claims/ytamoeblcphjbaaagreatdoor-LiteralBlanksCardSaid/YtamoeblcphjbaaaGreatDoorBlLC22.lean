/- A part. -/
import Derived.Test.YtamoeblcphjbaaaGreatDoorBlLC17
set_option linter.unusedVariables false
set_option linter.unusedSimpArgs false
set_option maxRecDepth 100000
open Option renaming map_eq_some_iff->Uq,map_some->UD
open List renaming take_length->U2,append_assoc->U3,singleton_append->Vp,cons_append->UJ,append_nil->U5,length_cons->Ut,getElem?_eq_getElem->Uo,mem_of_getElem?->Uw
open UInt8 renaming ofNat->U0,toNat_ofNat'->Ve
open Nat renaming pow_succ->Vq,mul_comm->Vm,pow_le_pow_right->Vd
namespace Go.Proofs.YtamoeblcphjbaaaGreatDoor
open Go Go.Ab
attribute [local irreducible] vc
def fB (d:UInt8):List UInt8->Option (List UInt8×List UInt8)
 | []=>none
 | c::r=>if c=d then some ([],r) else (fB d r).map fun q=>(c::q.1,q.2)
theorem ri {d:UInt8}:∀ {s:List UInt8} (k:Nat),fB d s=none->fA d s k = -1
 | [],k,_=>rfl
 | c::r,k,h=>by
   rw[fB] at h
   split at h
   ·cases h
   ·rename_i hc
    rw[fA,if_neg (by simpa using hc)]
    exact ri (k+1) (by simpa using h)
theorem eL {d:UInt8}:∀ {s a b:List UInt8} (k:Nat),fB d s=some (a,b)->fA d s k=(k:Int)+a.length/\s=a++d::b
 | [],a,b,k,h=>by simp[fB] at h
 | c::r,a,b,k,h=>by
   rw[fB] at h
   split at h
   ·rename_i hc
    cases h
    subst hc
    rw[fA,if_pos (by simp)]
    exact⟨by simp,rfl⟩
   ·rename_i hc
    simp only[Uq] at h
    obtain⟨q,hq,he⟩:=h
    cases he
    have ih:=eL (k+1) hq
    rw[fA,if_neg (by simpa using hc),ih.1]
    refine⟨by simp;omega,?_⟩
    conv=>lhs;rw[ih.2]
    rfl
def oY (d:UInt8)(s:List UInt8):PV:=
 match fB d s with
 | some (a,b)=>.tup [.str a,.str b,.bool true]
 | none=>.tup [.str s,.str [],.bool false]
theorem Hb (s:List UInt8)(d:UInt8):au Tryz.prog aH 248 [.str s,.str [d]] (.int .i64 (fA d s 0)):=by
 by_cases h:s=[d]
 ·subst h
  refine au.intro NQ.2 (by simp[NQ]) ?_
  rw[show fA d [d] 0=0 by simp[fA]]
  simp(disch:=try exact dI) only[NQ,push_cast,seval]
 ·have hi:=vw s (d.toNat:Int)
  rw[show ((d.toNat:Int)).toNat.toUInt8=d by simp] at hi
  have hb:decide ([d]=s)=false:=decide_eq_false fun e=>h e.symm
  generalize fA d s 0=q at *
  refine au.intro NQ.2 (by simp[NQ]) ?_
  simp(disch:=try exact dI) only[NQ,hb,push_cast,seval]
  refine ae.pure hi rfl ?_
  exact qsZ
theorem P5 (d:UInt8)(s:List UInt8)(hl:s.length<=100000):au Tryz.prog aH 220 [.str s,.str [d]] (oY d s):=by
 have hi:=Hb s d
 unfold oY
 cases hc:fB d s with
 | none=>
   rw[ri 0 hc] at hi
   refine au.intro NR.2 (by simp[NR]) ?_
   simp(disch:=try exact dI) only[NR,push_cast,seval]
   refine ae.pure hi rfl ?_
   exact qsZ
 | some q=>
   obtain⟨a,b⟩:=q
   obtain⟨h1,h2⟩:=eL 0 hc
   rw[h1] at hi
   have hsl:s.length=a.length+(b.length+1):=by rw[h2];simp
   have t1:s.take a.length=a:=by rw[h2];simp
   have t2:s.drop (a.length+1)=b:=by rw[h2];simp
   have ez:((0:Nat):Int)+(a.length:Int)=(a.length:Int):=by omega
   rw[ez] at hi
   have e1:((a.length:Int)).toNat=a.length:=by omega
   have e2:((a.length:Int)+1).toNat=a.length+1:=by omega
   refine au.intro NR.2 (by simp[NR]) ?_
   simp(disch:=try exact dI) only[NR,push_cast,seval]
   refine ae.pure hi rfl ?_
   simp(disch:=try exact dI) only[t1,t2,e1,e2,U2,push_cast,seval]
theorem DX (d:UInt8)(s:List UInt8)(hl:s.length<=100000):au Tryz.prog aH 184 [.str s,.str [d]] (oY d s):=by
 have h:=P5 d s hl
 unfold oY at h ⊢
 cases hc:fB d s with
 | none=>
   rw[hc] at h
   refine au.intro NV.2 (by simp[NV]) ?_
   simp(disch:=try exact dI) only[NV,push_cast,seval]
   refine ae.pure h rfl ?_
   exact qsZ
 | some q=>
   obtain⟨a,b⟩:=q
   rw[hc] at h
   refine au.intro NV.2 (by simp[NV]) ?_
   simp(disch:=try exact dI) only[NV,push_cast,seval]
   refine ae.pure h rfl ?_
   exact qsZ
def rL:List UInt8->Option (List UInt8×List UInt8)
 | []=>none
 | c::r=>if c=46 then some ([],r) else (rL r).map fun q=>(c::q.1,q.2)
theorem DT:∀ s:List UInt8,rL s=fB 46 s
 | []=>rfl
 | c::r=>by rw[rL,fB,DT r]
theorem DS {s a b:List UInt8}(k:Nat)(h:rL s=some (a,b)):fA 46 s k=(k:Int)+a.length/\s=a++46::b:=eL k ((DT s).symm.trans h)
def Rb (s:List UInt8):PV:=
 match rL s with
 | some (a,b)=>.tup [.str a,.str b,.bool true]
 | none=>.tup [.str s,.str [],.bool false]
theorem SC (s:List UInt8)(hl:s.length<=100000):au Tryz.prog aH 184 [.str s,.str [46]] (Rb s):=by
 have:=DX 46 s hl
 unfold oY at this;unfold Rb;rw[DT];exact this
theorem jR:∀ (k acc a:Nat) (r:List UInt8),Lib.decFrom acc (bQ k a++r)=Lib.decFrom (acc*10 ^ k+a % 10 ^ k) r
 | 0,acc,a,r=>by simp[bQ,Nat.mod_one]
 | k+1,acc,a,r=>by
   rw[bQ,U3,jR k acc (a / 10)]
   have hd:(U0 (48+a % 10)).toNat=48+a % 10:=by
    rw[Ve];omega
   have hv:Lib.digitVal (U0 (48+a % 10))=some (a % 10):=by
    unfold Lib.digitVal
    rw[hd,if_pos (by omega)]
    congr 1;omega
   rw[Vp,Lib.decFrom,hv]
   have e:a % 10 ^ (k+1)=a % 10+10*(a / 10 % 10 ^ k):=by rw[Vq,Vm,Nat.mod_mul]
   rw[e,Vq]
   simp only
   congr 1
   have e2:acc*(10 ^ k*10)=acc*10 ^ k*10:=by rw[Nat.mul_assoc]
   rw[e2]
   omega
theorem pN:∀ (k v c a:Nat) (r:List UInt8),rdS false v c (bQ k a++r)=rdS false (v*10 ^ k+a % 10 ^ k) c r
 | 0,v,c,a,r=>by simp[bQ,Nat.mod_one]
 | k+1,v,c,a,r=>by
   rw[bQ,U3,pN k v c (a / 10)]
   have hd:(U0 (48+a % 10)).toNat=48+a % 10:=by
    rw[Ve];omega
   have hD:isD (U0 (48+a % 10))=true:=by unfold isD;rw[hd];simp;omega
   have h46:(false||decide (U0 (48+a % 10)=46))=false:=by
    rw[Bool.false_or]
    refine decide_eq_false fun h=>?_
    have:=congrArg UInt8.toNat h
    rw[hd] at this
    simp at this
    omega
   rw[Vp,rdS,if_pos hD,h46,hd]
   have e:a % 10 ^ (k+1)=a % 10+10*(a / 10 % 10 ^ k):=by rw[Vq,Vm,Nat.mod_mul]
   rw[e,Vq]
   simp only[Bool.false_eq_true,if_false]
   congr 1
   have e2:v*(10 ^ k*10)=v*10 ^ k*10:=by rw[Nat.mul_assoc]
   rw[e2]
   omega
theorem uB:∀ (k v c a:Nat) (r:List UInt8),rdS true v c (bQ k a++r)=rdS true (v*10 ^ k+a % 10 ^ k) (c+k) r
 | 0,v,c,a,r=>by simp[bQ,Nat.mod_one]
 | k+1,v,c,a,r=>by
   rw[bQ,U3,uB k v c (a / 10)]
   have hd:(U0 (48+a % 10)).toNat=48+a % 10:=by
    rw[Ve];omega
   have hD:isD (U0 (48+a % 10))=true:=by unfold isD;rw[hd];simp;omega
   rw[Vp,rdS,if_pos hD,hd]
   have e:a % 10 ^ (k+1)=a % 10+10*(a / 10 % 10 ^ k):=by rw[Vq,Vm,Nat.mod_mul]
   rw[e,Vq]
   simp only[Bool.true_or,if_true]
   have e2:v*(10 ^ k*10)=v*10 ^ k*10:=by rw[Nat.mul_assoc]
   rw[e2]
   congr 1
   omega
theorem xI:∀ (k a:Nat),rL (bQ k a)=none/\∀ r,rL (bQ k a++46::r)=some (bQ k a,r)
 | k,a=>by
   have key:∀ l:List UInt8,(∀ x,x∈l->x≠46)->rL l=none/\∀ r,rL (l++46::r)=some (l,r):=by
    intro l
    induction l with
    | nil=>intro _;exact⟨rfl,fun r=>by simp[rL]⟩
    | cons c l ih=>
      intro h
      have hc:c≠46:=h c (by simp)
      have ih:=ih fun x hx=>h x (by simp[hx])
      refine⟨by rw[rL,if_neg hc,ih.1];rfl,fun r=>by rw[UJ,rL,if_neg hc,ih.2 r];rfl⟩
   refine key _ ?_
   have:∀ (k a:Nat) x,x∈bQ k a->48<=x.toNat:=by
    intro k
    induction k with
    | zero=>intro a x hx;simp[bQ] at hx
    | succ k ih=>
      intro a x hx
      rw[bQ,List.mem_append] at hx
      rcases hx with hx | hx
      ·exact ih _ x hx
      ·simp only[List.mem_singleton] at hx
       rw[hx,Ve]
       omega
   intro x hx e
   have:=this k a x hx
   rw[e] at this
   revert this;decide
theorem qk {k a:Nat}(hk:0<k):∃ c r,bQ k a=c::r/\48<=c.toNat/\c.toNat<=57:=by
 obtain⟨j,rfl⟩:∃ j,k=j+1:=⟨k - 1,by omega⟩
 refine⟨U0 (48+a / 10 ^ j % 10),bQ j a,Cc j a,?_,?_⟩
 ·rw[Ve];omega
 ·rw[Ve];omega
structure DecP (n:Int)(c:Nat)(A B:List UInt8):Prop where
 cut:rL (nL n c)=if c=0 then none else some (A,B)
 txt:nL n c=if c=0 then A else A++46::B
 len:B.length=c
 val:Lib.atoi (A++B)=some n
 rd:rdS false 0 0 (nL n c)=(n.natAbs,c)
 sg:sgI (nL n c) n.natAbs=n
 ne:nL n c≠[]
theorem decP {n:Int}{c:Nat}(h:IsN n c):∃ A B,DecP n c A B:=by
 obtain⟨h1,h2,h3⟩:=h
 have hlt:n.natAbs<10 ^ 15:=by simp;omega
 have hdl:=tz hlt
 obtain⟨a,ha⟩:∃ a,a=n.natAbs:=⟨_,rfl⟩
 rw[<- ha] at hlt hdl
 obtain⟨K,hK⟩:∃ K,K=max (dl a) (c+1):=⟨_,rfl⟩
 have haK:a<10 ^ K:=Nat.lt_of_lt_of_le hdl.2.2 (Vd (by omega) (by omega))
 have hsp:=gi (K - c) c a
 rw[show K - c+c=K by omega] at hsp
 have hdec:nL n c=(if n<0 then [45] else [])++(bQ (K - c) (a / 10 ^ c)++(if c=0 then [] else 46::bQ c a)):=by unfold nL;rw[<- ha,<- hK]
 have hni:=xI (K - c) (a / 10 ^ c)
 obtain⟨x,r,hx,hx1,hx2⟩:=qk (k:=K - c) (a:=a / 10 ^ c) (by omega)
 have hx45:x≠45:=by intro e;subst e;revert hx1;decide
 have hx43:x≠43:=by intro e;subst e;revert hx1;decide
 have hq:a / 10 ^ c % 10 ^ (K - c)=a / 10 ^ c:=by
  refine Nat.mod_eq_of_lt (Nat.div_lt_of_lt_mul ?_)
  rw[<- Nat.pow_add,show c+(K - c)=K by omega]
  exact haK
 have hrd:rdS false 0 0 (bQ (K - c) (a / 10 ^ c)++(if c=0 then [] else 46::bQ c a))=(a,c):=by
  rw[pN,hq]
  by_cases h0:c=0
  ·rw[if_pos h0,h0];simp[rdS]
  ·rw[if_neg h0,rdS,if_neg (by decide)]
   have:=uB c (0*10 ^ (K - c)+a / 10 ^ c) 0 a []
   rw[U5] at this
   rw[show (false||decide ((46:UInt8)=46))=true from rfl,this,rdS]
   rw[show 0*10 ^ (K - c)+a / 10 ^ c=a / 10 ^ c by omega,Nat.zero_add]
   have e2:=Nat.div_add_mod a (10 ^ c)
   rw[Vm] at e2
   rw[e2]
 have hval:Lib.decNat (bQ K a)=some a:=by
  unfold Lib.decNat
  have hne:(bQ K a).isEmpty=false:=by
   obtain⟨y,q,hy,_⟩:=qk (k:=K) (a:=a) (by omega)
   rw[hy];rfl
  rw[hne]
  have:=jR K 0 a []
  rw[U5] at this
  simp only[Bool.false_eq_true,if_false]
  rw[this,Lib.decFrom,Nat.mod_eq_of_lt haK]
  congr 1;omega
 by_cases hneg:n<0
 ·rw[if_pos hneg] at hdec
  refine⟨45::bQ (K - c) (a / 10 ^ c),bQ c a,?_⟩
  constructor
  ·rw[hdec,Vp,rL,if_neg (by decide)]
   by_cases h0:c=0
   ·rw[if_pos h0,if_pos h0,U5,hni.1];rfl
   ·rw[if_neg h0,if_neg h0,hni.2];rfl
  ·rw[hdec]
   by_cases h0:c=0
   ·rw[if_pos h0,if_pos h0];simp
   ·rw[if_neg h0,if_neg h0];simp
  ·exact bG c a
  ·rw[UJ,<- hsp]
   unfold Lib.atoi
   simp only[beq_self_eq_true,if_true]
   rw[hval]
   simp only[UD]
   congr 1;omega
  ·rw[hdec,Vp,rdS,if_neg (by decide)]
   rw[show (false||decide ((45:UInt8)=46))=false from rfl,hrd,<- ha]
  ·unfold sgI
   rw[hdec,Vp,List.head?_cons,if_pos rfl]
   omega
  ·rw[hdec];simp
 ·rw[if_neg hneg] at hdec
  rw[List.nil_append] at hdec
  refine⟨bQ (K - c) (a / 10 ^ c),bQ c a,?_⟩
  constructor
  ·rw[hdec]
   by_cases h0:c=0
   ·rw[if_pos h0,if_pos h0,U5,hni.1]
   ·rw[if_neg h0,if_neg h0,hni.2]
  ·rw[hdec]
   by_cases h0:c=0
   ·rw[if_pos h0,if_pos h0];simp
   ·rw[if_neg h0,if_neg h0]
  ·exact bG c a
  ·rw[<- hsp]
   have hval':=hval
   rw[hsp,hx] at hval' ⊢
   rw[UJ] at hval' ⊢
   unfold Lib.atoi
   simp only
   rw[show (x == 45)=false by simpa using hx45,show (x == 43)=false by simpa using hx43]
   simp only[Bool.false_eq_true,if_false]
   rw[hval']
   simp only[UD]
   congr 1;omega
  ·rw[hdec,hrd,<- ha]
  ·unfold sgI
   rw[hdec,hx,UJ,List.head?_cons,if_neg (by simpa using hx45)]
   omega
  ·rw[hdec,hx];simp
theorem rc:∀ (l:List UInt8) (acc m:Nat),Lib.decFrom acc l=some m->m+1<=(acc+1)*10 ^ l.length
 | [],acc,m,h=>by simp only[Lib.decFrom] at h;cases h;simp
 | b::r,acc,m,h=>by
   rw[Lib.decFrom] at h
   unfold Lib.digitVal at h
   split at h
   ·rename_i hd
    split at hd
    ·rename_i hb
     cases hd
     have ih:=rc r _ m h
     refine Nat.le_trans ih ?_
     rw[Ut,Vq,Vm (10 ^ r.length) 10,<- Nat.mul_assoc]
     exact Nat.mul_le_mul_right _ (by omega)
    ·cases hd
   ·cases h
theorem za {s:List UInt8}{n:Int}(hl:s.length<=18)(h:Lib.atoi s=some n):n.natAbs<=1000000000000000000:=by
 have key:∀ (l:List UInt8) (m:Nat),l.length<=18->Lib.decNat l=some m->m<=1000000000000000000:=by
  intro l m hl h
  unfold Lib.decNat at h
  split at h
  ·cases h
  ·have:=rc l 0 m h
   have hp:10 ^ l.length<=10 ^ 18:=Vd (by omega) hl
   omega
 cases s with
 | nil=>simp[Lib.atoi] at h
 | cons b r=>
   simp only[Ut] at hl
   unfold Lib.atoi at h
   simp only at h
   split at h
   ·simp only[Uq] at h
    obtain⟨m,hm,rfl⟩:=h
    have:=key r m (by omega) hm
    omega
   ·split at h
    ·simp only[Uq] at h
     obtain⟨m,hm,rfl⟩:=h
     have:=key r m (by omega) hm
     omega
    ·simp only[Uq] at h
     obtain⟨m,hm,rfl⟩:=h
     have:=key (b::r) m (by simpa using hl) hm
     omega
def rh (s:List UInt8):List UInt8×List UInt8×Bool:=
 match rL s with
 | some (a,b)=>(a,b,true)
 | none=>(s,[],false)
def xr (s:List UInt8):(Int×Nat)×Int:=
 match Lib.atoi ((rh s).1++(rh s).2.1) with
 | some n=>if IsN n (rh s).2.1.length/\nL n (rh s).2.1.length=s/\((rh s).2.2=true->(rh s).2.1≠[]) then ((n,(rh s).2.1.length),0) else ((0,0),13)
 | none=>((0,0),13)
theorem Gk {s:List UInt8}(h0:s≠[])(hl:¬ 17<s.length):xr s=aW s:=by
 have yes:∀ n c,IsN n c->nL n c=s->xr s=((n,c),0)/\aW s=((n,c),0):=by
  intro n c hn hd
  obtain⟨A,B,P⟩:=decP hn
  constructor
  ·have hc:=P.cut
   have ht:=P.txt
   have hv:=P.val
   rw[hd] at hc ht
   by_cases hz:c=0
   ·subst hz
    rw[if_pos rfl] at hc ht
    have hB:B=[]:=List.length_eq_zero_iff.1 P.len
    subst hB
    rw[U5] at hv
    rw[<- ht] at hv
    unfold xr rh
    rw[hc]
    simp only[U5,hv,List.length_nil]
    rw[if_pos ⟨hn,hd,by simp⟩]
   ·rw[if_neg hz] at hc
    unfold xr rh
    rw[hc]
    simp only[hv,P.len]
    rw[if_pos ⟨hn,hd,fun _ e=>hz (by rw[<- P.len,e];rfl)⟩]
  ·have hr:=P.rd
   have hs:=P.sg
   rw[hd] at hr hs
   unfold aW
   rw[if_neg h0,if_neg hl,hr]
   simp only[hs]
   rw[if_pos ⟨hn,hd⟩]
 by_cases hp:IsN (sgI s (rdS false 0 0 s).1) (rdS false 0 0 s).2/\nL (sgI s (rdS false 0 0 s).1) (rdS false 0 0 s).2=s
 ·obtain⟨e1,e2⟩:=yes _ _ hp.1 hp.2
  rw[e1,e2]
 ·have e2:aW s=((0,0),13):=by
   unfold aW
   rw[if_neg h0,if_neg hl,if_neg hp]
  rw[e2]
  unfold xr
  split
  ·rename_i n hn
   split
   ·rename_i hh
    have:=(yes _ _ hh.1 hh.2.1).2
    rw[e2] at this
    simp at this
   ·rfl
  ·rfl
theorem ey {e:List (Nat×AV)}{σ:List (Nat×Blk)}{new:Nat}(ng:Bool)(x y:AX):jY e σ new (.inil ng x y)=gH [] (pR ng (evE e x) (evE e y)):=by
 simp only[jY,gH];cases pR ng (evE e x) (evE e y)<;>rfl
theorem sm (ng:Bool)(T:Nat)(p:PV):pR ng (.pv (.iface T p)) (.pv .nili)=some (.pv (.bool ng)):=rfl
theorem eB (ng:Bool):pR ng (.pv .nili) (.pv .nili)=some (.pv (.bool (!ng))):=rfl
theorem m5 {n:Int}(h:-9223372036854775808<n)(h2:n<=9223372036854775807)(c:Nat) :
  au Tryz.prog aH 42 [.agg [.int .i64 n,.int .i64 (c:Int)]] (.tup [.str (if IsN n c then nL n c else []),.int .i64 (if IsN n c then 0 else 2)]):=by
 by_cases hn:IsN n c
 ·rw[if_pos hn,if_pos hn];exact Oa hn
 ·rw[if_neg hn,if_neg hn];exact Az h h2 hn
theorem P4 (s:List UInt8):Rb s = .tup [.str (rh s).1,.str (rh s).2.1,.bool (rh s).2.2]:=by
 unfold Rb rh
 cases h:rL s with
 | none=>rfl
 | some q=>rfl
theorem HT (s:List UInt8):(rh s).1.length+(rh s).2.1.length<=s.length:=by
 unfold rh
 split
 ·rename_i a b h
  rw[(DS 0 h).2]
  simp
 ·simp
theorem bM {T:Nat}{p:PV}(s:List UInt8):au Tryz.prog (bE T p) 113 [.str s] (.tup [.agg [.int .i64 (aW s).1.1,.int .i64 ((aW s).1.2:Int)],.int .i64 (aW s).2]):=by
 by_cases h0:s=[]
 ·subst h0
  unfold aW
  rw[if_pos rfl]
  refine au.intro kD.2 (by simp[kD]) ?_
  simp(disch:=try exact dI) only[kD,push_cast,seval]
 have h0b:decide (s=[])=false:=decide_eq_false h0
 by_cases hl:17<s.length
 ·unfold aW
  rw[if_neg h0,if_pos hl]
  have hlI:(17:Int)<(s.length:Int):=by omega
  refine au.intro kD.2 (by simp[kD]) ?_
  simp(disch:=try exact dI) only[kD,h0b,push_cast,seval]
 rw[<- Gk h0 hl]
 have hlI:¬ (17:Int)<(s.length:Int):=by omega
 have hc:=toE (T:=T) (p:=p) (SC s (by omega))
 rw[P4] at hc
 have hcl:=HT s
 unfold xr
 generalize rh s=W at *
 obtain⟨w,r,b⟩:=W
 simp only at hc hcl ⊢
 have ha:=MZ (T:=T) (p:=p) (w++r) (by simp;omega)
 have hbd:=fun n=>za (s:=w++r) (n:=n) (by simp;omega)
 cases hv:Lib.atoi (w++r) with
 | none=>
   rw[hv] at ha
   simp only[MY,Ey] at ha
   have ht:=toE (T:=T) (p:=p) (m5 (n:=0) (by omega) (by omega) r.length)
   generalize (if IsN 0 r.length then nL 0 r.length else [])=t1 at *
   generalize (if IsN 0 r.length then (0:Int) else 2)=t2 at *
   refine au.intro kD.2 (by simp[kD]) ?_
   simp(disch:=try exact dI) only[kD,h0b,push_cast,seval]
   refine ae.pure hc rfl ?_
   refine zgZ ?_
   refine ae.pure ha rfl ?_
   refine zgZ ?_
   refine ae.pure ht rfl ?_
   simp(disch:=try exact dI) only[ey,sm,push_cast,seval]
 | some n=>
   rw[hv] at ha
   simp only[MY] at ha
   have hb:=hbd n hv
   have ht:=toE (T:=T) (p:=p) (m5 (n:=n) (by omega) (by omega) r.length)
   simp only
   by_cases hn:IsN n r.length
   ·rw[if_pos hn,if_pos hn] at ht
    by_cases hd:nL n r.length=s
    ·rw[hd] at ht
     cases b with
     | true=>
       by_cases hr:r=[]
       ·rw[if_neg (fun h=>h.2.2 rfl hr)]
        subst hr
        rw[U5] at ha
        refine au.intro kD.2 (by simp[kD]) ?_
        simp(disch:=try exact dI) only[kD,h0b,push_cast,seval]
        refine ae.pure hc rfl ?_
        refine zgZ ?_
        refine ae.pure ha rfl ?_
        refine zgZ ?_
        refine ae.pure ht rfl ?_
        simp(disch:=try exact dI) only[ey,eB,push_cast,seval]
       ·rw[if_pos ⟨hn,hd,fun _=>hr⟩]
        have hrb:decide (r=[])=false:=decide_eq_false hr
        refine au.intro kD.2 (by simp[kD]) ?_
        simp(disch:=try exact dI) only[kD,h0b,push_cast,seval]
        refine ae.pure hc rfl ?_
        refine zgZ ?_
        refine ae.pure ha rfl ?_
        refine zgZ ?_
        refine ae.pure ht rfl ?_
        simp(disch:=try exact dI) only[hrb,ey,eB,push_cast,seval]
     | false=>
       rw[if_pos ⟨hn,hd,fun h=>by cases h⟩]
       refine au.intro kD.2 (by simp[kD]) ?_
       simp(disch:=try exact dI) only[kD,h0b,push_cast,seval]
       refine ae.pure hc rfl ?_
       refine zgZ ?_
       refine ae.pure ha rfl ?_
       refine zgZ ?_
       refine ae.pure ht rfl ?_
       simp(disch:=try exact dI) only[ey,eB,push_cast,seval]
    ·rw[if_neg (fun h=>hd h.2.1)]
     generalize nL n r.length=t at *
     have htb:(!decide (t=s))=true:=by simp[hd]
     refine au.intro kD.2 (by simp[kD]) ?_
     simp(disch:=try exact dI) only[kD,h0b,push_cast,seval]
     refine ae.pure hc rfl ?_
     refine zgZ ?_
     refine ae.pure ha rfl ?_
     refine zgZ ?_
     refine ae.pure ht rfl ?_
     simp(disch:=try exact dI) only[htb,ey,eB,push_cast,seval]
   ·rw[if_neg hn,if_neg hn] at ht
    rw[if_neg (fun h=>hn h.1)]
    refine au.intro kD.2 (by simp[kD]) ?_
    simp(disch:=try exact dI) only[kD,h0b,push_cast,seval]
    refine ae.pure hc rfl ?_
    refine zgZ ?_
    refine ae.pure ha rfl ?_
    refine zgZ ?_
    refine ae.pure ht rfl ?_
    simp(disch:=try exact dI) only[ey,eB,push_cast,seval]
theorem uU (s:List UInt8)(k:Nat)(hk:k<=8):au Tryz.prog aH 193 [.str s,.int .i64 (k:Int)] (Jb s (xJ k s)):=by
 refine au.intro Rn.2 (by simp[Rn]) ?_
 by_cases hl:s.length<k
 ·rw[show xJ k s=none from if_neg (by omega)]
  simp(disch:=try exact dI) only[Rn,Jb,push_cast,seval]
 ·obtain⟨R,hR⟩:∃ R,R=xJ k s:=⟨_,rfl⟩
  rw[<- hR]
  simp(disch:=try exact dI) only[Rn,push_cast,seval]
  refine aK ([]) (fun i:Nat=>[(4,.pv (.int .i64 (ml 0 (s.take i)))),(14,.pv (.int .i64 (i:Int)))]) (fun _=>[]) (fun i=>i<=k/\(s.take i).all isD=true) (fun i=>k - i) (0) ?_;intro e0 σ0 n0 h0;simp(disch:=try exact dI) only[push_cast,seval] at h0;obtain⟨rfl,rfl,rfl⟩:=h0;refine⟨?_,?_,?_⟩
  ·refine zgZ ?_
   rfl
  ·exact⟨by omega,by simp⟩
  rintro i ⟨hi,hd⟩
  have hdl:=P0 hd (by simp;omega)
  by_cases hlt:i<k
  ·obtain⟨c,hc⟩:∃ c,s[i]? = some c:=⟨_,Uo (by omega)⟩
   have hcl:=c.toNat_lt
   have hw:=ic (n:=(c.toNat:Int)) (by omega) (by omega)
   have hts:=bc hc
   by_cases hcd:isD c=true
   ·have hb:=lM hcd
    have hin:=ep (n:=(c.toNat:Int)) (lo:=48) (hi:=57) ⟨by omega,by omega⟩
    have hw2:=ic (n:=(c.toNat:Int) - 48) (by omega) (by omega)
    have hdv:ml 0 (s.take (i+1))=10*ml 0 (s.take i)+((c.toNat:Int) - 48):=by rw[hts,oX]
    have hd2:(s.take (i+1)).all isD=true:=by rw[hts,List.all_append,hd];simp[hcd]
    simp(disch:=try exact dI) only[hc,ag,hw,push_cast,seval]
    refine ae.pure hin rfl ?_
    simp(disch:=try exact dI) only[hc,ag,hw2,push_cast,seval]
    exact⟨i+1,bu (by simp(disch:=try exact dI) only[hdv,push_cast,seval]),⟨by omega,hd2⟩,by omega⟩
   ·have hin:=oF (n:=(c.toNat:Int)) (lo:=48) (hi:=57) (fun h=>hcd (by simp[isD];omega))
    have hnone:R=none:=by
     rw[hR]
     refine if_neg fun h=>hcd ?_
     exact List.all_eq_true.1 h.2 c (Uw (i:=i) (by rw[List.getElem?_take_of_lt hlt];exact hc))
    rw[hnone]
    simp(disch:=try exact dI) only[hc,ag,hw,push_cast,seval]
    refine ae.pure hin rfl ?_
    simp(disch:=try exact dI) only[Jb,push_cast,seval]
  ·have hik:i=k:=by omega
   subst hik
   have hsome:R=some (ml 0 (s.take i),s.drop i):=by rw[hR];exact if_pos ⟨by omega,hd⟩
   rw[hsome]
   simp(disch:=try exact dI) only[Jb,U2,push_cast,seval]
theorem lR (s p:List UInt8):au Tryz.prog aH 203 [.str s,.str p] (.bool (decide (s.take p.length=p/\p.length<=s.length))):=by
 refine au.intro QM.2 (by simp[QM]) ?_
 by_cases hl:p.length<=s.length
 ·by_cases he:s.take p.length=p
  ·rw[show decide (s.take p.length=p/\p.length<=s.length)=true from decide_eq_true ⟨he,hl⟩]
   simp(disch:=try exact dI) only[QM,he,push_cast,seval]
  ·rw[show decide (s.take p.length=p/\p.length<=s.length)=false from decide_eq_false (fun h=>he h.1)]
   simp(disch:=try exact dI) only[QM,he,push_cast,seval]
 ·rw[show decide (s.take p.length=p/\p.length<=s.length)=false from decide_eq_false (fun h=>hl h.2)]
  simp(disch:=try exact dI) only[QM,push_cast,seval]
def fD (p s:List UInt8):Bool:=decide (s.take p.length=p/\p.length<=s.length)
theorem DU (s p:List UInt8):au Tryz.prog aH 224 [.str s,.str p] (.tup [.str (if fD p s=true then s.drop p.length else s),.bool (fD p s)]):=by
 have hp:=lR s p
 have hl:fD p s=true->p.length<=s.length:=fun h=>(of_decide_eq_true h).2
 refine au.intro Rm.2 (by simp[Rm]) ?_
 change au Tryz.prog aH 203 [.str s,.str p] (.bool (fD p s)) at hp
 cases hb:fD p s with
 | true=>
   have:=hl hb
   rw[hb] at hp
   simp only[if_true]
   simp(disch:=try exact dI) only[Rm,push_cast,seval]
   refine ae.pure hp rfl ?_
   simp(disch:=try exact dI) only[U2,push_cast,seval]
 | false=>
   rw[hb] at hp
   simp only[Bool.false_eq_true,if_false]
   simp(disch:=try exact dI) only[Rm,push_cast,seval]
   refine ae.pure hp rfl ?_
   exact qsZ
theorem v7 (s p:List UInt8):au Tryz.prog aH 192 [.str s,.str p] (.tup [.str (if fD p s=true then s.drop p.length else s),.bool (fD p s)]):=by
 have h:=DU s p
 generalize (if fD p s=true then s.drop p.length else s)=q at *
 generalize fD p s=b at *
 refine au.intro S8.2 (by simp[S8]) ?_
 simp(disch:=try exact dI) only[S8,push_cast,seval]
 refine ae.pure h rfl ?_
 exact qsZ
def NJ (n:Nat):PV:=.int .i64 n
def en:List (List UInt8)->List Nat->List UInt8->Option (List Int×List UInt8)
 | [],_,s=>some ([],s)
 | _::_,[],_=>none
 | m::ms,k::ks,s=>if fD m s=true then (match xJ k (s.drop m.length) with
   | some p=>(en ms ks p.2).map fun q=>(p.1::q.1,q.2)
   | none=>none) else none
def p7 (s:List UInt8):Option (List Int×List UInt8)->PV
 | some p=>.tup [.list (p.1.map (PV.int .i64)),.str p.2,.bool true]
 | none=>.tup [.nils,.str s,.bool false]
theorem p8 (s:List UInt8)(ms:List (List UInt8))(ks:List Nat)(hm:ms.length=ks.length)(hl:ms.length<=100)(hk:∀ k,k∈ks->k<=8) :
  au Tryz.prog aH 190 [.str s,.list (ms.map PV.str),.list (ks.map NJ)] (p7 s (en ms ks s)):=by
 obtain⟨R,hR⟩:∃ R,R=en ms ks s:=⟨_,rfl⟩
 rw[<- hR]
 refine au.intro S9.2 (by simp[S9]) ?_
 simp(disch:=try exact dI) only[S9,push_cast,seval]
 refine aK ([(6,0,3,1)]) (fun y:Nat×List Int×List UInt8=>[(6,.olist 0 1 (y.2.1.map (PV.int .i64))),(7,.pv (.str y.2.2)),(15,.pv (.int .i64 (y.1:Int)))]) (fun _=>[]) (fun y=>y.1<=ms.length/\y.2.1.length<=y.1/\R=(en (ms.drop y.1) (ks.drop y.1) y.2.2).map fun q=>(y.2.1++q.1,q.2)) (fun y=>ms.length - y.1) ((0,[],s)) ?_;intro e0 σ0 n0 h0;simp(disch:=try exact dI) only[push_cast,seval] at h0;obtain⟨rfl,rfl,rfl⟩:=h0;refine⟨?_,?_,?_⟩
 ·exact qsZ
 ·exact⟨by simp,by simp,by simp[hR]⟩
 rintro⟨i,L,r⟩ ⟨h1,h2,h3⟩
 simp only at h1 h2 h3
 by_cases hlt:i<ms.length
 ·obtain⟨m,hmi⟩:∃ m,ms[i]? = some m:=⟨_,Uo hlt⟩
  obtain⟨k,hki⟩:∃ k,ks[i]? = some k:=⟨_,Uo (by omega)⟩
  have hmp:(ms.map PV.str)[i]? = some (.str m):=by simp[hmi]
  have hkp:(ks.map NJ)[i]? = some (.int .i64 (k:Int)):=by simp[hki,NJ]
  have hk8:=hk k (Uw hki)
  have hc:=v7 r m
  rw[aU hmi,aU hki] at h3
  simp only[en] at h3
  cases hb:fD m r with
  | false=>
    rw[hb] at hc h3
    simp only[Bool.false_eq_true,if_false,Option.map_none] at hc h3
    rw[h3]
    simp(disch:=try exact dI) only[hmp,push_cast,seval]
    refine ae.pure hc rfl ?_
    simp(disch:=try exact dI) only[p7,push_cast,seval]
  | true=>
    rw[hb] at hc h3
    simp only[if_true] at hc h3
    have hn:=uU (r.drop m.length) k hk8
    cases hv:xJ k (r.drop m.length) with
    | none=>
      rw[hv] at hn h3
      simp only[Jb,Option.map_none] at hn h3
      rw[h3]
      simp(disch:=try exact dI) only[hmp,push_cast,seval]
      refine ae.pure hc rfl ?_
      simp(disch:=try exact dI) only[hkp,push_cast,seval]
      refine ae.pure hn rfl ?_
      simp(disch:=try exact dI) only[p7,push_cast,seval]
    | some p=>
      rw[hv] at hn h3
      simp only[Jb] at hn h3
      simp(disch:=try exact dI) only[hmp,push_cast,seval]
      refine ae.pure hc rfl ?_
      simp(disch:=try exact dI) only[hkp,push_cast,seval]
      refine ae.pure hn rfl ?_
      refine zgZ ?_
      exact⟨(i+1,L++[p.1],p.2),bu (by simp(disch:=try exact dI) only[List.map_append,push_cast,seval]),⟨by simp only;omega,by simp;omega,by rw[h3,Option.map_map];congr 1;funext q;simp⟩,by simp only;omega⟩
 ·have hi:i=ms.length:=by omega
  have hd1:ms.drop i=[]:=List.drop_eq_nil_of_le (by omega)
  rw[hd1] at h3
  simp only[en,UD,U5] at h3
  rw[h3]
  simp(disch:=try exact dI) only[p7,push_cast,seval]
