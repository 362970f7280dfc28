/- A part of the proof. -/
import Derived.Test.YtbojpfpliibfbaaGreatDoorDeRSh4
set_option maxHeartbeats 16000000
set_option maxRecDepth 100000
set_option linter.unusedVariables false
set_option linter.unusedSimpArgs false
namespace Go.Proofs.YtbojpfpliibfbaaGreatDoor
open Go Go.Ab
theorem i8:∀ (k acc a:Nat) (r:List UInt8),Lib.decFrom acc (bn k a++r)=Lib.decFrom (acc*10 ^ k+a % 10 ^ k) r
 | 0,acc,a,r=>by simp[bn,Nat.mod_one]
 | k+1,acc,a,r=>by
   rw[bn,List.append_assoc,i8 k acc (a / 10)]
   have hd:(UInt8.ofNat (48+a % 10)).toNat=48+a % 10:=by
    rw[UInt8.toNat_ofNat'];omega
   have hv:Lib.digitVal (UInt8.ofNat (48+a % 10))=some (a % 10):=by
    unfold Lib.digitVal
    rw[hd,if_pos (by omega)]
    congr 1;omega
   rw[List.singleton_append,Lib.decFrom,hv]
   have e:a % 10 ^ (k+1)=a % 10+10*(a / 10 % 10 ^ k):=by rw[Nat.pow_succ,Nat.mul_comm,Nat.mod_mul]
   rw[e,Nat.pow_succ]
   simp only
   congr 1
   have e2:acc*(10 ^ k*10)=acc*10 ^ k*10:=by rw[Nat.mul_assoc]
   rw[e2]
   omega
theorem oE:∀ (k v c a:Nat) (r:List UInt8),rdS false v c (bn k a++r)=rdS false (v*10 ^ k+a % 10 ^ k) c r
 | 0,v,c,a,r=>by simp[bn,Nat.mod_one]
 | k+1,v,c,a,r=>by
   rw[bn,List.append_assoc,oE k v c (a / 10)]
   have hd:(UInt8.ofNat (48+a % 10)).toNat=48+a % 10:=by
    rw[UInt8.toNat_ofNat'];omega
   have hD:isD (UInt8.ofNat (48+a % 10))=true:=by unfold isD;rw[hd];simp;omega
   have h46:(false||decide (UInt8.ofNat (48+a % 10)=46))=false:=by
    rw[Bool.false_or]
    refine decide_eq_false fun h=>?_
    have:=congrArg UInt8.toNat h
    rw[hd] at this
    simp at this
    omega
   rw[List.singleton_append,rdS,if_pos hD,h46,hd]
   have e:a % 10 ^ (k+1)=a % 10+10*(a / 10 % 10 ^ k):=by rw[Nat.pow_succ,Nat.mul_comm,Nat.mod_mul]
   rw[e,Nat.pow_succ]
   simp only[Bool.false_eq_true,if_false]
   congr 1
   have e2:v*(10 ^ k*10)=v*10 ^ k*10:=by rw[Nat.mul_assoc]
   rw[e2]
   omega
theorem sY:∀ (k v c a:Nat) (r:List UInt8),rdS true v c (bn k a++r)=rdS true (v*10 ^ k+a % 10 ^ k) (c+k) r
 | 0,v,c,a,r=>by simp[bn,Nat.mod_one]
 | k+1,v,c,a,r=>by
   rw[bn,List.append_assoc,sY k v c (a / 10)]
   have hd:(UInt8.ofNat (48+a % 10)).toNat=48+a % 10:=by
    rw[UInt8.toNat_ofNat'];omega
   have hD:isD (UInt8.ofNat (48+a % 10))=true:=by unfold isD;rw[hd];simp;omega
   rw[List.singleton_append,rdS,if_pos hD,hd]
   have e:a % 10 ^ (k+1)=a % 10+10*(a / 10 % 10 ^ k):=by rw[Nat.pow_succ,Nat.mul_comm,Nat.mod_mul]
   rw[e,Nat.pow_succ]
   simp only[Bool.true_or,if_true]
   have e2:v*(10 ^ k*10)=v*10 ^ k*10:=by rw[Nat.mul_assoc]
   rw[e2]
   congr 1
   omega
theorem wn:∀ (k a:Nat),mK (bn k a)=none/\∀ r,mK (bn k a++46::r)=some (bn k a,r)
 | k,a=>by
   have key:∀ l:List UInt8,(∀ x,x∈l->x≠46)->mK l=none/\∀ r,mK (l++46::r)=some (l,r):=by
    intro l
    induction l with
    | nil=>intro _;exact⟨rfl,fun r=>by simp[mK]⟩
    | cons c l ih=>
      intro h
      have hc:c≠46:=h c (by simp)
      have ih:=ih fun x hx=>h x (by simp[hx])
      refine⟨by rw[mK,if_neg hc,ih.1];rfl,fun r=>by rw[List.cons_append,mK,if_neg hc,ih.2 r];rfl⟩
   refine key _ ?_
   have:∀ (k a:Nat) x,x∈bn k a->48<=x.toNat:=by
    intro k
    induction k with
    | zero=>intro a x hx;simp[bn] at hx
    | succ k ih=>
      intro a x hx
      rw[bn,List.mem_append] at hx
      rcases hx with hx | hx
      ·exact ih _ x hx
      ·simp only[List.mem_singleton] at hx
       rw[hx,UInt8.toNat_ofNat']
       omega
   intro x hx e
   have:=this k a x hx
   rw[e] at this
   revert this;decide
theorem o7 {k a:Nat}(hk:0<k):∃ c r,bn k a=c::r/\48<=c.toNat/\c.toNat<=57:=by
 obtain⟨j,rfl⟩:∃ j,k=j+1:=⟨k - 1,by omega⟩
 refine⟨UInt8.ofNat (48+a / 10 ^ j % 10),bn j a,ko j a,?_,?_⟩
 ·rw[UInt8.toNat_ofNat'];omega
 ·rw[UInt8.toNat_ofNat'];omega
structure DecP (n:Int)(c:Nat)(A B:List UInt8):Prop where
 cut:mK (ew n c)=if c=0 then none else some (A,B)
 txt:ew n c=if c=0 then A else A++46::B
 len:B.length=c
 val:Lib.atoi (A++B)=some n
 rd:rdS false 0 0 (ew n c)=(n.natAbs,c)
 sg:sgI (ew n c) n.natAbs=n
 ne:ew n c≠[]
theorem decP {n:Int}{c:Nat}(h:IsN n c):∃ A B,DecP n c A B:=by
 obtain⟨h1,h2,h3⟩:=h
 have hlt:n.natAbs<10 ^ 15:=by simp;omega
 have hdl:=lc hlt
 obtain⟨a,ha⟩:∃ a,a=n.natAbs:=⟨_,rfl⟩
 rw[<- ha] at hlt hdl
 obtain⟨K,hK⟩:∃ K,K=max (dl a) (c+1):=⟨_,rfl⟩
 have haK:a<10 ^ K:=Nat.lt_of_lt_of_le hdl.2.2 (Nat.pow_le_pow_right (by omega) (by omega))
 have hsp:=fq (K - c) c a
 rw[show K - c+c=K by omega] at hsp
 have hdec:ew n c=(if n<0 then [45] else [])++(bn (K - c) (a / 10 ^ c)++(if c=0 then [] else 46::bn c a)):=by unfold ew;rw[<- ha,<- hK]
 have hni:=wn (K - c) (a / 10 ^ c)
 obtain⟨x,r,hx,hx1,hx2⟩:=o7 (k:=K - c) (a:=a / 10 ^ c) (by omega)
 have hx45:x≠45:=by intro e;subst e;revert hx1;decide
 have hx43:x≠43:=by intro e;subst e;revert hx1;decide
 have hq:a / 10 ^ c % 10 ^ (K - c)=a / 10 ^ c:=by
  refine Nat.mod_eq_of_lt (Nat.div_lt_of_lt_mul ?_)
  rw[<- Nat.pow_add,show c+(K - c)=K by omega]
  exact haK
 have hrd:rdS false 0 0 (bn (K - c) (a / 10 ^ c)++(if c=0 then [] else 46::bn c a))=(a,c):=by
  rw[oE,hq]
  by_cases h0:c=0
  ·rw[if_pos h0,h0];simp[rdS]
  ·rw[if_neg h0,rdS,if_neg (by decide)]
   have:=sY c (0*10 ^ (K - c)+a / 10 ^ c) 0 a []
   rw[List.append_nil] at this
   rw[show (false||decide ((46:UInt8)=46))=true from rfl,this,rdS]
   rw[show 0*10 ^ (K - c)+a / 10 ^ c=a / 10 ^ c by omega,Nat.zero_add]
   have e2:=Nat.div_add_mod a (10 ^ c)
   rw[Nat.mul_comm] at e2
   rw[e2]
 have hval:Lib.decNat (bn K a)=some a:=by
  unfold Lib.decNat
  have hne:(bn K a).isEmpty=false:=by
   obtain⟨y,q,hy,_⟩:=o7 (k:=K) (a:=a) (by omega)
   rw[hy];rfl
  rw[hne]
  have:=i8 K 0 a []
  rw[List.append_nil] at this
  simp only[Bool.false_eq_true,if_false]
  rw[this,Lib.decFrom,Nat.mod_eq_of_lt haK]
  congr 1;omega
 by_cases hneg:n<0
 ·rw[if_pos hneg] at hdec
  refine⟨45::bn (K - c) (a / 10 ^ c),bn c a,?_⟩
  constructor
  ·rw[hdec,List.singleton_append,mK,if_neg (by decide)]
   by_cases h0:c=0
   ·rw[if_pos h0,if_pos h0,List.append_nil,hni.1];rfl
   ·rw[if_neg h0,if_neg h0,hni.2];rfl
  ·rw[hdec]
   by_cases h0:c=0
   ·rw[if_pos h0,if_pos h0];simp
   ·rw[if_neg h0,if_neg h0];simp
  ·exact cS c a
  ·rw[List.cons_append,<- hsp]
   unfold Lib.atoi
   simp only[beq_self_eq_true,if_true]
   rw[hval]
   simp only[Option.map_some]
   congr 1;omega
  ·rw[hdec,List.singleton_append,rdS,if_neg (by decide)]
   rw[show (false||decide ((45:UInt8)=46))=false from rfl,hrd,<- ha]
  ·unfold sgI
   rw[hdec,List.singleton_append,List.head?_cons,if_pos rfl]
   omega
  ·rw[hdec];simp
 ·rw[if_neg hneg] at hdec
  rw[List.nil_append] at hdec
  refine⟨bn (K - c) (a / 10 ^ c),bn c a,?_⟩
  constructor
  ·rw[hdec]
   by_cases h0:c=0
   ·rw[if_pos h0,if_pos h0,List.append_nil,hni.1]
   ·rw[if_neg h0,if_neg h0,hni.2]
  ·rw[hdec]
   by_cases h0:c=0
   ·rw[if_pos h0,if_pos h0];simp
   ·rw[if_neg h0,if_neg h0]
  ·exact cS c a
  ·rw[<- hsp]
   have hval':=hval
   rw[hsp,hx] at hval' ⊢
   rw[List.cons_append] at hval' ⊢
   unfold Lib.atoi
   simp only
   rw[show (x == 45)=false by simpa using hx45,show (x == 43)=false by simpa using hx43]
   simp only[Bool.false_eq_true,if_false]
   rw[hval']
   simp only[Option.map_some]
   congr 1;omega
  ·rw[hdec,hrd,<- ha]
  ·unfold sgI
   rw[hdec,hx,List.cons_append,List.head?_cons,if_neg (by simpa using hx45)]
   omega
  ·rw[hdec,hx];simp
theorem pN:∀ (l:List UInt8) (acc m:Nat),Lib.decFrom acc l=some m->m+1<=(acc+1)*10 ^ l.length
 | [],acc,m,h=>by simp only[Lib.decFrom] at h;cases h;simp
 | b::r,acc,m,h=>by
   rw[Lib.decFrom] at h
   unfold Lib.digitVal at h
   split at h
   ·rename_i hd
    split at hd
    ·rename_i hb
     cases hd
     have ih:=pN r _ m h
     refine Nat.le_trans ih ?_
     rw[List.length_cons,Nat.pow_succ,Nat.mul_comm (10 ^ r.length) 10,<- Nat.mul_assoc]
     exact Nat.mul_le_mul_right _ (by omega)
    ·cases hd
   ·cases h
theorem xU {s:List UInt8}{n:Int}(hl:s.length<=18)(h:Lib.atoi s=some n):n.natAbs<=1000000000000000000:=by
 have key:∀ (l:List UInt8) (m:Nat),l.length<=18->Lib.decNat l=some m->m<=1000000000000000000:=by
  intro l m hl h
  unfold Lib.decNat at h
  split at h
  ·cases h
  ·have:=pN l 0 m h
   have hp:10 ^ l.length<=10 ^ 18:=Nat.pow_le_pow_right (by omega) hl
   omega
 cases s with
 | nil=>simp[Lib.atoi] at h
 | cons b r=>
   simp only[List.length_cons] at hl
   unfold Lib.atoi at h
   simp only at h
   split at h
   ·simp only[Option.map_eq_some_iff] at h
    obtain⟨m,hm,rfl⟩:=h
    have:=key r m (by omega) hm
    omega
   ·split at h
    ·simp only[Option.map_eq_some_iff] at h
     obtain⟨m,hm,rfl⟩:=h
     have:=key r m (by omega) hm
     omega
    ·simp only[Option.map_eq_some_iff] at h
     obtain⟨m,hm,rfl⟩:=h
     have:=key (b::r) m (by simpa using hl) hm
     omega
def pP (s:List UInt8):List UInt8×List UInt8×Bool:=
 match mK s with
 | some (a,b)=>(a,b,true)
 | none=>(s,[],false)
def vY (s:List UInt8):(Int×Nat)×Int:=
 match Lib.atoi ((pP s).1++(pP s).2.1) with
 | some n=>if IsN n (pP s).2.1.length/\ew n (pP s).2.1.length=s/\((pP s).2.2=true->(pP s).2.1≠[]) then ((n,(pP s).2.1.length),0) else ((0,0),13)
 | none=>((0,0),13)
theorem Fh {s:List UInt8}(h0:s≠[])(hl:¬ 17<s.length):vY s=aZ s:=by
 have yes:∀ n c,IsN n c->ew n c=s->vY s=((n,c),0)/\aZ s=((n,c),0):=by
  intro n c hn hd
  obtain⟨A,B,P⟩:=decP hn
  constructor
  ·have hc:=P.cut
   have ht:=P.txt
   have hv:=P.val
   rw[hd] at hc ht
   by_cases hz:c=0
   ·subst hz
    rw[if_pos rfl] at hc ht
    have hB:B=[]:=List.length_eq_zero_iff.1 P.len
    subst hB
    rw[List.append_nil] at hv
    rw[<- ht] at hv
    unfold vY pP
    rw[hc]
    simp only[List.append_nil,hv,List.length_nil]
    rw[if_pos ⟨hn,hd,by simp⟩]
   ·rw[if_neg hz] at hc
    unfold vY pP
    rw[hc]
    simp only[hv,P.len]
    rw[if_pos ⟨hn,hd,fun _ e=>hz (by rw[<- P.len,e];rfl)⟩]
  ·have hr:=P.rd
   have hs:=P.sg
   rw[hd] at hr hs
   unfold aZ
   rw[if_neg h0,if_neg hl,hr]
   simp only[hs]
   rw[if_pos ⟨hn,hd⟩]
 by_cases hp:IsN (sgI s (rdS false 0 0 s).1) (rdS false 0 0 s).2/\ew (sgI s (rdS false 0 0 s).1) (rdS false 0 0 s).2=s
 ·obtain⟨e1,e2⟩:=yes _ _ hp.1 hp.2
  rw[e1,e2]
 ·have e2:aZ s=((0,0),13):=by
   unfold aZ
   rw[if_neg h0,if_neg hl,if_neg hp]
  rw[e2]
  unfold vY
  split
  ·rename_i n hn
   split
   ·rename_i hh
    have:=(yes _ _ hh.1 hh.2.1).2
    rw[e2] at this
    simp at this
   ·rfl
  ·rfl
attribute [local irreducible] vc
theorem dK {e:List (Nat×AV)}{σ:List (Nat×Blk)}{new:Nat}(ng:Bool)(x y:AX):DO e σ new (.inil ng x y)=qz [] (oH ng (evE e x) (evE e y)):=by
 simp only[DO,qz];cases oH ng (evE e x) (evE e y)<;>rfl
theorem qY (ng:Bool)(T:Nat)(p:PV):oH ng (.pv (.iface T p)) (.pv .nili)=some (.pv (.bool ng)):=rfl
theorem dN (ng:Bool):oH ng (.pv .nili) (.pv .nili)=some (.pv (.bool (!ng))):=rfl
theorem lT {n:Int}(h:-9223372036854775808<n)(h2:n<=9223372036854775807)(c:Nat) :
  ak Tryz.prog ap 83 [.agg [.int .i64 n,.int .i64 (c:Int)]] (.tup [.str (if IsN n c then ew n c else []),.int .i64 (if IsN n c then 0 else 2)]):=by
 by_cases hn:IsN n c
 ·rw[if_pos hn,if_pos hn];exact HG hn
 ·rw[if_neg hn,if_neg hn];exact yT h h2 hn
theorem Oi (s:List UInt8):L2 s = .tup [.str (pP s).1,.str (pP s).2.1,.bool (pP s).2.2]:=by
 unfold L2 pP
 cases h:mK s with
 | none=>rfl
 | some q=>rfl
theorem GX (s:List UInt8):(pP s).1.length+(pP s).2.1.length<=s.length:=by
 unfold pP
 split
 ·rename_i a b h
  rw[(lf 0 h).2]
  simp
 ·simp
theorem JV {T:Nat}{p:PV}(s:List UInt8):ak Tryz.prog (d6 T p) 206 [.str s] (.tup [.agg [.int .i64 (aZ s).1.1,.int .i64 ((aZ s).1.2:Int)],.int .i64 (aZ s).2]):=by
 by_cases h0:s=[]
 ·subst h0
  unfold aZ
  rw[if_pos rfl]
  refine ak.intro jJ.2 (by simp[jJ]) ?_
  simp(disch:=try exact dI) only[jJ,push_cast,seval]
 have h0b:decide (s=[])=false:=decide_eq_false h0
 by_cases hl:17<s.length
 ·unfold aZ
  rw[if_neg h0,if_pos hl]
  have hlI:(17:Int)<(s.length:Int):=by omega
  refine ak.intro jJ.2 (by simp[jJ]) ?_
  simp(disch:=try exact dI) only[jJ,h0b,push_cast,seval]
 rw[<- Fh h0 hl]
 have hlI:¬ (17:Int)<(s.length:Int):=by omega
 have hc:=toE (T:=T) (p:=p) (Rb s (by omega))
 rw[Oi] at hc
 have hcl:=GX s
 unfold vY
 generalize pP s=W at *
 obtain⟨w,r,b⟩:=W
 simp only at hc hcl ⊢
 have ha:=O3 (T:=T) (p:=p) (w++r) (by simp;omega)
 have hbd:=fun n=>xU (s:=w++r) (n:=n) (by simp;omega)
 cases hv:Lib.atoi (w++r) with
 | none=>
   rw[hv] at ha
   simp only[Li,Dv] at ha
   have ht:=toE (T:=T) (p:=p) (lT (n:=0) (by omega) (by omega) r.length)
   generalize (if IsN 0 r.length then ew 0 r.length else [])=t1 at *
   generalize (if IsN 0 r.length then (0:Int) else 2)=t2 at *
   refine ak.intro jJ.2 (by simp[jJ]) ?_
   simp(disch:=try exact dI) only[jJ,h0b,push_cast,seval]
   refine ab.pure hc rfl ?_
   refine zgZ ?_
   refine ab.pure ha rfl ?_
   refine zgZ ?_
   refine ab.pure ht rfl ?_
   simp(disch:=try exact dI) only[dK,qY,push_cast,seval]
 | some n=>
   rw[hv] at ha
   simp only[Li] at ha
   have hb:=hbd n hv
   have ht:=toE (T:=T) (p:=p) (lT (n:=n) (by omega) (by omega) r.length)
   simp only
   by_cases hn:IsN n r.length
   ·rw[if_pos hn,if_pos hn] at ht
    by_cases hd:ew n r.length=s
    ·rw[hd] at ht
     cases b with
     | true=>
       by_cases hr:r=[]
       ·rw[if_neg (fun h=>h.2.2 rfl hr)]
        subst hr
        rw[List.append_nil] at ha
        refine ak.intro jJ.2 (by simp[jJ]) ?_
        simp(disch:=try exact dI) only[jJ,h0b,push_cast,seval]
        refine ab.pure hc rfl ?_
        refine zgZ ?_
        refine ab.pure ha rfl ?_
        refine zgZ ?_
        refine ab.pure ht rfl ?_
        simp(disch:=try exact dI) only[dK,dN,push_cast,seval]
       ·rw[if_pos ⟨hn,hd,fun _=>hr⟩]
        have hrb:decide (r=[])=false:=decide_eq_false hr
        refine ak.intro jJ.2 (by simp[jJ]) ?_
        simp(disch:=try exact dI) only[jJ,h0b,push_cast,seval]
        refine ab.pure hc rfl ?_
        refine zgZ ?_
        refine ab.pure ha rfl ?_
        refine zgZ ?_
        refine ab.pure ht rfl ?_
        simp(disch:=try exact dI) only[hrb,dK,dN,push_cast,seval]
     | false=>
       rw[if_pos ⟨hn,hd,fun h=>by cases h⟩]
       refine ak.intro jJ.2 (by simp[jJ]) ?_
       simp(disch:=try exact dI) only[jJ,h0b,push_cast,seval]
       refine ab.pure hc rfl ?_
       refine zgZ ?_
       refine ab.pure ha rfl ?_
       refine zgZ ?_
       refine ab.pure ht rfl ?_
       simp(disch:=try exact dI) only[dK,dN,push_cast,seval]
    ·rw[if_neg (fun h=>hd h.2.1)]
     generalize ew n r.length=t at *
     have htb:(!decide (t=s))=true:=by simp[hd]
     refine ak.intro jJ.2 (by simp[jJ]) ?_
     simp(disch:=try exact dI) only[jJ,h0b,push_cast,seval]
     refine ab.pure hc rfl ?_
     refine zgZ ?_
     refine ab.pure ha rfl ?_
     refine zgZ ?_
     refine ab.pure ht rfl ?_
     simp(disch:=try exact dI) only[htb,dK,dN,push_cast,seval]
   ·rw[if_neg hn,if_neg hn] at ht
    rw[if_neg (fun h=>hn h.1)]
    refine ak.intro jJ.2 (by simp[jJ]) ?_
    simp(disch:=try exact dI) only[jJ,h0b,push_cast,seval]
    refine ab.pure hc rfl ?_
    refine zgZ ?_
    refine ab.pure ha rfl ?_
    refine zgZ ?_
    refine ab.pure ht rfl ?_
    simp(disch:=try exact dI) only[dK,dN,push_cast,seval]
def PI:List UInt8:=[48,49,50,51,52,53,54,55,56,57,97,98,99,100,101,102]
def nib (c:UInt8):Int:=nC c PI 0
theorem fZ:∀ c:UInt8,-1<=nib c/\nib c<=15/\nib c=if 48<=(c.toNat:Int)/\(c.toNat:Int)<=57 then (c.toNat:Int) - 48 else if 97<=(c.toNat:Int)/\(c.toNat:Int)<=102 then (c.toNat:Int) - 97+10 else -1:=by
 have key:∀ k:Fin 256,-1<=nib (UInt8.ofNat k.val)/\nib (UInt8.ofNat k.val)<=15/\nib (UInt8.ofNat k.val)=if 48<=((UInt8.ofNat k.val).toNat:Int)/\((UInt8.ofNat k.val).toNat:Int)<=57 then ((UInt8.ofNat k.val).toNat:Int) - 48 else if 97<=((UInt8.ofNat k.val).toNat:Int)/\((UInt8.ofNat k.val).toNat:Int)<=102 then ((UInt8.ofNat k.val).toNat:Int) - 97+10 else -1:=by decide +kernel
 intro c
 have h:=key ⟨c.toNat,c.toNat_lt⟩
 simpa using h
theorem H1 (c:UInt8):ak Tryz.prog ap 208 [.str PI,.int .u8 (c.toNat:Int)] (.int .i64 (nib c)):=by
 have h:=Ky PI (c.toNat:Int)
 rw[show ((c.toNat:Int)).toNat.toUInt8=c by simp] at h
 exact h
theorem pb (c:UInt8):ak Tryz.prog ap 116 [.int .u8 (c.toNat:Int)] (.int .i64 (nib c)):=by
 have h:=(fZ c).2.2
 have hl:=c.toNat_lt
 rw[h]
 generalize (c.toNat:Int)=n at *
 refine ak.intro LJ.2 (by simp[LJ]) ?_
 by_cases a:48<=n
 ·by_cases b:n<=57
  ·rw[if_pos ⟨a,b⟩]
   simp(disch:=try exact dI) only[LJ,a,b,push_cast,seval]
  ·rw[if_neg (fun h=>b h.2)]
   by_cases a2:97<=n
   ·by_cases b2:n<=102
    ·rw[if_pos ⟨a2,b2⟩]
     simp(disch:=try exact dI) only[LJ,a,b,a2,b2,push_cast,seval]
    ·rw[if_neg (fun h=>b2 h.2)]
     simp(disch:=try exact dI) only[LJ,a,b,a2,b2,push_cast,seval]
   ·rw[if_neg (fun h=>a2 h.1)]
    simp(disch:=try exact dI) only[LJ,a,b,a2,push_cast,seval]
 ·rw[if_neg (fun h=>a h.1),if_neg (fun h=>a (by omega))]
  have a2:¬ 97<=n:=by omega
  simp(disch:=try exact dI) only[LJ,a,a2,push_cast,seval]
def Lf (a b:UInt8):UInt8:=UInt8.ofNat (16*(nib a).toNat+(nib b).toNat)
def kK:List UInt8->Option (List UInt8)
 | []=>some []
 | [_]=>none
 | a::b::r=>if nib a<0\/nib b<0 then none else (kK r).map (Lf a b :: ·)
theorem tT:∀ {s:List UInt8},s.length % 2=1->kK s=none
 | [],h=>by simp at h
 | [_],_=>rfl
 | a::b::r,h=>by
   rw[kK]
   split
   ·rfl
   ·rw[tT (s:=r) (by simp only[List.length_cons] at h;omega)];rfl
theorem nB:∀ {s b:List UInt8},kK s=some b->2*b.length=s.length
 | [],b,h=>by simp only[kK,Option.some.injEq] at h;subst h;rfl
 | [_],b,h=>by simp[kK] at h
 | x::y::r,b,h=>by
   rw[kK] at h
   split at h
   ·cases h
   ·rw[Option.map_eq_some_iff] at h
    obtain⟨q,h1,rfl⟩:=h
    have:=nB h1
    simp only[List.length_cons];omega
theorem nR {a b:UInt8}(ha:¬ nib a<0)(hb:¬ nib b<0):((Lf a b).toNat:Int)=16*nib a+nib b:=by
 have h1:=fZ a
 have h2:=fZ b
 unfold Lf
 rw[UInt8.toNat_ofNat']
 omega
def eP (k n s:Int)(t:List UInt8):PV:=.agg [.int .i64 k,.int .i64 n,.int .i64 s,.str t,.nils,.nils]
def cl:PV:=.agg [.int .i64 0,.int .i64 0,.int .i64 0,.str [],.nils,.nils]
theorem G8 (s:List UInt8):ak Tryz.prog ap 209 [.str s] (eP 5 0 0 s):=by
 unfold eP
 refine ak.intro RW.2 (by simp[RW]) ?_
 simp(disch:=try exact dI) only[RW,push_cast,seval]
theorem IW (s:List UInt8):ak Tryz.prog ap 166 [.str s] (eP 4 0 0 s):=by
 unfold eP
 refine ak.intro Mp.2 (by simp[Mp]) ?_
 simp(disch:=try exact dI) only[Mp,push_cast,seval]
theorem Dm (b:Bool):ak Tryz.prog ap 163 [.bool b] (eP 1 (if b=true then 1 else 0) 0 []):=by
 unfold eP
 refine ak.intro P0.2 (by simp[P0]) ?_
 cases b
 ·rw[if_neg (by decide)]
  simp(disch:=try exact dI) only[P0,push_cast,seval]
 ·rw[if_pos rfl]
  simp(disch:=try exact dI) only[P0,push_cast,seval]
def J3:Option (List UInt8)->PV
 | some b=>.tup [eP 5 0 0 b,.int .i64 0]
 | none=>.tup [cl,.int .i64 13]
theorem AW (s:List UInt8)(hl:s.length<=1000000):ak Tryz.prog ap 167 [.str s] (J3 (kK s)):=by
 obtain⟨R,hR⟩:∃ R,R=kK s:=⟨_,rfl⟩
 rw[<- hR]
 have hm:=fI (a:=(s.length:Int)) (b:=2) (by omega)
 refine ak.intro PZ.2 (by simp[PZ]) ?_
 by_cases h2:s.length % 2=1
 ·rw[tT h2] at hR
  subst hR
  have hI:¬ (s.length:Int) % 2=0:=by omega
  simp(disch:=try exact dI) only[PZ,hm,hI,J3,cl,push_cast,seval]
 have hI:(s.length:Int) % 2=0:=by omega
 simp(disch:=try exact dI) only[PZ,hm,hI,push_cast,seval]
 refine am ([(4,0,5,1)]) (fun x:Nat×List UInt8=>[(4,.olist 1 1 (aH x.2)),(5,.pv (.int .i64 (x.1:Int)))]) (fun _=>[]) (fun x=>x.1<=s.length/\x.1 % 2=0/\x.2.length<=x.1/\R=(kK (s.drop x.1)).map (x.2 ++ ·)) (fun x=>s.length - x.1) ((0,[])) ?_;intro e0 σ0 n0 h0;simp(disch:=try exact dI) only[push_cast,seval] at h0;obtain⟨rfl,rfl,rfl⟩:=h0;refine⟨?_,?_,?_⟩
 ·simp(disch:=try exact dI) only[aH,List.map_nil,push_cast,seval]
 ·exact⟨by simp,by simp,by simp,by simp[hR]⟩
 rintro⟨i,l⟩ ⟨h1,h3,h4,h5⟩
 simp only at h1 h3 h4 h5
 by_cases hi:i<s.length
 ·obtain⟨x,hx⟩:∃ x,s[i]? = some x:=⟨_,List.getElem?_eq_getElem hi⟩
  obtain⟨y,hy⟩:∃ y,s[i+1]? = some y:=⟨_,List.getElem?_eq_getElem (by omega)⟩
  rw[a8 hx,a8 hy,kK] at h5
  have hiI:(i:Int)<(s.length:Int):=by omega
  have n1:=H1 x
  have n2:=H1 y
  unfold PI at n1 n2
  have a1:=fZ x
  have a2:=fZ y
  by_cases hxn:nib x<0
  ·rw[if_pos (Or.inl hxn)] at h5
   have hR2:R=none:=h5
   rw[hR2]
   generalize nib x=u at *
   generalize nib y=v at *
   simp(disch:=try exact dI) only[hx,hy,aq,push_cast,seval]
   refine ae n1 rfl ?_
   simp(disch:=try exact dI) only[hx,hy,aq,push_cast,seval]
   refine ab.pure n2 rfl ?_
   simp(disch:=try exact dI) only[hxn,J3,cl,push_cast,seval]
  ·by_cases hyn:nib y<0
   ·rw[if_pos (Or.inr hyn)] at h5
    have hR2:R=none:=h5
    rw[hR2]
    generalize nib x=u at *
    generalize nib y=v at *
    simp(disch:=try exact dI) only[hx,hy,aq,push_cast,seval]
    refine ae n1 rfl ?_
    simp(disch:=try exact dI) only[hx,hy,aq,push_cast,seval]
    refine ab.pure n2 rfl ?_
    simp(disch:=try exact dI) only[hxn,hyn,J3,cl,push_cast,seval]
   ·rw[if_neg (fun h=>h.elim hxn hyn)] at h5
    have hb:=nR hxn hyn
    generalize nib x=u at *
    generalize nib y=v at *
    generalize Lf x y=w at *
    have hw:=w.toNat_lt
    have hB:aH (l++[w])=aH l++[.int .u8 (16*u+v)]:=by rw[nQ,<- hb];rfl
    have hL:(aH l).length<=1000000:=by
     rw[show (aH l).length=l.length by simp[aH]];omega
    have hb0:0<=16*u+v/\16*u+v<=255:=by omega
    generalize aH l=T at *
    simp(disch:=try exact dI) only[hx,hy,aq,push_cast,seval]
    refine ae n1 rfl ?_
    simp(disch:=try exact dI) only[hx,hy,aq,push_cast,seval]
    refine ab.pure n2 rfl ?_
    simp(disch:=try exact dI) only[hxn,hyn,push_cast,seval]
    have e2:((i:Int)+2)=(i:Int)+1+1:=by omega
    exact⟨(i+1+1,l++[w]),aI (by simp(disch:=try exact dI) only[hB,e2,push_cast,seval]),⟨by simp only;omega,by simp only;omega,by simp only[List.length_append,List.length_cons,List.length_nil];omega,by rw[h5,Option.map_map];simp[Function.comp_def]⟩,by simp only;omega⟩
 ·obtain rfl:i=s.length:=by omega
  rw[List.drop_length,kK] at h5
  simp only[Option.map_some,List.append_nil] at h5
  subst h5
  have hU:u8s (aH l)=some l:=gu _
  have hL:(aH l).length<=1000000:=by
   rw[show (aH l).length=l.length by simp[aH]];omega
  have h209:=G8 l
  generalize aH l=T at *
  simp(disch:=try exact dI) only[Int.lt_irrefl,hU,push_cast,seval]
  refine ab.pure h209 rfl ?_
  simp(disch:=try exact dI) only[J3,eP,push_cast,seval]
def bg (v:Val):List Val:=if v.kind=8\/v.kind=10 then v.lst else if v.kind=9 then v.fields.map Fld.value else []
theorem bT {v:Val}(h:v.kind=8\/v.kind=10):bg v=v.lst:=if_pos h
theorem db {v:Val}(h:v.kind=9):bg v=v.fields.map Fld.value:=by unfold bg;rw[if_neg (by omega),if_pos h]
theorem dP {v:Val}(h:¬ (v.kind=8\/v.kind=10))(h9:¬ v.kind=9):bg v=[]:=by unfold bg;rw[if_neg h,if_neg h9]
theorem Fn (v:Val)(hf:v.fields.length*104<=140737488351232):ak Tryz.prog ap 310 [v.pv] (.list ((bg v).map Val.pv)):=by
 obtain⟨k,n,s,t,l,fs⟩:=v
 simp only[Val.fields] at hf
 by_cases h8:k=8\/k=10
 ·rw[bT (v:=.mk k n s t l fs) h8]
  simp only[Val.lst]
  rcases h8 with rfl | rfl
  ·refine ak.intro ym.2 (by simp[ym]) ?_
   simp(disch:=try exact dI) only[ym,Val.pv_mk,push_cast,seval]
  ·refine ak.intro ym.2 (by simp[ym]) ?_
   simp(disch:=try exact dI) only[ym,Val.pv_mk,push_cast,seval]
 ·by_cases h9:k=9
  ·subst h9
   rw[db (v:=.mk 9 n s t l fs) rfl]
   simp only[Val.fields]
   refine ak.intro ym.2 (by simp[ym]) ?_
   simp(disch:=try exact dI) only[ym,Val.pv_mk,push_cast,seval]
   refine am ([(3,0,36,6)]) (fun i:Nat=>[(3,.olist 0 6 (((fs.take i).map Fld.value).map Val.pv)),(18,.pv (.int .i64 (i:Int)))]) (fun _=>[]) (fun i=>i<=fs.length) (fun i=>fs.length - i) (0) ?_;intro e0 σ0 n0 h0;simp(disch:=try exact dI) only[push_cast,seval] at h0;obtain⟨rfl,rfl,rfl⟩:=h0;refine⟨?_,?_,?_⟩
   ·exact qsZ
   ·omega
   rintro i hi
   by_cases hlt:i<fs.length
   ·have hltI:(i:Int)<(fs.length:Int):=by omega
    obtain⟨c,hc⟩:∃ c,fs[i]? = some c:=⟨_,List.getElem?_eq_getElem hlt⟩
    have hts:=aB hc
    obtain⟨nm,⟨k',n',s',t',l',f'⟩⟩:=c
    have hcp:(fs.map Fld.pv)[i]? = some (.agg [.str nm,.int .i64 k',.int .i64 n',.int .i64 s',.str t',.list (l'.map Val.pv),.list (f'.map Fld.pv)]):=by simp[hc,Fld.pv_mk,Val.pv_mk,ag]
    simp(disch:=try exact dI) only[hcp,push_cast,seval]
    exact⟨i+1,aI (by simp(disch:=try exact dI) only[hts,List.map_append,Fld.value,Val.pv_mk,push_cast,seval]),by omega,by omega⟩
   ·have he:i=fs.length:=by omega
    subst he
    simp(disch:=try exact dI) only[List.take_length,nl,push_cast,seval]
  ·rw[dP (v:=.mk k n s t l fs) h8 h9]
   refine ak.intro ym.2 (by simp[ym]) ?_
   have e1:¬ k=8:=by omega
   have e2:¬ k=10:=by omega
   simp(disch:=try exact dI) only[ym,Val.pv_mk,push_cast,seval]
end Go.Proofs.YtbojpfpliibfbaaGreatDoor
