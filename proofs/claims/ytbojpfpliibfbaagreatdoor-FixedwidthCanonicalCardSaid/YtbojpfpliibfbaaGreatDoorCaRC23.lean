/- A part of the proof. -/
import Derived.Test.YtbojpfpliibfbaaGreatDoorCaRSh4
set_option maxHeartbeats 16000000
set_option maxRecDepth 100000
set_option linter.unusedVariables false
set_option linter.unusedSimpArgs false
namespace Go.Proofs.YtbojpfpliibfbaaGreatDoor
open Go Go.Ab
theorem i7:∀ (k acc a:Nat) (r:List UInt8),Lib.decFrom acc (aQ k a++r)=Lib.decFrom (acc*10 ^ k+a % 10 ^ k) r
 | 0,acc,a,r=>by simp[aQ,Nat.mod_one]
 | k+1,acc,a,r=>by
   rw[aQ,List.append_assoc,i7 k acc (a / 10)]
   have hd:(UInt8.ofNat (48+a % 10)).toNat=48+a % 10:=by
    rw[UInt8.toNat_ofNat'];omega
   have hv:Lib.digitVal (UInt8.ofNat (48+a % 10))=some (a % 10):=by
    unfold Lib.digitVal
    rw[hd,if_pos (by omega)]
    congr 1;omega
   rw[List.singleton_append,Lib.decFrom,hv]
   have e:a % 10 ^ (k+1)=a % 10+10*(a / 10 % 10 ^ k):=by rw[Nat.pow_succ,Nat.mul_comm,Nat.mod_mul]
   rw[e,Nat.pow_succ]
   simp only
   congr 1
   have e2:acc*(10 ^ k*10)=acc*10 ^ k*10:=by rw[Nat.mul_assoc]
   rw[e2]
   omega
theorem jZ:∀ (k v c a:Nat) (r:List UInt8),rdS false v c (aQ k a++r)=rdS false (v*10 ^ k+a % 10 ^ k) c r
 | 0,v,c,a,r=>by simp[aQ,Nat.mod_one]
 | k+1,v,c,a,r=>by
   rw[aQ,List.append_assoc,jZ k v c (a / 10)]
   have hd:(UInt8.ofNat (48+a % 10)).toNat=48+a % 10:=by
    rw[UInt8.toNat_ofNat'];omega
   have hD:isD (UInt8.ofNat (48+a % 10))=true:=by unfold isD;rw[hd];simp;omega
   have h46:(false||decide (UInt8.ofNat (48+a % 10)=46))=false:=by
    rw[Bool.false_or]
    refine decide_eq_false fun h=>?_
    have:=congrArg UInt8.toNat h
    rw[hd] at this
    simp at this
    omega
   rw[List.singleton_append,rdS,if_pos hD,h46,hd]
   have e:a % 10 ^ (k+1)=a % 10+10*(a / 10 % 10 ^ k):=by rw[Nat.pow_succ,Nat.mul_comm,Nat.mod_mul]
   rw[e,Nat.pow_succ]
   simp only[Bool.false_eq_true,if_false]
   congr 1
   have e2:v*(10 ^ k*10)=v*10 ^ k*10:=by rw[Nat.mul_assoc]
   rw[e2]
   omega
theorem mV:∀ (k v c a:Nat) (r:List UInt8),rdS true v c (aQ k a++r)=rdS true (v*10 ^ k+a % 10 ^ k) (c+k) r
 | 0,v,c,a,r=>by simp[aQ,Nat.mod_one]
 | k+1,v,c,a,r=>by
   rw[aQ,List.append_assoc,mV k v c (a / 10)]
   have hd:(UInt8.ofNat (48+a % 10)).toNat=48+a % 10:=by
    rw[UInt8.toNat_ofNat'];omega
   have hD:isD (UInt8.ofNat (48+a % 10))=true:=by unfold isD;rw[hd];simp;omega
   rw[List.singleton_append,rdS,if_pos hD,hd]
   have e:a % 10 ^ (k+1)=a % 10+10*(a / 10 % 10 ^ k):=by rw[Nat.pow_succ,Nat.mul_comm,Nat.mod_mul]
   rw[e,Nat.pow_succ]
   simp only[Bool.true_or,if_true]
   have e2:v*(10 ^ k*10)=v*10 ^ k*10:=by rw[Nat.mul_assoc]
   rw[e2]
   congr 1
   omega
theorem vK:∀ (k a:Nat),mw (aQ k a)=none/\∀ r,mw (aQ k a++46::r)=some (aQ k a,r)
 | k,a=>by
   have key:∀ l:List UInt8,(∀ x,x∈l->x≠46)->mw l=none/\∀ r,mw (l++46::r)=some (l,r):=by
    intro l
    induction l with
    | nil=>intro _;exact⟨rfl,fun r=>by simp[mw]⟩
    | cons c l ih=>
      intro h
      have hc:c≠46:=h c (by simp)
      have ih:=ih fun x hx=>h x (by simp[hx])
      refine⟨by rw[mw,if_neg hc,ih.1];rfl,fun r=>by rw[List.cons_append,mw,if_neg hc,ih.2 r];rfl⟩
   refine key _ ?_
   have:∀ (k a:Nat) x,x∈aQ k a->48<=x.toNat:=by
    intro k
    induction k with
    | zero=>intro a x hx;simp[aQ] at hx
    | succ k ih=>
      intro a x hx
      rw[aQ,List.mem_append] at hx
      rcases hx with hx | hx
      ·exact ih _ x hx
      ·simp only[List.mem_singleton] at hx
       rw[hx,UInt8.toNat_ofNat']
       omega
   intro x hx e
   have:=this k a x hx
   rw[e] at this
   revert this;decide
theorem kg {k a:Nat}(hk:0<k):∃ c r,aQ k a=c::r/\48<=c.toNat/\c.toNat<=57:=by
 obtain⟨j,rfl⟩:∃ j,k=j+1:=⟨k - 1,by omega⟩
 refine⟨UInt8.ofNat (48+a / 10 ^ j % 10),aQ j a,kf j a,?_,?_⟩
 ·rw[UInt8.toNat_ofNat'];omega
 ·rw[UInt8.toNat_ofNat'];omega
structure DecP (n:Int)(c:Nat)(A B:List UInt8):Prop where
 cut:mw (ce n c)=if c=0 then none else some (A,B)
 txt:ce n c=if c=0 then A else A++46::B
 len:B.length=c
 val:Lib.atoi (A++B)=some n
 rd:rdS false 0 0 (ce n c)=(n.natAbs,c)
 sg:sgI (ce n c) n.natAbs=n
 ne:ce n c≠[]
theorem decP {n:Int}{c:Nat}(h:IsN n c):∃ A B,DecP n c A B:=by
 obtain⟨h1,h2,h3⟩:=h
 have hlt:n.natAbs<10 ^ 15:=by simp;omega
 have hdl:=iG hlt
 obtain⟨a,ha⟩:∃ a,a=n.natAbs:=⟨_,rfl⟩
 rw[<- ha] at hlt hdl
 obtain⟨K,hK⟩:∃ K,K=max (dl a) (c+1):=⟨_,rfl⟩
 have haK:a<10 ^ K:=Nat.lt_of_lt_of_le hdl.2.2 (Nat.pow_le_pow_right (by omega) (by omega))
 have hsp:=fp (K - c) c a
 rw[show K - c+c=K by omega] at hsp
 have hdec:ce n c=(if n<0 then [45] else [])++(aQ (K - c) (a / 10 ^ c)++(if c=0 then [] else 46::aQ c a)):=by unfold ce;rw[<- ha,<- hK]
 have hni:=vK (K - c) (a / 10 ^ c)
 obtain⟨x,r,hx,hx1,hx2⟩:=kg (k:=K - c) (a:=a / 10 ^ c) (by omega)
 have hx45:x≠45:=by intro e;subst e;revert hx1;decide
 have hx43:x≠43:=by intro e;subst e;revert hx1;decide
 have hq:a / 10 ^ c % 10 ^ (K - c)=a / 10 ^ c:=by
  refine Nat.mod_eq_of_lt (Nat.div_lt_of_lt_mul ?_)
  rw[<- Nat.pow_add,show c+(K - c)=K by omega]
  exact haK
 have hrd:rdS false 0 0 (aQ (K - c) (a / 10 ^ c)++(if c=0 then [] else 46::aQ c a))=(a,c):=by
  rw[jZ,hq]
  by_cases h0:c=0
  ·rw[if_pos h0,h0];simp[rdS]
  ·rw[if_neg h0,rdS,if_neg (by decide)]
   have:=mV c (0*10 ^ (K - c)+a / 10 ^ c) 0 a []
   rw[List.append_nil] at this
   rw[show (false||decide ((46:UInt8)=46))=true from rfl,this,rdS]
   rw[show 0*10 ^ (K - c)+a / 10 ^ c=a / 10 ^ c by omega,Nat.zero_add]
   have e2:=Nat.div_add_mod a (10 ^ c)
   rw[Nat.mul_comm] at e2
   rw[e2]
 have hval:Lib.decNat (aQ K a)=some a:=by
  unfold Lib.decNat
  have hne:(aQ K a).isEmpty=false:=by
   obtain⟨y,q,hy,_⟩:=kg (k:=K) (a:=a) (by omega)
   rw[hy];rfl
  rw[hne]
  have:=i7 K 0 a []
  rw[List.append_nil] at this
  simp only[Bool.false_eq_true,if_false]
  rw[this,Lib.decFrom,Nat.mod_eq_of_lt haK]
  congr 1;omega
 by_cases hneg:n<0
 ·rw[if_pos hneg] at hdec
  refine⟨45::aQ (K - c) (a / 10 ^ c),aQ c a,?_⟩
  constructor
  ·rw[hdec,List.singleton_append,mw,if_neg (by decide)]
   by_cases h0:c=0
   ·rw[if_pos h0,if_pos h0,List.append_nil,hni.1];rfl
   ·rw[if_neg h0,if_neg h0,hni.2];rfl
  ·rw[hdec]
   by_cases h0:c=0
   ·rw[if_pos h0,if_pos h0];simp
   ·rw[if_neg h0,if_neg h0];simp
  ·exact aW c a
  ·rw[List.cons_append,<- hsp]
   unfold Lib.atoi
   simp only[beq_self_eq_true,if_true]
   rw[hval]
   simp only[Option.map_some]
   congr 1;omega
  ·rw[hdec,List.singleton_append,rdS,if_neg (by decide)]
   rw[show (false||decide ((45:UInt8)=46))=false from rfl,hrd,<- ha]
  ·unfold sgI
   rw[hdec,List.singleton_append,List.head?_cons,if_pos rfl]
   omega
  ·rw[hdec];simp
 ·rw[if_neg hneg] at hdec
  rw[List.nil_append] at hdec
  refine⟨aQ (K - c) (a / 10 ^ c),aQ c a,?_⟩
  constructor
  ·rw[hdec]
   by_cases h0:c=0
   ·rw[if_pos h0,if_pos h0,List.append_nil,hni.1]
   ·rw[if_neg h0,if_neg h0,hni.2]
  ·rw[hdec]
   by_cases h0:c=0
   ·rw[if_pos h0,if_pos h0];simp
   ·rw[if_neg h0,if_neg h0]
  ·exact aW c a
  ·rw[<- hsp]
   have hval':=hval
   rw[hsp,hx] at hval' ⊢
   rw[List.cons_append] at hval' ⊢
   unfold Lib.atoi
   simp only
   rw[show (x == 45)=false by simpa using hx45,show (x == 43)=false by simpa using hx43]
   simp only[Bool.false_eq_true,if_false]
   rw[hval']
   simp only[Option.map_some]
   congr 1;omega
  ·rw[hdec,hrd,<- ha]
  ·unfold sgI
   rw[hdec,hx,List.cons_append,List.head?_cons,if_neg (by simpa using hx45)]
   omega
  ·rw[hdec,hx];simp
theorem pl:∀ (l:List UInt8) (acc m:Nat),Lib.decFrom acc l=some m->m+1<=(acc+1)*10 ^ l.length
 | [],acc,m,h=>by simp only[Lib.decFrom] at h;cases h;simp
 | b::r,acc,m,h=>by
   rw[Lib.decFrom] at h
   unfold Lib.digitVal at h
   split at h
   ·rename_i hd
    split at hd
    ·rename_i hb
     cases hd
     have ih:=pl r _ m h
     refine Nat.le_trans ih ?_
     rw[List.length_cons,Nat.pow_succ,Nat.mul_comm (10 ^ r.length) 10,<- Nat.mul_assoc]
     exact Nat.mul_le_mul_right _ (by omega)
    ·cases hd
   ·cases h
theorem xv {s:List UInt8}{n:Int}(hl:s.length<=18)(h:Lib.atoi s=some n):n.natAbs<=1000000000000000000:=by
 have key:∀ (l:List UInt8) (m:Nat),l.length<=18->Lib.decNat l=some m->m<=1000000000000000000:=by
  intro l m hl h
  unfold Lib.decNat at h
  split at h
  ·cases h
  ·have:=pl l 0 m h
   have hp:10 ^ l.length<=10 ^ 18:=Nat.pow_le_pow_right (by omega) hl
   omega
 cases s with
 | nil=>simp[Lib.atoi] at h
 | cons b r=>
   simp only[List.length_cons] at hl
   unfold Lib.atoi at h
   simp only at h
   split at h
   ·simp only[Option.map_eq_some_iff] at h
    obtain⟨m,hm,rfl⟩:=h
    have:=key r m (by omega) hm
    omega
   ·split at h
    ·simp only[Option.map_eq_some_iff] at h
     obtain⟨m,hm,rfl⟩:=h
     have:=key r m (by omega) hm
     omega
    ·simp only[Option.map_eq_some_iff] at h
     obtain⟨m,hm,rfl⟩:=h
     have:=key (b::r) m (by simpa using hl) hm
     omega
def pp (s:List UInt8):List UInt8×List UInt8×Bool:=
 match mw s with
 | some (a,b)=>(a,b,true)
 | none=>(s,[],false)
def vr (s:List UInt8):(Int×Nat)×Int:=
 match Lib.atoi ((pp s).1++(pp s).2.1) with
 | some n=>if IsN n (pp s).2.1.length/\ce n (pp s).2.1.length=s/\((pp s).2.2=true->(pp s).2.1≠[]) then ((n,(pp s).2.1.length),0) else ((0,0),13)
 | none=>((0,0),13)
theorem E9 {s:List UInt8}(h0:s≠[])(hl:¬ 17<s.length):vr s=bi s:=by
 have yes:∀ n c,IsN n c->ce n c=s->vr s=((n,c),0)/\bi s=((n,c),0):=by
  intro n c hn hd
  obtain⟨A,B,P⟩:=decP hn
  constructor
  ·have hc:=P.cut
   have ht:=P.txt
   have hv:=P.val
   rw[hd] at hc ht
   by_cases hz:c=0
   ·subst hz
    rw[if_pos rfl] at hc ht
    have hB:B=[]:=List.length_eq_zero_iff.1 P.len
    subst hB
    rw[List.append_nil] at hv
    rw[<- ht] at hv
    unfold vr pp
    rw[hc]
    simp only[List.append_nil,hv,List.length_nil]
    rw[if_pos ⟨hn,hd,by simp⟩]
   ·rw[if_neg hz] at hc
    unfold vr pp
    rw[hc]
    simp only[hv,P.len]
    rw[if_pos ⟨hn,hd,fun _ e=>hz (by rw[<- P.len,e];rfl)⟩]
  ·have hr:=P.rd
   have hs:=P.sg
   rw[hd] at hr hs
   unfold bi
   rw[if_neg h0,if_neg hl,hr]
   simp only[hs]
   rw[if_pos ⟨hn,hd⟩]
 by_cases hp:IsN (sgI s (rdS false 0 0 s).1) (rdS false 0 0 s).2/\ce (sgI s (rdS false 0 0 s).1) (rdS false 0 0 s).2=s
 ·obtain⟨e1,e2⟩:=yes _ _ hp.1 hp.2
  rw[e1,e2]
 ·have e2:bi s=((0,0),13):=by
   unfold bi
   rw[if_neg h0,if_neg hl,if_neg hp]
  rw[e2]
  unfold vr
  split
  ·rename_i n hn
   split
   ·rename_i hh
    have:=(yes _ _ hh.1 hh.2.1).2
    rw[e2] at this
    simp at this
   ·rfl
  ·rfl
attribute [local irreducible] vc
theorem dM {e:List (Nat×AV)}{σ:List (Nat×Blk)}{new:Nat}(ng:Bool)(x y:AX):lC e σ new (.inil ng x y)=g8 [] (ov ng (evE e x) (evE e y)):=by
 simp only[lC,g8];cases ov ng (evE e x) (evE e y)<;>rfl
theorem qy (ng:Bool)(T:Nat)(p:PV):ov ng (.pv (.iface T p)) (.pv .nili)=some (.pv (.bool ng)):=rfl
theorem dP (ng:Bool):ov ng (.pv .nili) (.pv .nili)=some (.pv (.bool (!ng))):=rfl
theorem lK {n:Int}(h:-9223372036854775808<n)(h2:n<=9223372036854775807)(c:Nat) :
  ag Tryz.prog au 83 [.agg [.int .i64 n,.int .i64 (c:Int)]] (.tup [.str (if IsN n c then ce n c else []),.int .i64 (if IsN n c then 0 else 2)]):=by
 by_cases hn:IsN n c
 ·rw[if_pos hn,if_pos hn];exact yH hn
 ·rw[if_neg hn,if_neg hn];exact yG h h2 hn
theorem N9 (s:List UInt8):L3 s = .tup [.str (pp s).1,.str (pp s).2.1,.bool (pp s).2.2]:=by
 unfold L3 pp
 cases h:mw s with
 | none=>rfl
 | some q=>rfl
theorem GD (s:List UInt8):(pp s).1.length+(pp s).2.1.length<=s.length:=by
 unfold pp
 split
 ·rename_i a b h
  rw[(kW 0 h).2]
  simp
 ·simp
theorem JT {T:Nat}{p:PV}(s:List UInt8):ag Tryz.prog (dN T p) 206 [.str s] (.tup [.agg [.int .i64 (bi s).1.1,.int .i64 ((bi s).1.2:Int)],.int .i64 (bi s).2]):=by
 by_cases h0:s=[]
 ·subst h0
  unfold bi
  rw[if_pos rfl]
  refine ag.intro jD.2 (by simp[jD]) ?_
  simp(disch:=try exact dI) only[jD,push_cast,seval]
 have h0b:decide (s=[])=false:=decide_eq_false h0
 by_cases hl:17<s.length
 ·unfold bi
  rw[if_neg h0,if_pos hl]
  have hlI:(17:Int)<(s.length:Int):=by omega
  refine ag.intro jD.2 (by simp[jD]) ?_
  simp(disch:=try exact dI) only[jD,h0b,push_cast,seval]
 rw[<- E9 h0 hl]
 have hlI:¬ (17:Int)<(s.length:Int):=by omega
 have hc:=toE (T:=T) (p:=p) (QK s (by omega))
 rw[N9] at hc
 have hcl:=GD s
 unfold vr
 generalize pp s=W at *
 obtain⟨w,r,b⟩:=W
 simp only at hc hcl ⊢
 have ha:=ON (T:=T) (p:=p) (w++r) (by simp;omega)
 have hbd:=fun n=>xv (s:=w++r) (n:=n) (by simp;omega)
 cases hv:Lib.atoi (w++r) with
 | none=>
   rw[hv] at ha
   simp only[Lq,Df] at ha
   have ht:=toE (T:=T) (p:=p) (lK (n:=0) (by omega) (by omega) r.length)
   generalize (if IsN 0 r.length then ce 0 r.length else [])=t1 at *
   generalize (if IsN 0 r.length then (0:Int) else 2)=t2 at *
   refine ag.intro jD.2 (by simp[jD]) ?_
   simp(disch:=try exact dI) only[jD,h0b,push_cast,seval]
   refine ab.pure hc rfl ?_
   refine zgZ ?_
   refine ab.pure ha rfl ?_
   refine zgZ ?_
   refine ab.pure ht rfl ?_
   simp(disch:=try exact dI) only[dM,qy,push_cast,seval]
 | some n=>
   rw[hv] at ha
   simp only[Lq] at ha
   have hb:=hbd n hv
   have ht:=toE (T:=T) (p:=p) (lK (n:=n) (by omega) (by omega) r.length)
   simp only
   by_cases hn:IsN n r.length
   ·rw[if_pos hn,if_pos hn] at ht
    by_cases hd:ce n r.length=s
    ·rw[hd] at ht
     cases b with
     | true=>
       by_cases hr:r=[]
       ·rw[if_neg (fun h=>h.2.2 rfl hr)]
        subst hr
        rw[List.append_nil] at ha
        refine ag.intro jD.2 (by simp[jD]) ?_
        simp(disch:=try exact dI) only[jD,h0b,push_cast,seval]
        refine ab.pure hc rfl ?_
        refine zgZ ?_
        refine ab.pure ha rfl ?_
        refine zgZ ?_
        refine ab.pure ht rfl ?_
        simp(disch:=try exact dI) only[dM,dP,push_cast,seval]
       ·rw[if_pos ⟨hn,hd,fun _=>hr⟩]
        have hrb:decide (r=[])=false:=decide_eq_false hr
        refine ag.intro jD.2 (by simp[jD]) ?_
        simp(disch:=try exact dI) only[jD,h0b,push_cast,seval]
        refine ab.pure hc rfl ?_
        refine zgZ ?_
        refine ab.pure ha rfl ?_
        refine zgZ ?_
        refine ab.pure ht rfl ?_
        simp(disch:=try exact dI) only[hrb,dM,dP,push_cast,seval]
     | false=>
       rw[if_pos ⟨hn,hd,fun h=>by cases h⟩]
       refine ag.intro jD.2 (by simp[jD]) ?_
       simp(disch:=try exact dI) only[jD,h0b,push_cast,seval]
       refine ab.pure hc rfl ?_
       refine zgZ ?_
       refine ab.pure ha rfl ?_
       refine zgZ ?_
       refine ab.pure ht rfl ?_
       simp(disch:=try exact dI) only[dM,dP,push_cast,seval]
    ·rw[if_neg (fun h=>hd h.2.1)]
     generalize ce n r.length=t at *
     have htb:(!decide (t=s))=true:=by simp[hd]
     refine ag.intro jD.2 (by simp[jD]) ?_
     simp(disch:=try exact dI) only[jD,h0b,push_cast,seval]
     refine ab.pure hc rfl ?_
     refine zgZ ?_
     refine ab.pure ha rfl ?_
     refine zgZ ?_
     refine ab.pure ht rfl ?_
     simp(disch:=try exact dI) only[htb,dM,dP,push_cast,seval]
   ·rw[if_neg hn,if_neg hn] at ht
    rw[if_neg (fun h=>hn h.1)]
    refine ag.intro jD.2 (by simp[jD]) ?_
    simp(disch:=try exact dI) only[jD,h0b,push_cast,seval]
    refine ab.pure hc rfl ?_
    refine zgZ ?_
    refine ab.pure ha rfl ?_
    refine zgZ ?_
    refine ab.pure ht rfl ?_
    simp(disch:=try exact dI) only[dM,dP,push_cast,seval]
def Pr:List UInt8:=[48,49,50,51,52,53,54,55,56,57,97,98,99,100,101,102]
def nib (c:UInt8):Int:=nq c Pr 0
theorem m5:∀ c:UInt8,-1<=nib c/\nib c<=15/\nib c=if 48<=(c.toNat:Int)/\(c.toNat:Int)<=57 then (c.toNat:Int) - 48 else if 97<=(c.toNat:Int)/\(c.toNat:Int)<=102 then (c.toNat:Int) - 97+10 else -1:=by
 have key:∀ k:Fin 256,-1<=nib (UInt8.ofNat k.val)/\nib (UInt8.ofNat k.val)<=15/\nib (UInt8.ofNat k.val)=if 48<=((UInt8.ofNat k.val).toNat:Int)/\((UInt8.ofNat k.val).toNat:Int)<=57 then ((UInt8.ofNat k.val).toNat:Int) - 48 else if 97<=((UInt8.ofNat k.val).toNat:Int)/\((UInt8.ofNat k.val).toNat:Int)<=102 then ((UInt8.ofNat k.val).toNat:Int) - 97+10 else -1:=by decide +kernel
 intro c
 have h:=key ⟨c.toNat,c.toNat_lt⟩
 simpa using h
theorem HK (c:UInt8):ag Tryz.prog au 208 [.str Pr,.int .u8 (c.toNat:Int)] (.int .i64 (nib c)):=by
 have h:=Kw Pr (c.toNat:Int)
 rw[show ((c.toNat:Int)).toNat.toUInt8=c by simp] at h
 exact h
def DF (a b:UInt8):UInt8:=UInt8.ofNat (16*(nib a).toNat+(nib b).toNat)
def kz:List UInt8->Option (List UInt8)
 | []=>some []
 | [_]=>none
 | a::b::r=>if nib a<0\/nib b<0 then none else (kz r).map (DF a b :: ·)
theorem tv:∀ {s:List UInt8},s.length % 2=1->kz s=none
 | [],h=>by simp at h
 | [_],_=>rfl
 | a::b::r,h=>by
   rw[kz]
   split
   ·rfl
   ·rw[tv (s:=r) (by simp only[List.length_cons] at h;omega)];rfl
theorem nl:∀ {s b:List UInt8},kz s=some b->2*b.length=s.length
 | [],b,h=>by simp only[kz,Option.some.injEq] at h;subst h;rfl
 | [_],b,h=>by simp[kz] at h
 | x::y::r,b,h=>by
   rw[kz] at h
   split at h
   ·cases h
   ·rw[Option.map_eq_some_iff] at h
    obtain⟨q,h1,rfl⟩:=h
    have:=nl h1
    simp only[List.length_cons];omega
theorem GO {a b:UInt8}(ha:¬ nib a<0)(hb:¬ nib b<0):((DF a b).toNat:Int)=16*nib a+nib b:=by
 have h1:=m5 a
 have h2:=m5 b
 unfold DF
 rw[UInt8.toNat_ofNat']
 omega
def jd (k n s:Int)(t:List UInt8):PV:=.agg [.int .i64 k,.int .i64 n,.int .i64 s,.str t,.nils,.nils]
def eP:PV:=.agg [.int .i64 0,.int .i64 0,.int .i64 0,.str [],.nils,.nils]
theorem GM (s:List UInt8):ag Tryz.prog au 209 [.str s] (jd 5 0 0 s):=by
 unfold jd
 refine ag.intro Ru.2 (by simp[Ru]) ?_
 simp(disch:=try exact dI) only[Ru,push_cast,seval]
theorem IL (s:List UInt8):ag Tryz.prog au 166 [.str s] (jd 4 0 0 s):=by
 unfold jd
 refine ag.intro Mh.2 (by simp[Mh]) ?_
 simp(disch:=try exact dI) only[Mh,push_cast,seval]
theorem C8 (b:Bool):ag Tryz.prog au 163 [.bool b] (jd 1 (if b=true then 1 else 0) 0 []):=by
 unfold jd
 refine ag.intro PH.2 (by simp[PH]) ?_
 cases b
 ·rw[if_neg (by decide)]
  simp(disch:=try exact dI) only[PH,push_cast,seval]
 ·rw[if_pos rfl]
  simp(disch:=try exact dI) only[PH,push_cast,seval]
def J2:Option (List UInt8)->PV
 | some b=>.tup [jd 5 0 0 b,.int .i64 0]
 | none=>.tup [eP,.int .i64 13]
theorem AF (s:List UInt8)(hl:s.length<=1000000):ag Tryz.prog au 167 [.str s] (J2 (kz s)):=by
 obtain⟨R,hR⟩:∃ R,R=kz s:=⟨_,rfl⟩
 rw[<- hR]
 have hm:=eV (a:=(s.length:Int)) (b:=2) (by omega)
 refine ag.intro PG.2 (by simp[PG]) ?_
 by_cases h2:s.length % 2=1
 ·rw[tv h2] at hR
  subst hR
  have hI:¬ (s.length:Int) % 2=0:=by omega
  simp(disch:=try exact dI) only[PG,hm,hI,J2,eP,push_cast,seval]
 have hI:(s.length:Int) % 2=0:=by omega
 simp(disch:=try exact dI) only[PG,hm,hI,push_cast,seval]
 refine az ([(4,0,5,1)]) (fun x:Nat×List UInt8=>[(4,.olist 1 1 (aC x.2)),(5,.pv (.int .i64 (x.1:Int)))]) (fun _=>[]) (fun x=>x.1<=s.length/\x.1 % 2=0/\x.2.length<=x.1/\R=(kz (s.drop x.1)).map (x.2 ++ ·)) (fun x=>s.length - x.1) ((0,[])) ?_;intro e0 σ0 n0 h0;simp(disch:=try exact dI) only[push_cast,seval] at h0;obtain⟨rfl,rfl,rfl⟩:=h0;refine⟨?_,?_,?_⟩
 ·simp(disch:=try exact dI) only[aC,List.map_nil,push_cast,seval]
 ·exact⟨by simp,by simp,by simp,by simp[hR]⟩
 rintro⟨i,l⟩ ⟨h1,h3,h4,h5⟩
 simp only at h1 h3 h4 h5
 by_cases hi:i<s.length
 ·obtain⟨x,hx⟩:∃ x,s[i]? = some x:=⟨_,List.getElem?_eq_getElem hi⟩
  obtain⟨y,hy⟩:∃ y,s[i+1]? = some y:=⟨_,List.getElem?_eq_getElem (by omega)⟩
  rw[cu hx,cu hy,kz] at h5
  have hiI:(i:Int)<(s.length:Int):=by omega
  have n1:=HK x
  have n2:=HK y
  unfold Pr at n1 n2
  have a1:=m5 x
  have a2:=m5 y
  by_cases hxn:nib x<0
  ·rw[if_pos (Or.inl hxn)] at h5
   have hR2:R=none:=h5
   rw[hR2]
   generalize nib x=u at *
   generalize nib y=v at *
   simp(disch:=try exact dI) only[hx,hy,aS,push_cast,seval]
   refine aq n1 rfl ?_
   simp(disch:=try exact dI) only[hx,hy,aS,push_cast,seval]
   refine ab.pure n2 rfl ?_
   simp(disch:=try exact dI) only[hxn,J2,eP,push_cast,seval]
  ·by_cases hyn:nib y<0
   ·rw[if_pos (Or.inr hyn)] at h5
    have hR2:R=none:=h5
    rw[hR2]
    generalize nib x=u at *
    generalize nib y=v at *
    simp(disch:=try exact dI) only[hx,hy,aS,push_cast,seval]
    refine aq n1 rfl ?_
    simp(disch:=try exact dI) only[hx,hy,aS,push_cast,seval]
    refine ab.pure n2 rfl ?_
    simp(disch:=try exact dI) only[hxn,hyn,J2,eP,push_cast,seval]
   ·rw[if_neg (fun h=>h.elim hxn hyn)] at h5
    have hb:=GO hxn hyn
    generalize nib x=u at *
    generalize nib y=v at *
    generalize DF x y=w at *
    have hw:=w.toNat_lt
    have hB:aC (l++[w])=aC l++[.int .u8 (16*u+v)]:=by rw[gT,<- hb];rfl
    have hL:(aC l).length<=1000000:=by
     rw[show (aC l).length=l.length by simp[aC]];omega
    have hb0:0<=16*u+v/\16*u+v<=255:=by omega
    generalize aC l=T at *
    simp(disch:=try exact dI) only[hx,hy,aS,push_cast,seval]
    refine aq n1 rfl ?_
    simp(disch:=try exact dI) only[hx,hy,aS,push_cast,seval]
    refine ab.pure n2 rfl ?_
    simp(disch:=try exact dI) only[hxn,hyn,push_cast,seval]
    have e2:((i:Int)+2)=(i:Int)+1+1:=by omega
    exact⟨(i+1+1,l++[w]),aZ (by simp(disch:=try exact dI) only[hB,e2,push_cast,seval]),⟨by simp only;omega,by simp only;omega,by simp only[List.length_append,List.length_cons,List.length_nil];omega,by rw[h5,Option.map_map];simp[Function.comp_def]⟩,by simp only;omega⟩
 ·obtain rfl:i=s.length:=by omega
  rw[List.drop_length,kz] at h5
  simp only[Option.map_some,List.append_nil] at h5
  subst h5
  have hU:u8s (aC l)=some l:=gj _
  have hL:(aC l).length<=1000000:=by
   rw[show (aC l).length=l.length by simp[aC]];omega
  have h209:=GM l
  generalize aC l=T at *
  simp(disch:=try exact dI) only[Int.lt_irrefl,hU,push_cast,seval]
  refine ab.pure h209 rfl ?_
  simp(disch:=try exact dI) only[J2,jd,push_cast,seval]
end Go.Proofs.YtbojpfpliibfbaaGreatDoor
