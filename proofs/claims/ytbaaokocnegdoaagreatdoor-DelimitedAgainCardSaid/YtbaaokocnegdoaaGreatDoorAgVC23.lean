/- A part of the proof. -/
import Derived.Test.YtbaaokocnegdoaaGreatDoorAgVC20
set_option linter.unusedVariables false
set_option linter.unusedSimpArgs false
set_option maxRecDepth 100000
namespace Go.Proofs.YtbaaokocnegdoaaGreatDoor
open Go Go.Ab
theorem jr:∀ (k acc a:Nat) (r:List UInt8),Lib.decFrom acc (aW k a++r)=Lib.decFrom (acc*10 ^ k+a % 10 ^ k) r
 | 0,acc,a,r=>by simp[aW,Nat.mod_one]
 | k+1,acc,a,r=>by
   rw[aW,List.append_assoc,jr k acc (a / 10)]
   have hd:(UInt8.ofNat (48+a % 10)).toNat=48+a % 10:=by
    rw[UInt8.toNat_ofNat'];omega
   have hv:Lib.digitVal (UInt8.ofNat (48+a % 10))=some (a % 10):=by
    unfold Lib.digitVal
    rw[hd,if_pos (by omega)]
    congr 1;omega
   rw[List.singleton_append,Lib.decFrom,hv]
   have e:a % 10 ^ (k+1)=a % 10+10*(a / 10 % 10 ^ k):=by rw[Nat.pow_succ,Nat.mul_comm,Nat.mod_mul]
   rw[e,Nat.pow_succ]
   simp only
   congr 1
   have e2:acc*(10 ^ k*10)=acc*10 ^ k*10:=by rw[Nat.mul_assoc]
   rw[e2]
   omega
theorem kz:∀ (k v c a:Nat) (r:List UInt8),rdS false v c (aW k a++r)=rdS false (v*10 ^ k+a % 10 ^ k) c r
 | 0,v,c,a,r=>by simp[aW,Nat.mod_one]
 | k+1,v,c,a,r=>by
   rw[aW,List.append_assoc,kz k v c (a / 10)]
   have hd:(UInt8.ofNat (48+a % 10)).toNat=48+a % 10:=by
    rw[UInt8.toNat_ofNat'];omega
   have hD:isD (UInt8.ofNat (48+a % 10))=true:=by unfold isD;rw[hd];simp;omega
   have h46:(false||decide (UInt8.ofNat (48+a % 10)=46))=false:=by
    rw[Bool.false_or]
    refine decide_eq_false fun h=>?_
    have:=congrArg UInt8.toNat h
    rw[hd] at this
    simp at this
    omega
   rw[List.singleton_append,rdS,if_pos hD,h46,hd]
   have e:a % 10 ^ (k+1)=a % 10+10*(a / 10 % 10 ^ k):=by rw[Nat.pow_succ,Nat.mul_comm,Nat.mod_mul]
   rw[e,Nat.pow_succ]
   simp only[Bool.false_eq_true,if_false]
   congr 1
   have e2:v*(10 ^ k*10)=v*10 ^ k*10:=by rw[Nat.mul_assoc]
   rw[e2]
   omega
theorem nM:∀ (k v c a:Nat) (r:List UInt8),rdS true v c (aW k a++r)=rdS true (v*10 ^ k+a % 10 ^ k) (c+k) r
 | 0,v,c,a,r=>by simp[aW,Nat.mod_one]
 | k+1,v,c,a,r=>by
   rw[aW,List.append_assoc,nM k v c (a / 10)]
   have hd:(UInt8.ofNat (48+a % 10)).toNat=48+a % 10:=by
    rw[UInt8.toNat_ofNat'];omega
   have hD:isD (UInt8.ofNat (48+a % 10))=true:=by unfold isD;rw[hd];simp;omega
   rw[List.singleton_append,rdS,if_pos hD,hd]
   have e:a % 10 ^ (k+1)=a % 10+10*(a / 10 % 10 ^ k):=by rw[Nat.pow_succ,Nat.mul_comm,Nat.mod_mul]
   rw[e,Nat.pow_succ]
   simp only[Bool.true_or,if_true]
   have e2:v*(10 ^ k*10)=v*10 ^ k*10:=by rw[Nat.mul_assoc]
   rw[e2]
   congr 1
   omega
theorem xQ:∀ (k a:Nat),nk (aW k a)=none/\∀ r,nk (aW k a++46::r)=some (aW k a,r)
 | k,a=>by
   have key:∀ l:List UInt8,(∀ x,x∈l->x≠46)->nk l=none/\∀ r,nk (l++46::r)=some (l,r):=by
    intro l
    induction l with
    | nil=>intro _;exact⟨rfl,fun r=>by simp[nk]⟩
    | cons c l ih=>
      intro h
      have hc:c≠46:=h c (by simp)
      have ih:=ih fun x hx=>h x (by simp[hx])
      refine⟨by rw[nk,if_neg hc,ih.1];rfl,fun r=>by rw[List.cons_append,nk,if_neg hc,ih.2 r];rfl⟩
   refine key _ ?_
   have:∀ (k a:Nat) x,x∈aW k a->48<=x.toNat:=by
    intro k
    induction k with
    | zero=>intro a x hx;simp[aW] at hx
    | succ k ih=>
      intro a x hx
      rw[aW,List.mem_append] at hx
      rcases hx with hx | hx
      ·exact ih _ x hx
      ·simp only[List.mem_singleton] at hx
       rw[hx,UInt8.toNat_ofNat']
       omega
   intro x hx e
   have:=this k a x hx
   rw[e] at this
   revert this;decide
theorem kQ {k a:Nat}(hk:0<k):∃ c r,aW k a=c::r/\48<=c.toNat/\c.toNat<=57:=by
 obtain⟨j,rfl⟩:∃ j,k=j+1:=⟨k - 1,by omega⟩
 refine⟨UInt8.ofNat (48+a / 10 ^ j % 10),aW j a,CT j a,?_,?_⟩
 ·rw[UInt8.toNat_ofNat'];omega
 ·rw[UInt8.toNat_ofNat'];omega
structure DecP (n:Int)(c:Nat)(A B:List UInt8):Prop where
 cut:nk (iW n c)=if c=0 then none else some (A,B)
 txt:iW n c=if c=0 then A else A++46::B
 len:B.length=c
 val:Lib.atoi (A++B)=some n
 rd:rdS false 0 0 (iW n c)=(n.natAbs,c)
 sg:sgI (iW n c) n.natAbs=n
 ne:iW n c≠[]
theorem SQ {n:Int}{c:Nat}(h:IsN n c):∃ A B,DecP n c A B:=by
 obtain⟨h1,h2,h3⟩:=h
 have hlt:n.natAbs<10 ^ 15:=by simp;omega
 have hdl:=lI hlt
 obtain⟨a,ha⟩:∃ a,a=n.natAbs:=⟨_,rfl⟩
 rw[<- ha] at hlt hdl
 obtain⟨K,hK⟩:∃ K,K=max (dl a) (c+1):=⟨_,rfl⟩
 have haK:a<10 ^ K:=Nat.lt_of_lt_of_le hdl.2.2 (Nat.pow_le_pow_right (by omega) (by omega))
 have hsp:=fx (K - c) c a
 rw[show K - c+c=K by omega] at hsp
 have hdec:iW n c=(if n<0 then [45] else [])++(aW (K - c) (a / 10 ^ c)++(if c=0 then [] else 46::aW c a)):=by unfold iW;rw[<- ha,<- hK]
 have hni:=xQ (K - c) (a / 10 ^ c)
 obtain⟨x,r,hx,hx1,hx2⟩:=kQ (k:=K - c) (a:=a / 10 ^ c) (by omega)
 have hx45:x≠45:=by intro e;subst e;revert hx1;decide
 have hx43:x≠43:=by intro e;subst e;revert hx1;decide
 have hq:a / 10 ^ c % 10 ^ (K - c)=a / 10 ^ c:=by
  refine Nat.mod_eq_of_lt (Nat.div_lt_of_lt_mul ?_)
  rw[<- Nat.pow_add,show c+(K - c)=K by omega]
  exact haK
 have hrd:rdS false 0 0 (aW (K - c) (a / 10 ^ c)++(if c=0 then [] else 46::aW c a))=(a,c):=by
  rw[kz,hq]
  by_cases h0:c=0
  ·rw[if_pos h0,h0];simp[rdS]
  ·rw[if_neg h0,rdS,if_neg (by decide)]
   have:=nM c (0*10 ^ (K - c)+a / 10 ^ c) 0 a []
   rw[List.append_nil] at this
   rw[show (false||decide ((46:UInt8)=46))=true from rfl,this,rdS]
   rw[show 0*10 ^ (K - c)+a / 10 ^ c=a / 10 ^ c by omega,Nat.zero_add]
   have e2:=Nat.div_add_mod a (10 ^ c)
   rw[Nat.mul_comm] at e2
   rw[e2]
 have hval:Lib.decNat (aW K a)=some a:=by
  unfold Lib.decNat
  have hne:(aW K a).isEmpty=false:=by
   obtain⟨y,q,hy,_⟩:=kQ (k:=K) (a:=a) (by omega)
   rw[hy];rfl
  rw[hne]
  have:=jr K 0 a []
  rw[List.append_nil] at this
  simp only[Bool.false_eq_true,if_false]
  rw[this,Lib.decFrom,Nat.mod_eq_of_lt haK]
  congr 1;omega
 by_cases hneg:n<0
 ·rw[if_pos hneg] at hdec
  refine⟨45::aW (K - c) (a / 10 ^ c),aW c a,?_⟩
  constructor
  ·rw[hdec,List.singleton_append,nk,if_neg (by decide)]
   by_cases h0:c=0
   ·rw[if_pos h0,if_pos h0,List.append_nil,hni.1];rfl
   ·rw[if_neg h0,if_neg h0,hni.2];rfl
  ·rw[hdec]
   by_cases h0:c=0
   ·rw[if_pos h0,if_pos h0];simp
   ·rw[if_neg h0,if_neg h0];simp
  ·exact aT c a
  ·rw[List.cons_append,<- hsp]
   unfold Lib.atoi
   simp only[beq_self_eq_true,if_true]
   rw[hval]
   simp only[Option.map_some]
   congr 1;omega
  ·rw[hdec,List.singleton_append,rdS,if_neg (by decide)]
   rw[show (false||decide ((45:UInt8)=46))=false from rfl,hrd,<- ha]
  ·unfold sgI
   rw[hdec,List.singleton_append,List.head?_cons,if_pos rfl]
   omega
  ·rw[hdec];simp
 ·rw[if_neg hneg] at hdec
  rw[List.nil_append] at hdec
  refine⟨aW (K - c) (a / 10 ^ c),aW c a,?_⟩
  constructor
  ·rw[hdec]
   by_cases h0:c=0
   ·rw[if_pos h0,if_pos h0,List.append_nil,hni.1]
   ·rw[if_neg h0,if_neg h0,hni.2]
  ·rw[hdec]
   by_cases h0:c=0
   ·rw[if_pos h0,if_pos h0];simp
   ·rw[if_neg h0,if_neg h0]
  ·exact aT c a
  ·rw[<- hsp]
   have hval':=hval
   rw[hsp,hx] at hval' ⊢
   rw[List.cons_append] at hval' ⊢
   unfold Lib.atoi
   simp only
   rw[show (x == 45)=false by simpa using hx45,show (x == 43)=false by simpa using hx43]
   simp only[Bool.false_eq_true,if_false]
   rw[hval']
   simp only[Option.map_some]
   congr 1;omega
  ·rw[hdec,hrd,<- ha]
  ·unfold sgI
   rw[hdec,hx,List.cons_append,List.head?_cons,if_neg (by simpa using hx45)]
   omega
  ·rw[hdec,hx];simp
theorem qK:∀ (l:List UInt8) (acc m:Nat),Lib.decFrom acc l=some m->m+1<=(acc+1)*10 ^ l.length
 | [],acc,m,h=>by simp only[Lib.decFrom] at h;cases h;simp
 | b::r,acc,m,h=>by
   rw[Lib.decFrom] at h
   unfold Lib.digitVal at h
   split at h
   ·rename_i hd
    split at hd
    ·rename_i hb
     cases hd
     have ih:=qK r _ m h
     refine Nat.le_trans ih ?_
     rw[List.length_cons,Nat.pow_succ,Nat.mul_comm (10 ^ r.length) 10,<- Nat.mul_assoc]
     exact Nat.mul_le_mul_right _ (by omega)
    ·cases hd
   ·cases h
theorem Aq {s:List UInt8}{n:Int}(hl:s.length<=18)(h:Lib.atoi s=some n):n.natAbs<=1000000000000000000:=by
 have key:∀ (l:List UInt8) (m:Nat),l.length<=18->Lib.decNat l=some m->m<=1000000000000000000:=by
  intro l m hl h
  unfold Lib.decNat at h
  split at h
  ·cases h
  ·have:=qK l 0 m h
   have hp:10 ^ l.length<=10 ^ 18:=Nat.pow_le_pow_right (by omega) hl
   omega
 cases s with
 | nil=>simp[Lib.atoi] at h
 | cons b r=>
   simp only[List.length_cons] at hl
   unfold Lib.atoi at h
   simp only at h
   split at h
   ·simp only[Option.map_eq_some_iff] at h
    obtain⟨m,hm,rfl⟩:=h
    have:=key r m (by omega) hm
    omega
   ·split at h
    ·simp only[Option.map_eq_some_iff] at h
     obtain⟨m,hm,rfl⟩:=h
     have:=key r m (by omega) hm
     omega
    ·simp only[Option.map_eq_some_iff] at h
     obtain⟨m,hm,rfl⟩:=h
     have:=key (b::r) m (by simpa using hl) hm
     omega
def qQ (s:List UInt8):List UInt8×List UInt8×Bool:=
 match nk s with
 | some (a,b)=>(a,b,true)
 | none=>(s,[],false)
def xx (s:List UInt8):(Int×Nat)×Int:=
 match Lib.atoi ((qQ s).1++(qQ s).2.1) with
 | some n=>if IsN n (qQ s).2.1.length/\iW n (qQ s).2.1.length=s/\((qQ s).2.2=true->(qQ s).2.1≠[]) then ((n,(qQ s).2.1.length),0) else ((0,0),13)
 | none=>((0,0),13)
theorem Hk {s:List UInt8}(h0:s≠[])(hl:¬ 17<s.length):xx s=aS s:=by
 have yes:∀ n c,IsN n c->iW n c=s->xx s=((n,c),0)/\aS s=((n,c),0):=by
  intro n c hn hd
  obtain⟨A,B,P⟩:=SQ hn
  constructor
  ·have hc:=P.cut
   have ht:=P.txt
   have hv:=P.val
   rw[hd] at hc ht
   by_cases hz:c=0
   ·subst hz
    rw[if_pos rfl] at hc ht
    have hB:B=[]:=List.length_eq_zero_iff.1 P.len
    subst hB
    rw[List.append_nil] at hv
    rw[<- ht] at hv
    unfold xx qQ
    rw[hc]
    simp only[List.append_nil,hv,List.length_nil]
    rw[if_pos ⟨hn,hd,by simp⟩]
   ·rw[if_neg hz] at hc
    unfold xx qQ
    rw[hc]
    simp only[hv,P.len]
    rw[if_pos ⟨hn,hd,fun _ e=>hz (by rw[<- P.len,e];rfl)⟩]
  ·have hr:=P.rd
   have hs:=P.sg
   rw[hd] at hr hs
   unfold aS
   rw[if_neg h0,if_neg hl,hr]
   simp only[hs]
   rw[if_pos ⟨hn,hd⟩]
 by_cases hp:IsN (sgI s (rdS false 0 0 s).1) (rdS false 0 0 s).2/\iW (sgI s (rdS false 0 0 s).1) (rdS false 0 0 s).2=s
 ·obtain⟨e1,e2⟩:=yes _ _ hp.1 hp.2
  rw[e1,e2]
 ·have e2:aS s=((0,0),13):=by
   unfold aS
   rw[if_neg h0,if_neg hl,if_neg hp]
  rw[e2]
  unfold xx
  split
  ·rename_i n hn
   split
   ·rename_i hh
    have:=(yes _ _ hh.1 hh.2.1).2
    rw[e2] at this
    simp at this
   ·rfl
  ·rfl
attribute [local irreducible] vc
theorem dH {e:List (Nat×AV)}{σ:List (Nat×Blk)}{new:Nat}(ng:Bool)(x y:AX):mw e σ new (.inil ng x y)=fX [] (pr ng (evE e x) (evE e y)):=by
 simp only[mw,fX];cases pr ng (evE e x) (evE e y)<;>rfl
theorem r9 (ng:Bool)(T:Nat)(p:PV):pr ng (.pv (.iface T p)) (.pv .nili)=some (.pv (.bool ng)):=rfl
theorem dK (ng:Bool):pr ng (.pv .nili) (.pv .nili)=some (.pv (.bool (!ng))):=rfl
theorem mC {n:Int}(h:-9223372036854775808<n)(h2:n<=9223372036854775807)(c:Nat) :
  ae Tryz.prog au 42 [.agg [.int .i64 n,.int .i64 (c:Int)]] (.tup [.str (if IsN n c then iW n c else []),.int .i64 (if IsN n c then 0 else 2)]):=by
 by_cases hn:IsN n c
 ·rw[if_pos hn,if_pos hn];exact Bf hn
 ·rw[if_neg hn,if_neg hn];exact Be h h2 hn
theorem Qk (s:List UInt8):Oi s = .tup [.str (qQ s).1,.str (qQ s).2.1,.bool (qQ s).2.2]:=by
 unfold Oi qQ
 cases h:nk s with
 | none=>rfl
 | some q=>rfl
theorem IY (s:List UInt8):(qQ s).1.length+(qQ s).2.1.length<=s.length:=by
 unfold qQ
 split
 ·rename_i a b h
  rw[(lP 0 h).2]
  simp
 ·simp
theorem CF {T:Nat}{p:PV}(s:List UInt8):ae Tryz.prog (oF T p) 33 [.str s] (.tup [.agg [.int .i64 (aS s).1.1,.int .i64 ((aS s).1.2:Int)],.int .i64 (aS s).2]):=by
 by_cases h0:s=[]
 ·subst h0
  unfold aS
  rw[if_pos rfl]
  refine ae.intro Q33.2 (by simp[Q33]) ?_
  simp(disch:=try exact dI) only[Q33,push_cast,seval]
 have h0b:decide (s=[])=false:=decide_eq_false h0
 by_cases hl:17<s.length
 ·unfold aS
  rw[if_neg h0,if_pos hl]
  have hlI:(17:Int)<(s.length:Int):=by omega
  refine ae.intro Q33.2 (by simp[Q33]) ?_
  simp(disch:=try exact dI) only[Q33,h0b,push_cast,seval]
 rw[<- Hk h0 hl]
 have hlI:¬ (17:Int)<(s.length:Int):=by omega
 have hc:=toE (T:=T) (p:=p) (SR s (by omega))
 rw[Qk] at hc
 have hcl:=IY s
 unfold xx
 generalize qQ s=W at *
 obtain⟨w,r,b⟩:=W
 simp only at hc hcl ⊢
 have ha:=QU (T:=T) (p:=p) (w++r) (by simp;omega)
 have hbd:=fun n=>Aq (s:=w++r) (n:=n) (by simp;omega)
 cases hv:Lib.atoi (w++r) with
 | none=>
   rw[hv] at ha
   simp only[NF,Fa] at ha
   have ht:=toE (T:=T) (p:=p) (mC (n:=0) (by omega) (by omega) r.length)
   generalize (if IsN 0 r.length then iW 0 r.length else [])=t1 at *
   generalize (if IsN 0 r.length then (0:Int) else 2)=t2 at *
   refine ae.intro Q33.2 (by simp[Q33]) ?_
   simp(disch:=try exact dI) only[Q33,h0b,push_cast,seval]
   refine ab.pure hc rfl ?_
   refine zgZ ?_
   refine ab.pure ha rfl ?_
   refine zgZ ?_
   refine ab.pure ht rfl ?_
   simp(disch:=try exact dI) only[dH,r9,push_cast,seval]
 | some n=>
   rw[hv] at ha
   simp only[NF] at ha
   have hb:=hbd n hv
   have ht:=toE (T:=T) (p:=p) (mC (n:=n) (by omega) (by omega) r.length)
   simp only
   by_cases hn:IsN n r.length
   ·rw[if_pos hn,if_pos hn] at ht
    by_cases hd:iW n r.length=s
    ·rw[hd] at ht
     cases b with
     | true=>
       by_cases hr:r=[]
       ·rw[if_neg (fun h=>h.2.2 rfl hr)]
        subst hr
        rw[List.append_nil] at ha
        refine ae.intro Q33.2 (by simp[Q33]) ?_
        simp(disch:=try exact dI) only[Q33,h0b,push_cast,seval]
        refine ab.pure hc rfl ?_
        refine zgZ ?_
        refine ab.pure ha rfl ?_
        refine zgZ ?_
        refine ab.pure ht rfl ?_
        simp(disch:=try exact dI) only[dH,dK,push_cast,seval]
       ·rw[if_pos ⟨hn,hd,fun _=>hr⟩]
        have hrb:decide (r=[])=false:=decide_eq_false hr
        refine ae.intro Q33.2 (by simp[Q33]) ?_
        simp(disch:=try exact dI) only[Q33,h0b,push_cast,seval]
        refine ab.pure hc rfl ?_
        refine zgZ ?_
        refine ab.pure ha rfl ?_
        refine zgZ ?_
        refine ab.pure ht rfl ?_
        simp(disch:=try exact dI) only[hrb,dH,dK,push_cast,seval]
     | false=>
       rw[if_pos ⟨hn,hd,fun h=>by cases h⟩]
       refine ae.intro Q33.2 (by simp[Q33]) ?_
       simp(disch:=try exact dI) only[Q33,h0b,push_cast,seval]
       refine ab.pure hc rfl ?_
       refine zgZ ?_
       refine ab.pure ha rfl ?_
       refine zgZ ?_
       refine ab.pure ht rfl ?_
       simp(disch:=try exact dI) only[dH,dK,push_cast,seval]
    ·rw[if_neg (fun h=>hd h.2.1)]
     generalize iW n r.length=t at *
     have htb:(!decide (t=s))=true:=by simp[hd]
     refine ae.intro Q33.2 (by simp[Q33]) ?_
     simp(disch:=try exact dI) only[Q33,h0b,push_cast,seval]
     refine ab.pure hc rfl ?_
     refine zgZ ?_
     refine ab.pure ha rfl ?_
     refine zgZ ?_
     refine ab.pure ht rfl ?_
     simp(disch:=try exact dI) only[htb,dH,dK,push_cast,seval]
   ·rw[if_neg hn,if_neg hn] at ht
    rw[if_neg (fun h=>hn h.1)]
    refine ae.intro Q33.2 (by simp[Q33]) ?_
    simp(disch:=try exact dI) only[Q33,h0b,push_cast,seval]
    refine ab.pure hc rfl ?_
    refine zgZ ?_
    refine ab.pure ha rfl ?_
    refine zgZ ?_
    refine ab.pure ht rfl ?_
    simp(disch:=try exact dI) only[dH,dK,push_cast,seval]
def FF:List UInt8:=[48,49,50,51,52,53,54,55,56,57,97,98,99,100,101,102]
def nib (c:UInt8):Int:=il c FF 0
theorem iM:∀ c:UInt8,-1<=nib c/\nib c<=15/\(0<=nib c->FF[(nib c).toNat]? = some c):=by
 have key:∀ k:Fin 256,-1<=nib (UInt8.ofNat k.val)/\nib (UInt8.ofNat k.val)<=15/\(0<=nib (UInt8.ofNat k.val)->FF[(nib (UInt8.ofNat k.val)).toNat]? = some (UInt8.ofNat k.val)):=by decide +kernel
 intro c
 have h:=key ⟨c.toNat,c.toNat_lt⟩
 simpa using h
theorem Pz (c:UInt8):ae Tryz.prog au 73 [.str FF,.int .u8 (c.toNat:Int)] (.int .i64 (nib c)):=by
 have h:=n8 FF (c.toNat:Int)
 rw[show ((c.toNat:Int)).toNat.toUInt8=c by simp] at h
 exact h
def AF (a b:UInt8):UInt8:=UInt8.ofNat (16*(nib a).toNat+(nib b).toNat)
def rx:List UInt8->Option (List UInt8)
 | []=>some []
 | [_]=>none
 | a::b::r=>if nib a<0\/nib b<0 then none else (rx r).map (AF a b :: ·)
theorem ob:∀ {s:List UInt8},s.length % 2=1->rx s=none
 | [],h=>by simp at h
 | [_],_=>rfl
 | a::b::r,h=>by
   rw[rx]
   split
   ·rfl
   ·rw[ob (s:=r) (by simp only[List.length_cons] at h;omega)];rfl
theorem TQ {a:Int}(h0:0<=a)(h1:a<=15):cD .shl (.pv (.int .i64 a)) (.pv (.int .u64 4))=some (.pv (.int .i64 (a*16))):=by
 have e:cD .shl (.pv (.int .i64 a)) (.pv (.int .u64 4))=some (.pv (.int .i64 (IntKind.i64.wrap (a*16)))):=rfl
 rw[e,jJ (by omega) (by omega)]
theorem or4 {a b:Int}(h0:0<=a)(h1:a<=15)(h2:0<=b)(h3:b<=15):bits .or .i64 (a*16) b=a*16+b:=by
 have key:∀ x y:Fin 16,bits .or .i64 (((x.val:Nat):Int)*16) ((y.val:Nat):Int)=((x.val:Nat):Int)*16+((y.val:Nat):Int):=by decide +kernel
 have h:=key ⟨a.toNat,by omega⟩ ⟨b.toNat,by omega⟩
 simp only at h
 rw[show ((a.toNat:Nat):Int)=a by omega,show ((b.toNat:Nat):Int)=b by omega] at h
 exact h
theorem we {a b:UInt8}(ha:¬ nib a<0)(hb:¬ nib b<0):((AF a b).toNat:Int)=nib a*16+nib b:=by
 have h1:=iM a
 have h2:=iM b
 unfold AF
 rw[UInt8.toNat_ofNat']
 omega
def hdU (s:List UInt8):Nat×List UInt8->St
 | (i,[])=>⟨[(0,.pv (.str s)),(4,.ptr 0 0),(5,.pv (.int .i64 (i:Int)))],[(0,.cells 89 true [.pv .nilp,.pv .nils])],1⟩
 | (i,b::r)=>⟨[(0,.pv (.str s)),(4,.ptr 0 0),(5,.pv (.int .i64 (i:Int)))],[(0,.cells 89 true [.ptr 0 0,.row 1 1 0 (r.length+1)]),(1,.cells 5 false ((aF (b::r)).map .pv))],2⟩
def exU:List UInt8->St
 | []=>⟨[(4,.ptr 0 0)],[(0,.cells 89 true [.pv .nilp,.pv .nils])],1⟩
 | b::r=>⟨[(4,.ptr 0 0)],[(0,.cells 89 true [.ptr 0 0,.row 1 1 0 (r.length+1)]),(1,.cells 5 false ((aF (b::r)).map .pv))],2⟩
def DM:Option (List UInt8)->PV
 | some b=>.tup [.str b,.bool true]
 | none=>.tup [.str [],.bool false]
theorem K6 (s:List UInt8)(hl:s.length<=10000):ae Tryz.prog au 34 [.str s] (DM (rx s)):=by
 obtain⟨R,hR⟩:∃ R,R=rx s:=⟨_,rfl⟩
 rw[<- hR]
 have hm:=gx (a:=(s.length:Int)) (b:=2) (by omega)
 refine ae.intro Q34.2 (by simp[Q34]) ?_
 by_cases h2:s.length % 2=1
 ·rw[ob h2] at hR
  subst hR
  have hI:¬ (s.length:Int) % 2=0:=by omega
  simp(disch:=try exact dI) only[Q34,hm,DM,push_cast,seval]
 have hI:(s.length:Int) % 2=0:=by omega
 simp(disch:=try exact dI) only[Q34,hm,hI,push_cast,seval]
 refine jK (hdU s) (fun y=>y.1<=s.length/\y.1 % 2=0/\y.2.length<=y.1/\R=(rx (s.drop y.1)).map (y.2 ++ ·)) (fun y=>s.length - y.1) (0,[]) [4] exU (fun l=>R=some l/\l.length<=10000) ?_ ?_ ?_ ?_
 ·exact aR (by simp(disch:=try exact dI) only[hdU,push_cast,seval])
 ·exact⟨by simp,by simp,by simp,by simp[hR]⟩
 ·rintro⟨i,l⟩ ⟨h1,h3,h4,h5⟩
  simp only at h1 h3 h4 h5
  by_cases hi:i<s.length
  ·obtain⟨x,hx⟩:∃ x,s[i]? = some x:=⟨_,List.getElem?_eq_getElem hi⟩
   obtain⟨y,hy⟩:∃ y,s[i+1]? = some y:=⟨_,List.getElem?_eq_getElem (by omega)⟩
   rw[bO hx,bO hy,rx] at h5
   have n1:=Pz x
   have n2:=Pz y
   unfold FF at n1 n2
   have a1:=iM x
   have a2:=iM y
   by_cases hxn:nib x<0
   ·rw[if_pos (Or.inl hxn)] at h5
    have hR2:R=none:=h5
    rw[hR2]
    cases l with
    | nil=>
      simp(disch:=try exact dI) only[hdU,hx,hy,aq,push_cast,seval]
      refine ag n1 rfl ?_
      simp(disch:=try exact dI) only[hdU,hx,hy,aq,push_cast,seval]
      refine ab.pure n2 rfl ?_
      simp(disch:=try exact dI) only[DM,push_cast,seval]
    | cons b r=>
      simp(disch:=try exact dI) only[hdU,hx,hy,aq,push_cast,seval]
      refine ag n1 rfl ?_
      simp(disch:=try exact dI) only[hdU,hx,hy,aq,push_cast,seval]
      refine ab.pure n2 rfl ?_
      simp(disch:=try exact dI) only[DM,push_cast,seval]
   ·by_cases hyn:nib y<0
    ·rw[if_pos (Or.inr hyn)] at h5
     have hR2:R=none:=h5
     rw[hR2]
     cases l with
     | nil=>
       simp(disch:=try exact dI) only[hdU,hx,hy,aq,push_cast,seval]
       refine ag n1 rfl ?_
       simp(disch:=try exact dI) only[hdU,hx,hy,aq,push_cast,seval]
       refine ab.pure n2 rfl ?_
       simp(disch:=try exact dI) only[DM,push_cast,seval]
     | cons b r=>
       simp(disch:=try exact dI) only[hdU,hx,hy,aq,push_cast,seval]
       refine ag n1 rfl ?_
       simp(disch:=try exact dI) only[hdU,hx,hy,aq,push_cast,seval]
       refine ab.pure n2 rfl ?_
       simp(disch:=try exact dI) only[DM,push_cast,seval]
    ·rw[if_neg (by rintro (h | h);exact hxn h;exact hyn h)] at h5
     have hs4:=TQ (a:=nib x) (by omega) (by omega)
     have ho4:=or4 (a:=nib x) (b:=nib y) (by omega) (by omega) (by omega) (by omega)
     have hbn:=we hxn hyn
     have hw:=j4 (n:=nib x*16+nib y) (by omega) (by omega)
     have h5':R=(rx (s.drop (i+2))).map (l++[AF x y] ++ ·):=by
      rw[h5,Option.map_map]
      congr 1
      funext q;simp
     cases l with
     | nil=>
       have hW:=gr false [] (AF x y) (by simp)
       simp only[bB,aB,List.nil_append] at hW
       rw[hbn] at hW
       simp(disch:=try exact dI) only[hdU,hx,hy,aq,push_cast,seval]
       refine ag n1 rfl ?_
       simp(disch:=try exact dI) only[hdU,hx,hy,aq,push_cast,seval]
       refine ab.pure n2 rfl ?_
       simp(disch:=try exact dI) only[hs4,ho4,hw,push_cast,seval]
       refine ab.lentK hW [0] rfl qsZ qsZ ?_
       refine zgZ ?_
       exact⟨(i+2,[AF x y]),aR (by simp(disch:=try exact dI) only[hdU,push_cast,seval];omega),⟨by simp only;omega,by simp only;omega,by simp,by simpa using h5'⟩,by simp only;omega⟩
     | cons b r=>
       have hW:=gr true (b::r) (AF x y) (by simp at h4 ⊢;omega)
       simp only[bB,aB,List.cons_append] at hW
       rw[hbn] at hW
       simp(disch:=try exact dI) only[hdU,hx,hy,aq,push_cast,seval]
       refine ag n1 rfl ?_
       simp(disch:=try exact dI) only[hdU,hx,hy,aq,push_cast,seval]
       refine ab.pure n2 rfl ?_
       simp(disch:=try exact dI) only[hs4,ho4,hw,push_cast,seval]
       refine ab.lentK hW [0,1] rfl qsZ qsZ ?_
       refine zgZ ?_
       exact⟨(i+2,b::(r++[AF x y])),aR (by simp(disch:=try exact dI) only[hdU,push_cast,seval];omega),⟨by simp only;omega,by simp only;omega,by simp at h4 ⊢;omega,by simpa using h5'⟩,by simp only;omega⟩
  ·have hie:i=s.length:=by omega
   rw[List.drop_eq_nil_of_le (by omega),rx,Option.map_some,List.append_nil] at h5
   cases l with
   | nil=>
     simp(disch:=try exact dI) only[hdU,push_cast,seval]
     exact⟨[],aR (by simp(disch:=try exact dI) only[exU,push_cast,seval]),h5,by simp⟩
   | cons b r=>
     simp(disch:=try exact dI) only[hdU,push_cast,seval]
     exact⟨b::r,aR (by simp(disch:=try exact dI) only[exU,push_cast,seval]),h5,by omega⟩
 ·rintro l ⟨h1,h2⟩
  rw[h1]
  cases l with
  | nil=>
    have hSt:=kg false [] (by simp)
    simp only[bB,aB,stB] at hSt
    simp(disch:=try exact dI) only[exU,push_cast,seval]
    refine ab.lentK hSt [0] rfl qsZ qsZ ?_
    simp(disch:=try exact dI) only[DM,push_cast,seval]
  | cons b r=>
    have hSt:=kg true (b::r) (by omega)
    simp only[bB,aB,stB] at hSt
    simp(disch:=try exact dI) only[exU,push_cast,seval]
    refine ab.lentK hSt [0,1] rfl qsZ qsZ ?_
    simp(disch:=try exact dI) only[DM,push_cast,seval]
end Go.Proofs.YtbaaokocnegdoaaGreatDoor
