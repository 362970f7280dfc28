/- A part of the proof. -/
import Derived.Test.YtbojpfpliibfbaaGreatDoorMxRSh4
set_option maxHeartbeats 16000000
set_option maxRecDepth 100000
set_option linter.unusedVariables false
set_option linter.unusedSimpArgs false
namespace Go.Proofs.YtbojpfpliibfbaaGreatDoor
open Go Go.Ab
theorem iY:∀ (k acc a:Nat) (r:List UInt8),Lib.decFrom acc (aQ k a++r)=Lib.decFrom (acc*10 ^ k+a % 10 ^ k) r
 | 0,acc,a,r=>by simp[aQ,Nat.mod_one]
 | k+1,acc,a,r=>by
   rw[aQ,List.append_assoc,iY k acc (a / 10)]
   have hd:(UInt8.ofNat (48+a % 10)).toNat=48+a % 10:=by
    rw[UInt8.toNat_ofNat'];omega
   have hv:Lib.digitVal (UInt8.ofNat (48+a % 10))=some (a % 10):=by
    unfold Lib.digitVal
    rw[hd,if_pos (by omega)]
    congr 1;omega
   rw[List.singleton_append,Lib.decFrom,hv]
   have e:a % 10 ^ (k+1)=a % 10+10*(a / 10 % 10 ^ k):=by rw[Nat.pow_succ,Nat.mul_comm,Nat.mod_mul]
   rw[e,Nat.pow_succ]
   simp only
   congr 1
   have e2:acc*(10 ^ k*10)=acc*10 ^ k*10:=by rw[Nat.mul_assoc]
   rw[e2]
   omega
theorem jY:∀ (k v c a:Nat) (r:List UInt8),rdS false v c (aQ k a++r)=rdS false (v*10 ^ k+a % 10 ^ k) c r
 | 0,v,c,a,r=>by simp[aQ,Nat.mod_one]
 | k+1,v,c,a,r=>by
   rw[aQ,List.append_assoc,jY k v c (a / 10)]
   have hd:(UInt8.ofNat (48+a % 10)).toNat=48+a % 10:=by
    rw[UInt8.toNat_ofNat'];omega
   have hD:isD (UInt8.ofNat (48+a % 10))=true:=by unfold isD;rw[hd];simp;omega
   have h46:(false||decide (UInt8.ofNat (48+a % 10)=46))=false:=by
    rw[Bool.false_or]
    refine decide_eq_false fun h=>?_
    have:=congrArg UInt8.toNat h
    rw[hd] at this
    simp at this
    omega
   rw[List.singleton_append,rdS,if_pos hD,h46,hd]
   have e:a % 10 ^ (k+1)=a % 10+10*(a / 10 % 10 ^ k):=by rw[Nat.pow_succ,Nat.mul_comm,Nat.mod_mul]
   rw[e,Nat.pow_succ]
   simp only[Bool.false_eq_true,if_false]
   congr 1
   have e2:v*(10 ^ k*10)=v*10 ^ k*10:=by rw[Nat.mul_assoc]
   rw[e2]
   omega
theorem mR:∀ (k v c a:Nat) (r:List UInt8),rdS true v c (aQ k a++r)=rdS true (v*10 ^ k+a % 10 ^ k) (c+k) r
 | 0,v,c,a,r=>by simp[aQ,Nat.mod_one]
 | k+1,v,c,a,r=>by
   rw[aQ,List.append_assoc,mR k v c (a / 10)]
   have hd:(UInt8.ofNat (48+a % 10)).toNat=48+a % 10:=by
    rw[UInt8.toNat_ofNat'];omega
   have hD:isD (UInt8.ofNat (48+a % 10))=true:=by unfold isD;rw[hd];simp;omega
   rw[List.singleton_append,rdS,if_pos hD,hd]
   have e:a % 10 ^ (k+1)=a % 10+10*(a / 10 % 10 ^ k):=by rw[Nat.pow_succ,Nat.mul_comm,Nat.mod_mul]
   rw[e,Nat.pow_succ]
   simp only[Bool.true_or,if_true]
   have e2:v*(10 ^ k*10)=v*10 ^ k*10:=by rw[Nat.mul_assoc]
   rw[e2]
   congr 1
   omega
theorem wl:∀ (k a:Nat),mt (aQ k a)=none/\∀ r,mt (aQ k a++46::r)=some (aQ k a,r)
 | k,a=>by
   have key:∀ l:List UInt8,(∀ x,x∈l->x≠46)->mt l=none/\∀ r,mt (l++46::r)=some (l,r):=by
    intro l
    induction l with
    | nil=>intro _;exact⟨rfl,fun r=>by simp[mt]⟩
    | cons c l ih=>
      intro h
      have hc:c≠46:=h c (by simp)
      have ih:=ih fun x hx=>h x (by simp[hx])
      refine⟨by rw[mt,if_neg hc,ih.1];rfl,fun r=>by rw[List.cons_append,mt,if_neg hc,ih.2 r];rfl⟩
   refine key _ ?_
   have:∀ (k a:Nat) x,x∈aQ k a->48<=x.toNat:=by
    intro k
    induction k with
    | zero=>intro a x hx;simp[aQ] at hx
    | succ k ih=>
      intro a x hx
      rw[aQ,List.mem_append] at hx
      rcases hx with hx | hx
      ·exact ih _ x hx
      ·simp only[List.mem_singleton] at hx
       rw[hx,UInt8.toNat_ofNat']
       omega
   intro x hx e
   have:=this k a x hx
   rw[e] at this
   revert this;decide
theorem ke {k a:Nat}(hk:0<k):∃ c r,aQ k a=c::r/\48<=c.toNat/\c.toNat<=57:=by
 obtain⟨j,rfl⟩:∃ j,k=j+1:=⟨k - 1,by omega⟩
 refine⟨UInt8.ofNat (48+a / 10 ^ j % 10),aQ j a,kb j a,?_,?_⟩
 ·rw[UInt8.toNat_ofNat'];omega
 ·rw[UInt8.toNat_ofNat'];omega
structure DecP (n:Int)(c:Nat)(A B:List UInt8):Prop where
 cut:mt (ce n c)=if c=0 then none else some (A,B)
 txt:ce n c=if c=0 then A else A++46::B
 len:B.length=c
 val:Lib.atoi (A++B)=some n
 rd:rdS false 0 0 (ce n c)=(n.natAbs,c)
 sg:sgI (ce n c) n.natAbs=n
 ne:ce n c≠[]
theorem decP {n:Int}{c:Nat}(h:IsN n c):∃ A B,DecP n c A B:=by
 obtain⟨h1,h2,h3⟩:=h
 have hlt:n.natAbs<10 ^ 15:=by simp;omega
 have hdl:=iE hlt
 obtain⟨a,ha⟩:∃ a,a=n.natAbs:=⟨_,rfl⟩
 rw[<- ha] at hlt hdl
 obtain⟨K,hK⟩:∃ K,K=max (dl a) (c+1):=⟨_,rfl⟩
 have haK:a<10 ^ K:=Nat.lt_of_lt_of_le hdl.2.2 (Nat.pow_le_pow_right (by omega) (by omega))
 have hsp:=fv (K - c) c a
 rw[show K - c+c=K by omega] at hsp
 have hdec:ce n c=(if n<0 then [45] else [])++(aQ (K - c) (a / 10 ^ c)++(if c=0 then [] else 46::aQ c a)):=by unfold ce;rw[<- ha,<- hK]
 have hni:=wl (K - c) (a / 10 ^ c)
 obtain⟨x,r,hx,hx1,hx2⟩:=ke (k:=K - c) (a:=a / 10 ^ c) (by omega)
 have hx45:x≠45:=by intro e;subst e;revert hx1;decide
 have hx43:x≠43:=by intro e;subst e;revert hx1;decide
 have hq:a / 10 ^ c % 10 ^ (K - c)=a / 10 ^ c:=by
  refine Nat.mod_eq_of_lt (Nat.div_lt_of_lt_mul ?_)
  rw[<- Nat.pow_add,show c+(K - c)=K by omega]
  exact haK
 have hrd:rdS false 0 0 (aQ (K - c) (a / 10 ^ c)++(if c=0 then [] else 46::aQ c a))=(a,c):=by
  rw[jY,hq]
  by_cases h0:c=0
  ·rw[if_pos h0,h0];simp[rdS]
  ·rw[if_neg h0,rdS,if_neg (by decide)]
   have:=mR c (0*10 ^ (K - c)+a / 10 ^ c) 0 a []
   rw[List.append_nil] at this
   rw[show (false||decide ((46:UInt8)=46))=true from rfl,this,rdS]
   rw[show 0*10 ^ (K - c)+a / 10 ^ c=a / 10 ^ c by omega,Nat.zero_add]
   have e2:=Nat.div_add_mod a (10 ^ c)
   rw[Nat.mul_comm] at e2
   rw[e2]
 have hval:Lib.decNat (aQ K a)=some a:=by
  unfold Lib.decNat
  have hne:(aQ K a).isEmpty=false:=by
   obtain⟨y,q,hy,_⟩:=ke (k:=K) (a:=a) (by omega)
   rw[hy];rfl
  rw[hne]
  have:=iY K 0 a []
  rw[List.append_nil] at this
  simp only[Bool.false_eq_true,if_false]
  rw[this,Lib.decFrom,Nat.mod_eq_of_lt haK]
  congr 1;omega
 by_cases hneg:n<0
 ·rw[if_pos hneg] at hdec
  refine⟨45::aQ (K - c) (a / 10 ^ c),aQ c a,?_⟩
  constructor
  ·rw[hdec,List.singleton_append,mt,if_neg (by decide)]
   by_cases h0:c=0
   ·rw[if_pos h0,if_pos h0,List.append_nil,hni.1];rfl
   ·rw[if_neg h0,if_neg h0,hni.2];rfl
  ·rw[hdec]
   by_cases h0:c=0
   ·rw[if_pos h0,if_pos h0];simp
   ·rw[if_neg h0,if_neg h0];simp
  ·exact aT c a
  ·rw[List.cons_append,<- hsp]
   unfold Lib.atoi
   simp only[beq_self_eq_true,if_true]
   rw[hval]
   simp only[Option.map_some]
   congr 1;omega
  ·rw[hdec,List.singleton_append,rdS,if_neg (by decide)]
   rw[show (false||decide ((45:UInt8)=46))=false from rfl,hrd,<- ha]
  ·unfold sgI
   rw[hdec,List.singleton_append,List.head?_cons,if_pos rfl]
   omega
  ·rw[hdec];simp
 ·rw[if_neg hneg] at hdec
  rw[List.nil_append] at hdec
  refine⟨aQ (K - c) (a / 10 ^ c),aQ c a,?_⟩
  constructor
  ·rw[hdec]
   by_cases h0:c=0
   ·rw[if_pos h0,if_pos h0,List.append_nil,hni.1]
   ·rw[if_neg h0,if_neg h0,hni.2]
  ·rw[hdec]
   by_cases h0:c=0
   ·rw[if_pos h0,if_pos h0];simp
   ·rw[if_neg h0,if_neg h0]
  ·exact aT c a
  ·rw[<- hsp]
   have hval':=hval
   rw[hsp,hx] at hval' ⊢
   rw[List.cons_append] at hval' ⊢
   unfold Lib.atoi
   simp only
   rw[show (x == 45)=false by simpa using hx45,show (x == 43)=false by simpa using hx43]
   simp only[Bool.false_eq_true,if_false]
   rw[hval']
   simp only[Option.map_some]
   congr 1;omega
  ·rw[hdec,hrd,<- ha]
  ·unfold sgI
   rw[hdec,hx,List.cons_append,List.head?_cons,if_neg (by simpa using hx45)]
   omega
  ·rw[hdec,hx];simp
theorem pI:∀ (l:List UInt8) (acc m:Nat),Lib.decFrom acc l=some m->m+1<=(acc+1)*10 ^ l.length
 | [],acc,m,h=>by simp only[Lib.decFrom] at h;cases h;simp
 | b::r,acc,m,h=>by
   rw[Lib.decFrom] at h
   unfold Lib.digitVal at h
   split at h
   ·rename_i hd
    split at hd
    ·rename_i hb
     cases hd
     have ih:=pI r _ m h
     refine Nat.le_trans ih ?_
     rw[List.length_cons,Nat.pow_succ,Nat.mul_comm (10 ^ r.length) 10,<- Nat.mul_assoc]
     exact Nat.mul_le_mul_right _ (by omega)
    ·cases hd
   ·cases h
theorem yd {s:List UInt8}{n:Int}(hl:s.length<=18)(h:Lib.atoi s=some n):n.natAbs<=1000000000000000000:=by
 have key:∀ (l:List UInt8) (m:Nat),l.length<=18->Lib.decNat l=some m->m<=1000000000000000000:=by
  intro l m hl h
  unfold Lib.decNat at h
  split at h
  ·cases h
  ·have:=pI l 0 m h
   have hp:10 ^ l.length<=10 ^ 18:=Nat.pow_le_pow_right (by omega) hl
   omega
 cases s with
 | nil=>simp[Lib.atoi] at h
 | cons b r=>
   simp only[List.length_cons] at hl
   unfold Lib.atoi at h
   simp only at h
   split at h
   ·simp only[Option.map_eq_some_iff] at h
    obtain⟨m,hm,rfl⟩:=h
    have:=key r m (by omega) hm
    omega
   ·split at h
    ·simp only[Option.map_eq_some_iff] at h
     obtain⟨m,hm,rfl⟩:=h
     have:=key r m (by omega) hm
     omega
    ·simp only[Option.map_eq_some_iff] at h
     obtain⟨m,hm,rfl⟩:=h
     have:=key (b::r) m (by simpa using hl) hm
     omega
def pL (s:List UInt8):List UInt8×List UInt8×Bool:=
 match mt s with
 | some (a,b)=>(a,b,true)
 | none=>(s,[],false)
def vW (s:List UInt8):(Int×Nat)×Int:=
 match Lib.atoi ((pL s).1++(pL s).2.1) with
 | some n=>if IsN n (pL s).2.1.length/\ce n (pL s).2.1.length=s/\((pL s).2.2=true->(pL s).2.1≠[]) then ((n,(pL s).2.1.length),0) else ((0,0),13)
 | none=>((0,0),13)
theorem Gv {s:List UInt8}(h0:s≠[])(hl:¬ 17<s.length):vW s=bm s:=by
 have yes:∀ n c,IsN n c->ce n c=s->vW s=((n,c),0)/\bm s=((n,c),0):=by
  intro n c hn hd
  obtain⟨A,B,P⟩:=decP hn
  constructor
  ·have hc:=P.cut
   have ht:=P.txt
   have hv:=P.val
   rw[hd] at hc ht
   by_cases hz:c=0
   ·subst hz
    rw[if_pos rfl] at hc ht
    have hB:B=[]:=List.length_eq_zero_iff.1 P.len
    subst hB
    rw[List.append_nil] at hv
    rw[<- ht] at hv
    unfold vW pL
    rw[hc]
    simp only[List.append_nil,hv,List.length_nil]
    rw[if_pos ⟨hn,hd,by simp⟩]
   ·rw[if_neg hz] at hc
    unfold vW pL
    rw[hc]
    simp only[hv,P.len]
    rw[if_pos ⟨hn,hd,fun _ e=>hz (by rw[<- P.len,e];rfl)⟩]
  ·have hr:=P.rd
   have hs:=P.sg
   rw[hd] at hr hs
   unfold bm
   rw[if_neg h0,if_neg hl,hr]
   simp only[hs]
   rw[if_pos ⟨hn,hd⟩]
 by_cases hp:IsN (sgI s (rdS false 0 0 s).1) (rdS false 0 0 s).2/\ce (sgI s (rdS false 0 0 s).1) (rdS false 0 0 s).2=s
 ·obtain⟨e1,e2⟩:=yes _ _ hp.1 hp.2
  rw[e1,e2]
 ·have e2:bm s=((0,0),13):=by
   unfold bm
   rw[if_neg h0,if_neg hl,if_neg hp]
  rw[e2]
  unfold vW
  split
  ·rename_i n hn
   split
   ·rename_i hh
    have:=(yes _ _ hh.1 hh.2.1).2
    rw[e2] at this
    simp at this
   ·rfl
  ·rfl
attribute [local irreducible] vc
theorem dH {e:List (Nat×AV)}{σ:List (Nat×Blk)}{new:Nat}(ng:Bool)(x y:AX):lD e σ new (.inil ng x y)=gV [] (oB ng (evE e x) (evE e y)):=by
 simp only[lD,gV];cases oB ng (evE e x) (evE e y)<;>rfl
theorem qU (ng:Bool)(T:Nat)(p:PV):oB ng (.pv (.iface T p)) (.pv .nili)=some (.pv (.bool ng)):=rfl
theorem dK (ng:Bool):oB ng (.pv .nili) (.pv .nili)=some (.pv (.bool (!ng))):=rfl
theorem lJ {n:Int}(h:-9223372036854775808<n)(h2:n<=9223372036854775807)(c:Nat) :
  ag Tryz.prog aq 83 [.agg [.int .i64 n,.int .i64 (c:Int)]] (.tup [.str (if IsN n c then ce n c else []),.int .i64 (if IsN n c then 0 else 2)]):=by
 by_cases hn:IsN n c
 ·rw[if_pos hn,if_pos hn];exact zZ hn
 ·rw[if_neg hn,if_neg hn];exact zY h h2 hn
theorem PJ (s:List UInt8):No s = .tup [.str (pL s).1,.str (pL s).2.1,.bool (pL s).2.2]:=by
 unfold No pL
 cases h:mt s with
 | none=>rfl
 | some q=>rfl
theorem H0 (s:List UInt8):(pL s).1.length+(pL s).2.1.length<=s.length:=by
 unfold pL
 split
 ·rename_i a b h
  rw[(kR 0 h).2]
  simp
 ·simp
theorem Lf {T:Nat}{p:PV}(s:List UInt8):ag Tryz.prog (bR T p) 206 [.str s] (.tup [.agg [.int .i64 (bm s).1.1,.int .i64 ((bm s).1.2:Int)],.int .i64 (bm s).2]):=by
 by_cases h0:s=[]
 ·subst h0
  unfold bm
  rw[if_pos rfl]
  refine ag.intro jA.2 (by simp[jA]) ?_
  simp(disch:=try exact dI) only[jA,push_cast,seval]
 have h0b:decide (s=[])=false:=decide_eq_false h0
 by_cases hl:17<s.length
 ·unfold bm
  rw[if_neg h0,if_pos hl]
  have hlI:(17:Int)<(s.length:Int):=by omega
  refine ag.intro jA.2 (by simp[jA]) ?_
  simp(disch:=try exact dI) only[jA,h0b,push_cast,seval]
 rw[<- Gv h0 hl]
 have hlI:¬ (17:Int)<(s.length:Int):=by omega
 have hc:=toE (T:=T) (p:=p) (So s (by omega))
 rw[PJ] at hc
 have hcl:=H0 s
 unfold vW
 generalize pL s=W at *
 obtain⟨w,r,b⟩:=W
 simp only at hc hcl ⊢
 have ha:=Qu (T:=T) (p:=p) (w++r) (by simp;omega)
 have hbd:=fun n=>yd (s:=w++r) (n:=n) (by simp;omega)
 cases hv:Lib.atoi (w++r) with
 | none=>
   rw[hv] at ha
   simp only[MM,En] at ha
   have ht:=toE (T:=T) (p:=p) (lJ (n:=0) (by omega) (by omega) r.length)
   generalize (if IsN 0 r.length then ce 0 r.length else [])=t1 at *
   generalize (if IsN 0 r.length then (0:Int) else 2)=t2 at *
   refine ag.intro jA.2 (by simp[jA]) ?_
   simp(disch:=try exact dI) only[jA,h0b,push_cast,seval]
   refine ab.pure hc rfl ?_
   refine zgZ ?_
   refine ab.pure ha rfl ?_
   refine zgZ ?_
   refine ab.pure ht rfl ?_
   simp(disch:=try exact dI) only[dH,qU,push_cast,seval]
 | some n=>
   rw[hv] at ha
   simp only[MM] at ha
   have hb:=hbd n hv
   have ht:=toE (T:=T) (p:=p) (lJ (n:=n) (by omega) (by omega) r.length)
   simp only
   by_cases hn:IsN n r.length
   ·rw[if_pos hn,if_pos hn] at ht
    by_cases hd:ce n r.length=s
    ·rw[hd] at ht
     cases b with
     | true=>
       by_cases hr:r=[]
       ·rw[if_neg (fun h=>h.2.2 rfl hr)]
        subst hr
        rw[List.append_nil] at ha
        refine ag.intro jA.2 (by simp[jA]) ?_
        simp(disch:=try exact dI) only[jA,h0b,push_cast,seval]
        refine ab.pure hc rfl ?_
        refine zgZ ?_
        refine ab.pure ha rfl ?_
        refine zgZ ?_
        refine ab.pure ht rfl ?_
        simp(disch:=try exact dI) only[dH,dK,push_cast,seval]
       ·rw[if_pos ⟨hn,hd,fun _=>hr⟩]
        have hrb:decide (r=[])=false:=decide_eq_false hr
        refine ag.intro jA.2 (by simp[jA]) ?_
        simp(disch:=try exact dI) only[jA,h0b,push_cast,seval]
        refine ab.pure hc rfl ?_
        refine zgZ ?_
        refine ab.pure ha rfl ?_
        refine zgZ ?_
        refine ab.pure ht rfl ?_
        simp(disch:=try exact dI) only[hrb,dH,dK,push_cast,seval]
     | false=>
       rw[if_pos ⟨hn,hd,fun h=>by cases h⟩]
       refine ag.intro jA.2 (by simp[jA]) ?_
       simp(disch:=try exact dI) only[jA,h0b,push_cast,seval]
       refine ab.pure hc rfl ?_
       refine zgZ ?_
       refine ab.pure ha rfl ?_
       refine zgZ ?_
       refine ab.pure ht rfl ?_
       simp(disch:=try exact dI) only[dH,dK,push_cast,seval]
    ·rw[if_neg (fun h=>hd h.2.1)]
     generalize ce n r.length=t at *
     have htb:(!decide (t=s))=true:=by simp[hd]
     refine ag.intro jA.2 (by simp[jA]) ?_
     simp(disch:=try exact dI) only[jA,h0b,push_cast,seval]
     refine ab.pure hc rfl ?_
     refine zgZ ?_
     refine ab.pure ha rfl ?_
     refine zgZ ?_
     refine ab.pure ht rfl ?_
     simp(disch:=try exact dI) only[htb,dH,dK,push_cast,seval]
   ·rw[if_neg hn,if_neg hn] at ht
    rw[if_neg (fun h=>hn h.1)]
    refine ag.intro jA.2 (by simp[jA]) ?_
    simp(disch:=try exact dI) only[jA,h0b,push_cast,seval]
    refine ab.pure hc rfl ?_
    refine zgZ ?_
    refine ab.pure ha rfl ?_
    refine zgZ ?_
    refine ab.pure ht rfl ?_
    simp(disch:=try exact dI) only[dH,dK,push_cast,seval]
def Q3:List UInt8:=[48,49,50,51,52,53,54,55,56,57,97,98,99,100,101,102]
def nib (c:UInt8):Int:=nq c Q3 0
theorem mZ:∀ c:UInt8,-1<=nib c/\nib c<=15/\nib c=if 48<=(c.toNat:Int)/\(c.toNat:Int)<=57 then (c.toNat:Int) - 48 else if 97<=(c.toNat:Int)/\(c.toNat:Int)<=102 then (c.toNat:Int) - 97+10 else -1:=by
 have key:∀ k:Fin 256,-1<=nib (UInt8.ofNat k.val)/\nib (UInt8.ofNat k.val)<=15/\nib (UInt8.ofNat k.val)=if 48<=((UInt8.ofNat k.val).toNat:Int)/\((UInt8.ofNat k.val).toNat:Int)<=57 then ((UInt8.ofNat k.val).toNat:Int) - 48 else if 97<=((UInt8.ofNat k.val).toNat:Int)/\((UInt8.ofNat k.val).toNat:Int)<=102 then ((UInt8.ofNat k.val).toNat:Int) - 97+10 else -1:=by decide +kernel
 intro c
 have h:=key ⟨c.toNat,c.toNat_lt⟩
 simpa using h
theorem Ja (c:UInt8):ag Tryz.prog aq 208 [.str Q3,.int .u8 (c.toNat:Int)] (.int .i64 (nib c)):=by
 have h:=LV Q3 (c.toNat:Int)
 rw[show ((c.toNat:Int)).toNat.toUInt8=c by simp] at h
 exact h
def Qg (a b:UInt8):UInt8:=UInt8.ofNat (16*(nib a).toNat+(nib b).toNat)
def nT:List UInt8->Option (List UInt8)
 | []=>some []
 | [_]=>none
 | a::b::r=>if nib a<0\/nib b<0 then none else (nT r).map (Qg a b :: ·)
theorem tQ:∀ {s:List UInt8},s.length % 2=1->nT s=none
 | [],h=>by simp at h
 | [_],_=>rfl
 | a::b::r,h=>by
   rw[nT]
   split
   ·rfl
   ·rw[tQ (s:=r) (by simp only[List.length_cons] at h;omega)];rfl
theorem tR:∀ {s b:List UInt8},nT s=some b->2*b.length=s.length
 | [],b,h=>by simp only[nT,Option.some.injEq] at h;subst h;rfl
 | [_],b,h=>by simp[nT] at h
 | x::y::r,b,h=>by
   rw[nT] at h
   split at h
   ·cases h
   ·rw[Option.map_eq_some_iff] at h
    obtain⟨q,h1,rfl⟩:=h
    have:=tR h1
    simp only[List.length_cons];omega
theorem Ib {a b:UInt8}(ha:¬ nib a<0)(hb:¬ nib b<0):((Qg a b).toNat:Int)=16*nib a+nib b:=by
 have h1:=mZ a
 have h2:=mZ b
 unfold Qg
 rw[UInt8.toNat_ofNat']
 omega
def i8 (k n s:Int)(t:List UInt8):PV:=.agg [.int .i64 k,.int .i64 n,.int .i64 s,.str t,.nils,.nils]
def eP:PV:=.agg [.int .i64 0,.int .i64 0,.int .i64 0,.str [],.nils,.nils]
theorem H9 (s:List UInt8):ag Tryz.prog aq 209 [.str s] (i8 5 0 0 s):=by
 unfold i8
 refine ag.intro Te.2 (by simp[Te]) ?_
 simp(disch:=try exact dI) only[Te,push_cast,seval]
theorem Kf (s:List UInt8):ag Tryz.prog aq 166 [.str s] (i8 4 0 0 s):=by
 unfold i8
 refine ag.intro NC.2 (by simp[NC]) ?_
 simp(disch:=try exact dI) only[NC,push_cast,seval]
theorem Ed (b:Bool):ag Tryz.prog aq 163 [.bool b] (i8 1 (if b=true then 1 else 0) 0 []):=by
 unfold i8
 refine ag.intro Rh.2 (by simp[Rh]) ?_
 cases b
 ·rw[if_neg (by decide)]
  simp(disch:=try exact dI) only[Rh,push_cast,seval]
 ·rw[if_pos rfl]
  simp(disch:=try exact dI) only[Rh,push_cast,seval]
def Ln:Option (List UInt8)->PV
 | some b=>.tup [i8 5 0 0 b,.int .i64 0]
 | none=>.tup [eP,.int .i64 13]
theorem BP (s:List UInt8)(hl:s.length<=1000000):ag Tryz.prog aq 167 [.str s] (Ln (nT s)):=by
 obtain⟨R,hR⟩:∃ R,R=nT s:=⟨_,rfl⟩
 rw[<- hR]
 have hm:=eD (a:=(s.length:Int)) (b:=2) (by omega)
 refine ag.intro Rg.2 (by simp[Rg]) ?_
 by_cases h2:s.length % 2=1
 ·rw[tQ h2] at hR
  subst hR
  have hI:¬ (s.length:Int) % 2=0:=by omega
  simp(disch:=try exact dI) only[Rg,hm,hI,Ln,eP,push_cast,seval]
 have hI:(s.length:Int) % 2=0:=by omega
 simp(disch:=try exact dI) only[Rg,hm,hI,push_cast,seval]
 refine az ([(4,0,5,1)]) (fun x:Nat×List UInt8=>[(4,.olist 1 1 (aw x.2)),(5,.pv (.int .i64 (x.1:Int)))]) (fun _=>[]) (fun x=>x.1<=s.length/\x.1 % 2=0/\x.2.length<=x.1/\R=(nT (s.drop x.1)).map (x.2 ++ ·)) (fun x=>s.length - x.1) ((0,[])) ?_;intro e0 σ0 n0 h0;simp(disch:=try exact dI) only[push_cast,seval] at h0;obtain⟨rfl,rfl,rfl⟩:=h0;refine⟨?_,?_,?_⟩
 ·simp(disch:=try exact dI) only[aw,List.map_nil,push_cast,seval]
 ·exact⟨by simp,by simp,by simp,by simp[hR]⟩
 rintro⟨i,l⟩ ⟨h1,h3,h4,h5⟩
 simp only at h1 h3 h4 h5
 by_cases hi:i<s.length
 ·obtain⟨x,hx⟩:∃ x,s[i]? = some x:=⟨_,List.getElem?_eq_getElem hi⟩
  obtain⟨y,hy⟩:∃ y,s[i+1]? = some y:=⟨_,List.getElem?_eq_getElem (by omega)⟩
  rw[b9 hx,b9 hy,nT] at h5
  have hiI:(i:Int)<(s.length:Int):=by omega
  have n1:=Ja x
  have n2:=Ja y
  unfold Q3 at n1 n2
  have a1:=mZ x
  have a2:=mZ y
  by_cases hxn:nib x<0
  ·rw[if_pos (Or.inl hxn)] at h5
   have hR2:R=none:=h5
   rw[hR2]
   generalize nib x=u at *
   generalize nib y=v at *
   simp(disch:=try exact dI) only[hx,hy,aG,push_cast,seval]
   refine am n1 rfl ?_
   simp(disch:=try exact dI) only[hx,hy,aG,push_cast,seval]
   refine ab.pure n2 rfl ?_
   simp(disch:=try exact dI) only[hxn,Ln,eP,push_cast,seval]
  ·by_cases hyn:nib y<0
   ·rw[if_pos (Or.inr hyn)] at h5
    have hR2:R=none:=h5
    rw[hR2]
    generalize nib x=u at *
    generalize nib y=v at *
    simp(disch:=try exact dI) only[hx,hy,aG,push_cast,seval]
    refine am n1 rfl ?_
    simp(disch:=try exact dI) only[hx,hy,aG,push_cast,seval]
    refine ab.pure n2 rfl ?_
    simp(disch:=try exact dI) only[hxn,hyn,Ln,eP,push_cast,seval]
   ·rw[if_neg (fun h=>h.elim hxn hyn)] at h5
    have hb:=Ib hxn hyn
    generalize nib x=u at *
    generalize nib y=v at *
    generalize Qg x y=w at *
    have hw:=w.toNat_lt
    have hB:aw (l++[w])=aw l++[.int .u8 (16*u+v)]:=by rw[gN,<- hb];rfl
    have hL:(aw l).length<=1000000:=by
     rw[show (aw l).length=l.length by simp[aw]];omega
    have hb0:0<=16*u+v/\16*u+v<=255:=by omega
    generalize aw l=T at *
    simp(disch:=try exact dI) only[hx,hy,aG,push_cast,seval]
    refine am n1 rfl ?_
    simp(disch:=try exact dI) only[hx,hy,aG,push_cast,seval]
    refine ab.pure n2 rfl ?_
    simp(disch:=try exact dI) only[hxn,hyn,push_cast,seval]
    have e2:((i:Int)+2)=(i:Int)+1+1:=by omega
    exact⟨(i+1+1,l++[w]),aV (by simp(disch:=try exact dI) only[hB,e2,push_cast,seval]),⟨by simp only;omega,by simp only;omega,by simp only[List.length_append,List.length_cons,List.length_nil];omega,by rw[h5,Option.map_map];simp[Function.comp_def]⟩,by simp only;omega⟩
 ·obtain rfl:i=s.length:=by omega
  rw[List.drop_length,nT] at h5
  simp only[Option.map_some,List.append_nil] at h5
  subst h5
  have hU:u8s (aw l)=some l:=f9 _
  have hL:(aw l).length<=1000000:=by
   rw[show (aw l).length=l.length by simp[aw]];omega
  have h209:=H9 l
  generalize aw l=T at *
  simp(disch:=try exact dI) only[Int.lt_irrefl,hU,push_cast,seval]
  refine ab.pure h209 rfl ?_
  simp(disch:=try exact dI) only[Ln,i8,push_cast,seval]
end Go.Proofs.YtbojpfpliibfbaaGreatDoor
