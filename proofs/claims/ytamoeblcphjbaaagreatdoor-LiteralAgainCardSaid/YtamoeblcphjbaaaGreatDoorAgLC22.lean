/- A part of the proof for LiteralAgainCardSaid. -/
import Derived.Test.YtamoeblcphjbaaaGreatDoorAgLSh2
set_option maxRecDepth 100000
set_option linter.unusedVariables false
set_option linter.unusedSimpArgs false
-- many steps
namespace Go.Proofs.YtamoeblcphjbaaaGreatDoor
open Go Go.Ab
attribute [local irreducible] vc
def iP (d:UInt8):List UInt8→Option (List UInt8×List UInt8)
 | []=>none
 | c::r=>if c=d then some ([],r) else (iP d r).map fun q=>(c::q.1,q.2)
theorem pG {d:UInt8}:∀ {s:List UInt8} (k:Nat),iP d s=none→e9 d s k = -1
 | [],k,_=>rfl
 | c::r,k,h=>by
   rw[iP] at h
   split at h
   ·cases h
   ·rename_i hc
    rw[e9,if_neg (by simpa using hc)]
    exact pG (k+1) (by simpa using h)
theorem g9 {d:UInt8}:∀ {s a b:List UInt8} (k:Nat),iP d s=some (a,b)→e9 d s k=(k:Int)+a.length∧s=a++d::b
 | [],a,b,k,h=>by simp[iP] at h
 | c::r,a,b,k,h=>by
   rw[iP] at h
   split at h
   ·rename_i hc
    cases h
    subst hc
    rw[e9,if_pos (by simp)]
    exact⟨by simp,rfl⟩
   ·rename_i hc
    simp only[Option.map_eq_some_iff] at h
    obtain⟨q,hq,he⟩:=h
    cases he
    have ih:=g9 (k+1) hq
    rw[e9,if_neg (by simpa using hc),ih.1]
    refine⟨by simp;omega,?_⟩
    conv=>lhs;rw[ih.2]
    rfl
def nt (d:UInt8)(s:List UInt8):PV:=
 match iP d s with
 | some (a,b)=>.tup [.str a,.str b,.bool true]
 | none=>.tup [.str s,.str [],.bool false]
theorem Fy (s:List UInt8)(d:UInt8):aq Tryz.prog aF 248 [.str s,.str [d]] (.int .i64 (e9 d s 0)):=by
 by_cases h:s=[d]
 ·subst h
  refine aq.intro CG (by simp[OC]) ?_
  rw[show e9 d [d] 0=0 by simp[e9]]
  simp(disch:=try exact dI) only[OC,push_cast,seval]
 ·have hi:=tw s (d.toNat:Int)
  rw[show ((d.toNat:Int)).toNat.toUInt8=d by simp] at hi
  have hb:decide ([d]=s)=false:=decide_eq_false fun e=>h e.symm
  generalize e9 d s 0=q at *
  refine aq.intro CG (by simp[OC]) ?_
  simp(disch:=try exact dI) only[OC,hb,push_cast,seval]
  refine ab.pure hi rfl ?_
  simp(disch:=try exact dI) only[push_cast,seval]
theorem Nw (d:UInt8)(s:List UInt8)(hl:s.length≤100000):aq Tryz.prog aF 220 [.str s,.str [d]] (nt d s):=by
 have hi:=Fy s d
 unfold nt
 cases hc:iP d s with
 | none=>
   rw[pG 0 hc] at hi
   refine aq.intro CI (by simp[OG]) ?_
   simp(disch:=try exact dI) only[OG,push_cast,seval]
   refine ab.pure hi rfl ?_
   simp(disch:=try exact dI) only[push_cast,seval]
 | some q=>
   obtain⟨a,b⟩:=q
   obtain⟨h1,h2⟩:=g9 0 hc
   rw[h1] at hi
   have hsl:s.length=a.length+(b.length+1):=by rw[h2];simp
   have t1:s.take a.length=a:=by rw[h2];simp
   have t2:s.drop (a.length+1)=b:=by rw[h2];simp
   have ez:((0:Nat):Int)+(a.length:Int)=(a.length:Int):=by omega
   rw[ez] at hi
   have e1:((a.length:Int)).toNat=a.length:=by omega
   have e2:((a.length:Int)+1).toNat=a.length+1:=by omega
   refine aq.intro CI (by simp[OG]) ?_
   simp(disch:=try exact dI) only[OG,push_cast,seval]
   refine ab.pure hi rfl ?_
   simp(disch:=try exact dI) only[t1,t2,e1,e2,List.take_length,push_cast,seval]
theorem BQ (d:UInt8)(s:List UInt8)(hl:s.length≤100000):aq Tryz.prog aF 184 [.str s,.str [d]] (nt d s):=by
 have h:=Nw d s hl
 unfold nt at h ⊢
 cases hc:iP d s with
 | none=>
   rw[hc] at h
   refine aq.intro CK (by simp[ON]) ?_
   simp(disch:=try exact dI) only[ON,push_cast,seval]
   refine ab.pure h rfl ?_
   simp(disch:=try exact dI) only[push_cast,seval]
 | some q=>
   obtain⟨a,b⟩:=q
   rw[hc] at h
   refine aq.intro CK (by simp[ON]) ?_
   simp(disch:=try exact dI) only[ON,push_cast,seval]
   refine ab.pure h rfl ?_
   simp(disch:=try exact dI) only[push_cast,seval]
def p9:List UInt8→Option (List UInt8×List UInt8)
 | []=>none
 | c::r=>if c=46 then some ([],r) else (p9 r).map fun q=>(c::q.1,q.2)
theorem BN:∀ s:List UInt8,p9 s=iP 46 s
 | []=>rfl
 | c::r=>by rw[p9,iP,BN r]
theorem BM {s a b:List UInt8}(k:Nat)(h:p9 s=some (a,b)):e9 46 s k=(k:Int)+a.length∧s=a++46::b:=g9 k ((BN s).symm.trans h)
def Ph (s:List UInt8):PV:=
 match p9 s with
 | some (a,b)=>.tup [.str a,.str b,.bool true]
 | none=>.tup [.str s,.str [],.bool false]
theorem Qy (s:List UInt8)(hl:s.length≤100000):aq Tryz.prog aF 184 [.str s,.str [46]] (Ph s):=by
 have:=BQ 46 s hl
 unfold nt at this;unfold Ph;rw[BN];exact this
end Go.Proofs.YtamoeblcphjbaaaGreatDoor
namespace Go.Proofs.YtamoeblcphjbaaaGreatDoor
open Go Go.Ab
theorem jc:∀ (k acc a:Nat) (r:List UInt8),Lib.decFrom acc (aY k a++r)=Lib.decFrom (acc*10 ^ k+a % 10 ^ k) r
 | 0,acc,a,r=>by simp[aY,Nat.mod_one]
 | k+1,acc,a,r=>by
   rw[aY,List.append_assoc,jc k acc (a / 10)]
   have hd:(UInt8.ofNat (48+a % 10)).toNat=48+a % 10:=by
    rw[UInt8.toNat_ofNat'];omega
   have hv:Lib.digitVal (UInt8.ofNat (48+a % 10))=some (a % 10):=by
    unfold Lib.digitVal
    rw[hd,if_pos (by omega)]
    congr 1;omega
   rw[List.singleton_append,Lib.decFrom,hv]
   have e:a % 10 ^ (k+1)=a % 10+10*(a / 10 % 10 ^ k):=by rw[Nat.pow_succ,Nat.mul_comm,Nat.mod_mul]
   rw[e,Nat.pow_succ]
   simp only
   congr 1
   have e2:acc*(10 ^ k*10)=acc*10 ^ k*10:=by rw[Nat.mul_assoc]
   rw[e2]
   omega
theorem kg:∀ (k v c a:Nat) (r:List UInt8),rdS false v c (aY k a++r)=rdS false (v*10 ^ k+a % 10 ^ k) c r
 | 0,v,c,a,r=>by simp[aY,Nat.mod_one]
 | k+1,v,c,a,r=>by
   rw[aY,List.append_assoc,kg k v c (a / 10)]
   have hd:(UInt8.ofNat (48+a % 10)).toNat=48+a % 10:=by
    rw[UInt8.toNat_ofNat'];omega
   have hD:isD (UInt8.ofNat (48+a % 10))=true:=by unfold isD;rw[hd];simp;omega
   have h46:(false||decide (UInt8.ofNat (48+a % 10)=46))=false:=by
    rw[Bool.false_or]
    refine decide_eq_false fun h=>?_
    have:=congrArg UInt8.toNat h
    rw[hd] at this
    simp at this
    omega
   rw[List.singleton_append,rdS,if_pos hD,h46,hd]
   have e:a % 10 ^ (k+1)=a % 10+10*(a / 10 % 10 ^ k):=by rw[Nat.pow_succ,Nat.mul_comm,Nat.mod_mul]
   rw[e,Nat.pow_succ]
   simp only[Bool.false_eq_true,if_false]
   congr 1
   have e2:v*(10 ^ k*10)=v*10 ^ k*10:=by rw[Nat.mul_assoc]
   rw[e2]
   omega
theorem mN:∀ (k v c a:Nat) (r:List UInt8),rdS true v c (aY k a++r)=rdS true (v*10 ^ k+a % 10 ^ k) (c+k) r
 | 0,v,c,a,r=>by simp[aY,Nat.mod_one]
 | k+1,v,c,a,r=>by
   rw[aY,List.append_assoc,mN k v c (a / 10)]
   have hd:(UInt8.ofNat (48+a % 10)).toNat=48+a % 10:=by
    rw[UInt8.toNat_ofNat'];omega
   have hD:isD (UInt8.ofNat (48+a % 10))=true:=by unfold isD;rw[hd];simp;omega
   rw[List.singleton_append,rdS,if_pos hD,hd]
   have e:a % 10 ^ (k+1)=a % 10+10*(a / 10 % 10 ^ k):=by rw[Nat.pow_succ,Nat.mul_comm,Nat.mod_mul]
   rw[e,Nat.pow_succ]
   simp only[Bool.true_or,if_true]
   have e2:v*(10 ^ k*10)=v*10 ^ k*10:=by rw[Nat.mul_assoc]
   rw[e2]
   congr 1
   omega
theorem vD:∀ (k a:Nat),p9 (aY k a)=none∧∀ r,p9 (aY k a++46::r)=some (aY k a,r)
 | k,a=>by
   have key:∀ l:List UInt8,(∀ x,x∈l→x≠46)→p9 l=none∧∀ r,p9 (l++46::r)=some (l,r):=by
    intro l
    induction l with
    | nil=>intro _;exact⟨rfl,fun r=>by simp[p9]⟩
    | cons c l ih=>
      intro h
      have hc:c≠46:=h c (by simp)
      have ih:=ih fun x hx=>h x (by simp[hx])
      refine⟨by rw[p9,if_neg hc,ih.1];rfl,fun r=>by rw[List.cons_append,p9,if_neg hc,ih.2 r];rfl⟩
   refine key _ ?_
   have:∀ (k a:Nat) x,x∈aY k a→48≤x.toNat:=by
    intro k
    induction k with
    | zero=>intro a x hx;simp[aY] at hx
    | succ k ih=>
      intro a x hx
      rw[aY,List.mem_append] at hx
      rcases hx with hx | hx
      ·exact ih _ x hx
      ·simp only[List.mem_singleton] at hx
       rw[hx,UInt8.toNat_ofNat']
       omega
   intro x hx e
   have:=this k a x hx
   rw[e] at this
   revert this;decide
theorem dr {k a:Nat}(hk:0<k):∃ c r,aY k a=c::r∧48≤c.toNat∧c.toNat≤57:=by
 obtain⟨j,rfl⟩:∃ j,k=j+1:=⟨k - 1,by omega⟩
 refine⟨UInt8.ofNat (48+a / 10 ^ j % 10),aY j a,z7 j a,?_,?_⟩
 ·rw[UInt8.toNat_ofNat'];omega
 ·rw[UInt8.toNat_ofNat'];omega
structure DecP (n:Int)(c:Nat)(A B:List UInt8):Prop where
 cut:p9 (c8 n c)=if c=0 then none else some (A,B)
 txt:c8 n c=if c=0 then A else A++46::B
 len:B.length=c
 val:Lib.atoi (A++B)=some n
 rd:rdS false 0 0 (c8 n c)=(n.natAbs,c)
 sg:sgI (c8 n c) n.natAbs=n
 ne:c8 n c≠[]
theorem decP {n:Int}{c:Nat}(h:IsN n c):∃ A B,DecP n c A B:=by
 obtain⟨h1,h2,h3⟩:=h
 have hlt:n.natAbs<10 ^ 15:=by simp;omega
 have hdl:=eN hlt
 obtain⟨a,ha⟩:∃ a,a=n.natAbs:=⟨_,rfl⟩
 rw[← ha] at hlt hdl
 obtain⟨K,hK⟩:∃ K,K=max (dl a) (c+1):=⟨_,rfl⟩
 have haK:a<10 ^ K:=Nat.lt_of_lt_of_le hdl.2.2 (Nat.pow_le_pow_right (by omega) (by omega))
 have hsp:=fC (K - c) c a
 rw[show K - c+c=K by omega] at hsp
 have hdec:c8 n c=(if n<0 then [45] else [])++(aY (K - c) (a / 10 ^ c)++(if c=0 then [] else 46::aY c a)):=by unfold c8;rw[← ha,← hK]
 have hni:=vD (K - c) (a / 10 ^ c)
 obtain⟨x,r,hx,hx1,hx2⟩:=dr (k:=K - c) (a:=a / 10 ^ c) (by omega)
 have hx45:x≠45:=by intro e;subst e;revert hx1;decide
 have hx43:x≠43:=by intro e;subst e;revert hx1;decide
 have hq:a / 10 ^ c % 10 ^ (K - c)=a / 10 ^ c:=by
  refine Nat.mod_eq_of_lt (Nat.div_lt_of_lt_mul ?_)
  rw[← Nat.pow_add,show c+(K - c)=K by omega]
  exact haK
 have hrd:rdS false 0 0 (aY (K - c) (a / 10 ^ c)++(if c=0 then [] else 46::aY c a))=(a,c):=by
  rw[kg,hq]
  by_cases h0:c=0
  ·rw[if_pos h0,h0];simp[rdS]
  ·rw[if_neg h0,rdS,if_neg (by decide)]
   have:=mN c (0*10 ^ (K - c)+a / 10 ^ c) 0 a []
   rw[List.append_nil] at this
   rw[show (false||decide ((46:UInt8)=46))=true from rfl,this,rdS]
   rw[show 0*10 ^ (K - c)+a / 10 ^ c=a / 10 ^ c by omega,Nat.zero_add]
   have e2:=Nat.div_add_mod a (10 ^ c)
   rw[Nat.mul_comm] at e2
   rw[e2]
 have hval:Lib.decNat (aY K a)=some a:=by
  unfold Lib.decNat
  have hne:(aY K a).isEmpty=false:=by
   obtain⟨y,q,hy,_⟩:=dr (k:=K) (a:=a) (by omega)
   rw[hy];rfl
  rw[hne]
  have:=jc K 0 a []
  rw[List.append_nil] at this
  simp only[Bool.false_eq_true,if_false]
  rw[this,Lib.decFrom,Nat.mod_eq_of_lt haK]
  congr 1;omega
 by_cases hneg:n<0
 ·rw[if_pos hneg] at hdec
  refine⟨45::aY (K - c) (a / 10 ^ c),aY c a,?_⟩
  constructor
  ·rw[hdec,List.singleton_append,p9,if_neg (by decide)]
   by_cases h0:c=0
   ·rw[if_pos h0,if_pos h0,List.append_nil,hni.1];rfl
   ·rw[if_neg h0,if_neg h0,hni.2];rfl
  ·rw[hdec]
   by_cases h0:c=0
   ·rw[if_pos h0,if_pos h0];simp
   ·rw[if_neg h0,if_neg h0];simp
  ·exact aV c a
  ·rw[List.cons_append,← hsp]
   unfold Lib.atoi
   simp only[beq_self_eq_true,if_true]
   rw[hval]
   simp only[Option.map_some]
   congr 1;omega
  ·rw[hdec,List.singleton_append,rdS,if_neg (by decide)]
   rw[show (false||decide ((45:UInt8)=46))=false from rfl,hrd,← ha]
  ·unfold sgI
   rw[hdec,List.singleton_append,List.head?_cons,if_pos rfl]
   omega
  ·rw[hdec];simp
 ·rw[if_neg hneg] at hdec
  rw[List.nil_append] at hdec
  refine⟨aY (K - c) (a / 10 ^ c),aY c a,?_⟩
  constructor
  ·rw[hdec]
   by_cases h0:c=0
   ·rw[if_pos h0,if_pos h0,List.append_nil,hni.1]
   ·rw[if_neg h0,if_neg h0,hni.2]
  ·rw[hdec]
   by_cases h0:c=0
   ·rw[if_pos h0,if_pos h0];simp
   ·rw[if_neg h0,if_neg h0]
  ·exact aV c a
  ·rw[← hsp]
   have hval':=hval
   rw[hsp,hx] at hval' ⊢
   rw[List.cons_append] at hval' ⊢
   unfold Lib.atoi
   simp only
   rw[show (x == 45)=false by simpa using hx45,show (x == 43)=false by simpa using hx43]
   simp only[Bool.false_eq_true,if_false]
   rw[hval']
   simp only[Option.map_some]
   congr 1;omega
  ·rw[hdec,hrd,← ha]
  ·unfold sgI
   rw[hdec,hx,List.cons_append,List.head?_cons,if_neg (by simpa using hx45)]
   omega
  ·rw[hdec,hx];simp
theorem pB:∀ (l:List UInt8) (acc m:Nat),Lib.decFrom acc l=some m→m+1≤(acc+1)*10 ^ l.length
 | [],acc,m,h=>by simp only[Lib.decFrom] at h;cases h;simp
 | b::r,acc,m,h=>by
   rw[Lib.decFrom] at h
   unfold Lib.digitVal at h
   split at h
   ·rename_i hd
    split at hd
    ·rename_i hb
     cases hd
     have ih:=pB r _ m h
     refine Nat.le_trans ih ?_
     rw[List.length_cons,Nat.pow_succ,Nat.mul_comm (10 ^ r.length) 10,← Nat.mul_assoc]
     exact Nat.mul_le_mul_right _ (by omega)
    ·cases hd
   ·cases h
theorem wM {s:List UInt8}{n:Int}(hl:s.length≤18)(h:Lib.atoi s=some n):n.natAbs≤1000000000000000000:=by
 have key:∀ (l:List UInt8) (m:Nat),l.length≤18→Lib.decNat l=some m→m≤1000000000000000000:=by
  intro l m hl h
  unfold Lib.decNat at h
  split at h
  ·cases h
  ·have:=pB l 0 m h
   have hp:10 ^ l.length≤10 ^ 18:=Nat.pow_le_pow_right (by omega) hl
   omega
 cases s with
 | nil=>simp[Lib.atoi] at h
 | cons b r=>
   simp only[List.length_cons] at hl
   unfold Lib.atoi at h
   simp only at h
   split at h
   ·simp only[Option.map_eq_some_iff] at h
    obtain⟨m,hm,rfl⟩:=h
    have:=key r m (by omega) hm
    omega
   ·split at h
    ·simp only[Option.map_eq_some_iff] at h
     obtain⟨m,hm,rfl⟩:=h
     have:=key r m (by omega) hm
     omega
    ·simp only[Option.map_eq_some_iff] at h
     obtain⟨m,hm,rfl⟩:=h
     have:=key (b::r) m (by simpa using hl) hm
     omega
def pF (s:List UInt8):List UInt8×List UInt8×Bool:=
 match p9 s with
 | some (a,b)=>(a,b,true)
 | none=>(s,[],false)
def vk (s:List UInt8):(Int×Nat)×Int:=
 match Lib.atoi ((pF s).1++(pF s).2.1) with
 | some n=>if IsN n (pF s).2.1.length∧c8 n (pF s).2.1.length=s∧((pF s).2.2=true→(pF s).2.1≠[]) then ((n,(pF s).2.1.length),0) else ((0,0),13)
 | none=>((0,0),13)
theorem EJ {s:List UInt8}(h0:s≠[])(hl:¬ 17<s.length):vk s=bg s:=by
 have yes:∀ n c,IsN n c→c8 n c=s→vk s=((n,c),0)∧bg s=((n,c),0):=by
  intro n c hn hd
  obtain⟨A,B,P⟩:=decP hn
  constructor
  ·have hc:=P.cut
   have ht:=P.txt
   have hv:=P.val
   rw[hd] at hc ht
   by_cases hz:c=0
   ·subst hz
    rw[if_pos rfl] at hc ht
    have hB:B=[]:=List.length_eq_zero_iff.1 P.len
    subst hB
    rw[List.append_nil] at hv
    rw[← ht] at hv
    unfold vk pF
    rw[hc]
    simp only[List.append_nil,hv,List.length_nil]
    rw[if_pos ⟨hn,hd,by simp⟩]
   ·rw[if_neg hz] at hc
    unfold vk pF
    rw[hc]
    simp only[hv,P.len]
    rw[if_pos ⟨hn,hd,fun _ e=>hz (by rw[← P.len,e];rfl)⟩]
  ·have hr:=P.rd
   have hs:=P.sg
   rw[hd] at hr hs
   unfold bg
   rw[if_neg h0,if_neg hl,hr]
   simp only[hs]
   rw[if_pos ⟨hn,hd⟩]
 by_cases hp:IsN (sgI s (rdS false 0 0 s).1) (rdS false 0 0 s).2∧c8 (sgI s (rdS false 0 0 s).1) (rdS false 0 0 s).2=s
 ·obtain⟨e1,e2⟩:=yes _ _ hp.1 hp.2
  rw[e1,e2]
 ·have e2:bg s=((0,0),13):=by
   unfold bg
   rw[if_neg h0,if_neg hl,if_neg hp]
  rw[e2]
  unfold vk
  split
  ·rename_i n hn
   split
   ·rename_i hh
    have:=(yes _ _ hh.1 hh.2.1).2
    rw[e2] at this
    simp at this
   ·rfl
  ·rfl
end Go.Proofs.YtamoeblcphjbaaaGreatDoor
