/- A part of the proof for LiteralFieldsCardSaid. -/
import Derived.Test.YtamoeblcphjbaaaGreatDoorFlLSh2
set_option maxRecDepth 100000
set_option linter.unusedVariables false
set_option linter.unusedSimpArgs false
-- many steps
namespace Go.Proofs.YtamoeblcphjbaaaGreatDoor
open Go Go.Ab
attribute [local irreducible] vc
def iG (d:UInt8):List UInt8→Option (List UInt8×List UInt8)
 | []=>none
 | c::r=>if c=d then some ([],r) else (iG d r).map fun q=>(c::q.1,q.2)
theorem pM {d:UInt8}:∀ {s:List UInt8} (k:Nat),iG d s=none→eU d s k = -1
 | [],k,_=>rfl
 | c::r,k,h=>by
   rw[iG] at h
   split at h
   ·cases h
   ·rename_i hc
    rw[eU,if_neg (by simpa using hc)]
    exact pM (k+1) (by simpa using h)
theorem gR {d:UInt8}:∀ {s a b:List UInt8} (k:Nat),iG d s=some (a,b)→eU d s k=(k:Int)+a.length∧s=a++d::b
 | [],a,b,k,h=>by simp[iG] at h
 | c::r,a,b,k,h=>by
   rw[iG] at h
   split at h
   ·rename_i hc
    cases h
    subst hc
    rw[eU,if_pos (by simp)]
    exact⟨by simp,rfl⟩
   ·rename_i hc
    simp only[Option.map_eq_some_iff] at h
    obtain⟨q,hq,he⟩:=h
    cases he
    have ih:=gR (k+1) hq
    rw[eU,if_neg (by simpa using hc),ih.1]
    refine⟨by simp;omega,?_⟩
    conv=>lhs;rw[ih.2]
    rfl
def nB (d:UInt8)(s:List UInt8):PV:=
 match iG d s with
 | some (a,b)=>.tup [.str a,.str b,.bool true]
 | none=>.tup [.str s,.str [],.bool false]
theorem Gc (s:List UInt8)(d:UInt8):aq Tryz.prog aF 248 [.str s,.str [d]] (.int .i64 (eU d s 0)):=by
 by_cases h:s=[d]
 ·subst h
  refine aq.intro Dl (by simp[Pw]) ?_
  rw[show eU d [d] 0=0 by simp[eU]]
  simp(disch:=try exact dI) only[Pw,push_cast,seval]
 ·have hi:=tT s (d.toNat:Int)
  rw[show ((d.toNat:Int)).toNat.toUInt8=d by simp] at hi
  have hb:decide ([d]=s)=false:=decide_eq_false fun e=>h e.symm
  generalize eU d s 0=q at *
  refine aq.intro Dl (by simp[Pw]) ?_
  simp(disch:=try exact dI) only[Pw,hb,push_cast,seval]
  refine ab.pure hi rfl ?_
  simp(disch:=try exact dI) only[push_cast,seval]
theorem Od (d:UInt8)(s:List UInt8)(hl:s.length≤100000):aq Tryz.prog aF 220 [.str s,.str [d]] (nB d s):=by
 have hi:=Gc s d
 unfold nB
 cases hc:iG d s with
 | none=>
   rw[pM 0 hc] at hi
   refine aq.intro Dn (by simp[PA]) ?_
   simp(disch:=try exact dI) only[PA,push_cast,seval]
   refine ab.pure hi rfl ?_
   simp(disch:=try exact dI) only[push_cast,seval]
 | some q=>
   obtain⟨a,b⟩:=q
   obtain⟨h1,h2⟩:=gR 0 hc
   rw[h1] at hi
   have hsl:s.length=a.length+(b.length+1):=by rw[h2];simp
   have t1:s.take a.length=a:=by rw[h2];simp
   have t2:s.drop (a.length+1)=b:=by rw[h2];simp
   have ez:((0:Nat):Int)+(a.length:Int)=(a.length:Int):=by omega
   rw[ez] at hi
   have e1:((a.length:Int)).toNat=a.length:=by omega
   have e2:((a.length:Int)+1).toNat=a.length+1:=by omega
   refine aq.intro Dn (by simp[PA]) ?_
   simp(disch:=try exact dI) only[PA,push_cast,seval]
   refine ab.pure hi rfl ?_
   simp(disch:=try exact dI) only[t1,t2,e1,e2,List.take_length,push_cast,seval]
theorem Cp (d:UInt8)(s:List UInt8)(hl:s.length≤100000):aq Tryz.prog aF 184 [.str s,.str [d]] (nB d s):=by
 have h:=Od d s hl
 unfold nB at h ⊢
 cases hc:iG d s with
 | none=>
   rw[hc] at h
   refine aq.intro Dp (by simp[PH]) ?_
   simp(disch:=try exact dI) only[PH,push_cast,seval]
   refine ab.pure h rfl ?_
   simp(disch:=try exact dI) only[push_cast,seval]
 | some q=>
   obtain⟨a,b⟩:=q
   rw[hc] at h
   refine aq.intro Dp (by simp[PH]) ?_
   simp(disch:=try exact dI) only[PH,push_cast,seval]
   refine ab.pure h rfl ?_
   simp(disch:=try exact dI) only[push_cast,seval]
def qp:List UInt8→Option (List UInt8×List UInt8)
 | []=>none
 | c::r=>if c=46 then some ([],r) else (qp r).map fun q=>(c::q.1,q.2)
theorem Cm:∀ s:List UInt8,qp s=iG 46 s
 | []=>rfl
 | c::r=>by rw[qp,iG,Cm r]
theorem Cl {s a b:List UInt8}(k:Nat)(h:qp s=some (a,b)):eU 46 s k=(k:Int)+a.length∧s=a++46::b:=gR k ((Cm s).symm.trans h)
def Qa (s:List UInt8):PV:=
 match qp s with
 | some (a,b)=>.tup [.str a,.str b,.bool true]
 | none=>.tup [.str s,.str [],.bool false]
theorem Rq (s:List UInt8)(hl:s.length≤100000):aq Tryz.prog aF 184 [.str s,.str [46]] (Qa s):=by
 have:=Cp 46 s hl
 unfold nB at this;unfold Qa;rw[Cm];exact this
end Go.Proofs.YtamoeblcphjbaaaGreatDoor
namespace Go.Proofs.YtamoeblcphjbaaaGreatDoor
open Go Go.Ab
theorem iZ:∀ (k acc a:Nat) (r:List UInt8),Lib.decFrom acc (aX k a++r)=Lib.decFrom (acc*10 ^ k+a % 10 ^ k) r
 | 0,acc,a,r=>by simp[aX,Nat.mod_one]
 | k+1,acc,a,r=>by
   rw[aX,List.append_assoc,iZ k acc (a / 10)]
   have hd:(UInt8.ofNat (48+a % 10)).toNat=48+a % 10:=by
    rw[UInt8.toNat_ofNat'];omega
   have hv:Lib.digitVal (UInt8.ofNat (48+a % 10))=some (a % 10):=by
    unfold Lib.digitVal
    rw[hd,if_pos (by omega)]
    congr 1;omega
   rw[List.singleton_append,Lib.decFrom,hv]
   have e:a % 10 ^ (k+1)=a % 10+10*(a / 10 % 10 ^ k):=by rw[Nat.pow_succ,Nat.mul_comm,Nat.mod_mul]
   rw[e,Nat.pow_succ]
   simp only
   congr 1
   have e2:acc*(10 ^ k*10)=acc*10 ^ k*10:=by rw[Nat.mul_assoc]
   rw[e2]
   omega
theorem j8:∀ (k v c a:Nat) (r:List UInt8),rdS false v c (aX k a++r)=rdS false (v*10 ^ k+a % 10 ^ k) c r
 | 0,v,c,a,r=>by simp[aX,Nat.mod_one]
 | k+1,v,c,a,r=>by
   rw[aX,List.append_assoc,j8 k v c (a / 10)]
   have hd:(UInt8.ofNat (48+a % 10)).toNat=48+a % 10:=by
    rw[UInt8.toNat_ofNat'];omega
   have hD:isD (UInt8.ofNat (48+a % 10))=true:=by unfold isD;rw[hd];simp;omega
   have h46:(false||decide (UInt8.ofNat (48+a % 10)=46))=false:=by
    rw[Bool.false_or]
    refine decide_eq_false fun h=>?_
    have:=congrArg UInt8.toNat h
    rw[hd] at this
    simp at this
    omega
   rw[List.singleton_append,rdS,if_pos hD,h46,hd]
   have e:a % 10 ^ (k+1)=a % 10+10*(a / 10 % 10 ^ k):=by rw[Nat.pow_succ,Nat.mul_comm,Nat.mod_mul]
   rw[e,Nat.pow_succ]
   simp only[Bool.false_eq_true,if_false]
   congr 1
   have e2:v*(10 ^ k*10)=v*10 ^ k*10:=by rw[Nat.mul_assoc]
   rw[e2]
   omega
theorem mT:∀ (k v c a:Nat) (r:List UInt8),rdS true v c (aX k a++r)=rdS true (v*10 ^ k+a % 10 ^ k) (c+k) r
 | 0,v,c,a,r=>by simp[aX,Nat.mod_one]
 | k+1,v,c,a,r=>by
   rw[aX,List.append_assoc,mT k v c (a / 10)]
   have hd:(UInt8.ofNat (48+a % 10)).toNat=48+a % 10:=by
    rw[UInt8.toNat_ofNat'];omega
   have hD:isD (UInt8.ofNat (48+a % 10))=true:=by unfold isD;rw[hd];simp;omega
   rw[List.singleton_append,rdS,if_pos hD,hd]
   have e:a % 10 ^ (k+1)=a % 10+10*(a / 10 % 10 ^ k):=by rw[Nat.pow_succ,Nat.mul_comm,Nat.mod_mul]
   rw[e,Nat.pow_succ]
   simp only[Bool.true_or,if_true]
   have e2:v*(10 ^ k*10)=v*10 ^ k*10:=by rw[Nat.mul_assoc]
   rw[e2]
   congr 1
   omega
theorem v8:∀ (k a:Nat),qp (aX k a)=none∧∀ r,qp (aX k a++46::r)=some (aX k a,r)
 | k,a=>by
   have key:∀ l:List UInt8,(∀ x,x∈l→x≠46)→qp l=none∧∀ r,qp (l++46::r)=some (l,r):=by
    intro l
    induction l with
    | nil=>intro _;exact⟨rfl,fun r=>by simp[qp]⟩
    | cons c l ih=>
      intro h
      have hc:c≠46:=h c (by simp)
      have ih:=ih fun x hx=>h x (by simp[hx])
      refine⟨by rw[qp,if_neg hc,ih.1];rfl,fun r=>by rw[List.cons_append,qp,if_neg hc,ih.2 r];rfl⟩
   refine key _ ?_
   have:∀ (k a:Nat) x,x∈aX k a→48≤x.toNat:=by
    intro k
    induction k with
    | zero=>intro a x hx;simp[aX] at hx
    | succ k ih=>
      intro a x hx
      rw[aX,List.mem_append] at hx
      rcases hx with hx | hx
      ·exact ih _ x hx
      ·simp only[List.mem_singleton] at hx
       rw[hx,UInt8.toNat_ofNat']
       omega
   intro x hx e
   have:=this k a x hx
   rw[e] at this
   revert this;decide
theorem dj {k a:Nat}(hk:0<k):∃ c r,aX k a=c::r∧48≤c.toNat∧c.toNat≤57:=by
 obtain⟨j,rfl⟩:∃ j,k=j+1:=⟨k - 1,by omega⟩
 refine⟨UInt8.ofNat (48+a / 10 ^ j % 10),aX j a,AF j a,?_,?_⟩
 ·rw[UInt8.toNat_ofNat'];omega
 ·rw[UInt8.toNat_ofNat'];omega
structure DecP (n:Int)(c:Nat)(A B:List UInt8):Prop where
 cut:qp (cS n c)=if c=0 then none else some (A,B)
 txt:cS n c=if c=0 then A else A++46::B
 len:B.length=c
 val:Lib.atoi (A++B)=some n
 rd:rdS false 0 0 (cS n c)=(n.natAbs,c)
 sg:sgI (cS n c) n.natAbs=n
 ne:cS n c≠[]
theorem decP {n:Int}{c:Nat}(h:IsN n c):∃ A B,DecP n c A B:=by
 obtain⟨h1,h2,h3⟩:=h
 have hlt:n.natAbs<10 ^ 15:=by simp;omega
 have hdl:=eK hlt
 obtain⟨a,ha⟩:∃ a,a=n.natAbs:=⟨_,rfl⟩
 rw[← ha] at hlt hdl
 obtain⟨K,hK⟩:∃ K,K=max (dl a) (c+1):=⟨_,rfl⟩
 have haK:a<10 ^ K:=Nat.lt_of_lt_of_le hdl.2.2 (Nat.pow_le_pow_right (by omega) (by omega))
 have hsp:=fy (K - c) c a
 rw[show K - c+c=K by omega] at hsp
 have hdec:cS n c=(if n<0 then [45] else [])++(aX (K - c) (a / 10 ^ c)++(if c=0 then [] else 46::aX c a)):=by unfold cS;rw[← ha,← hK]
 have hni:=v8 (K - c) (a / 10 ^ c)
 obtain⟨x,r,hx,hx1,hx2⟩:=dj (k:=K - c) (a:=a / 10 ^ c) (by omega)
 have hx45:x≠45:=by intro e;subst e;revert hx1;decide
 have hx43:x≠43:=by intro e;subst e;revert hx1;decide
 have hq:a / 10 ^ c % 10 ^ (K - c)=a / 10 ^ c:=by
  refine Nat.mod_eq_of_lt (Nat.div_lt_of_lt_mul ?_)
  rw[← Nat.pow_add,show c+(K - c)=K by omega]
  exact haK
 have hrd:rdS false 0 0 (aX (K - c) (a / 10 ^ c)++(if c=0 then [] else 46::aX c a))=(a,c):=by
  rw[j8,hq]
  by_cases h0:c=0
  ·rw[if_pos h0,h0];simp[rdS]
  ·rw[if_neg h0,rdS,if_neg (by decide)]
   have:=mT c (0*10 ^ (K - c)+a / 10 ^ c) 0 a []
   rw[List.append_nil] at this
   rw[show (false||decide ((46:UInt8)=46))=true from rfl,this,rdS]
   rw[show 0*10 ^ (K - c)+a / 10 ^ c=a / 10 ^ c by omega,Nat.zero_add]
   have e2:=Nat.div_add_mod a (10 ^ c)
   rw[Nat.mul_comm] at e2
   rw[e2]
 have hval:Lib.decNat (aX K a)=some a:=by
  unfold Lib.decNat
  have hne:(aX K a).isEmpty=false:=by
   obtain⟨y,q,hy,_⟩:=dj (k:=K) (a:=a) (by omega)
   rw[hy];rfl
  rw[hne]
  have:=iZ K 0 a []
  rw[List.append_nil] at this
  simp only[Bool.false_eq_true,if_false]
  rw[this,Lib.decFrom,Nat.mod_eq_of_lt haK]
  congr 1;omega
 by_cases hneg:n<0
 ·rw[if_pos hneg] at hdec
  refine⟨45::aX (K - c) (a / 10 ^ c),aX c a,?_⟩
  constructor
  ·rw[hdec,List.singleton_append,qp,if_neg (by decide)]
   by_cases h0:c=0
   ·rw[if_pos h0,if_pos h0,List.append_nil,hni.1];rfl
   ·rw[if_neg h0,if_neg h0,hni.2];rfl
  ·rw[hdec]
   by_cases h0:c=0
   ·rw[if_pos h0,if_pos h0];simp
   ·rw[if_neg h0,if_neg h0];simp
  ·exact aV c a
  ·rw[List.cons_append,← hsp]
   unfold Lib.atoi
   simp only[beq_self_eq_true,if_true]
   rw[hval]
   simp only[Option.map_some]
   congr 1;omega
  ·rw[hdec,List.singleton_append,rdS,if_neg (by decide)]
   rw[show (false||decide ((45:UInt8)=46))=false from rfl,hrd,← ha]
  ·unfold sgI
   rw[hdec,List.singleton_append,List.head?_cons,if_pos rfl]
   omega
  ·rw[hdec];simp
 ·rw[if_neg hneg] at hdec
  rw[List.nil_append] at hdec
  refine⟨aX (K - c) (a / 10 ^ c),aX c a,?_⟩
  constructor
  ·rw[hdec]
   by_cases h0:c=0
   ·rw[if_pos h0,if_pos h0,List.append_nil,hni.1]
   ·rw[if_neg h0,if_neg h0,hni.2]
  ·rw[hdec]
   by_cases h0:c=0
   ·rw[if_pos h0,if_pos h0];simp
   ·rw[if_neg h0,if_neg h0]
  ·exact aV c a
  ·rw[← hsp]
   have hval':=hval
   rw[hsp,hx] at hval' ⊢
   rw[List.cons_append] at hval' ⊢
   unfold Lib.atoi
   simp only
   rw[show (x == 45)=false by simpa using hx45,show (x == 43)=false by simpa using hx43]
   simp only[Bool.false_eq_true,if_false]
   rw[hval']
   simp only[Option.map_some]
   congr 1;omega
  ·rw[hdec,hrd,← ha]
  ·unfold sgI
   rw[hdec,hx,List.cons_append,List.head?_cons,if_neg (by simpa using hx45)]
   omega
  ·rw[hdec,hx];simp
theorem pH:∀ (l:List UInt8) (acc m:Nat),Lib.decFrom acc l=some m→m+1≤(acc+1)*10 ^ l.length
 | [],acc,m,h=>by simp only[Lib.decFrom] at h;cases h;simp
 | b::r,acc,m,h=>by
   rw[Lib.decFrom] at h
   unfold Lib.digitVal at h
   split at h
   ·rename_i hd
    split at hd
    ·rename_i hb
     cases hd
     have ih:=pH r _ m h
     refine Nat.le_trans ih ?_
     rw[List.length_cons,Nat.pow_succ,Nat.mul_comm (10 ^ r.length) 10,← Nat.mul_assoc]
     exact Nat.mul_le_mul_right _ (by omega)
    ·cases hd
   ·cases h
theorem xm {s:List UInt8}{n:Int}(hl:s.length≤18)(h:Lib.atoi s=some n):n.natAbs≤1000000000000000000:=by
 have key:∀ (l:List UInt8) (m:Nat),l.length≤18→Lib.decNat l=some m→m≤1000000000000000000:=by
  intro l m hl h
  unfold Lib.decNat at h
  split at h
  ·cases h
  ·have:=pH l 0 m h
   have hp:10 ^ l.length≤10 ^ 18:=Nat.pow_le_pow_right (by omega) hl
   omega
 cases s with
 | nil=>simp[Lib.atoi] at h
 | cons b r=>
   simp only[List.length_cons] at hl
   unfold Lib.atoi at h
   simp only at h
   split at h
   ·simp only[Option.map_eq_some_iff] at h
    obtain⟨m,hm,rfl⟩:=h
    have:=key r m (by omega) hm
    omega
   ·split at h
    ·simp only[Option.map_eq_some_iff] at h
     obtain⟨m,hm,rfl⟩:=h
     have:=key r m (by omega) hm
     omega
    ·simp only[Option.map_eq_some_iff] at h
     obtain⟨m,hm,rfl⟩:=h
     have:=key (b::r) m (by simpa using hl) hm
     omega
def pL (s:List UInt8):List UInt8×List UInt8×Bool:=
 match qp s with
 | some (a,b)=>(a,b,true)
 | none=>(s,[],false)
def vL (s:List UInt8):(Int×Nat)×Int:=
 match Lib.atoi ((pL s).1++(pL s).2.1) with
 | some n=>if IsN n (pL s).2.1.length∧cS n (pL s).2.1.length=s∧((pL s).2.2=true→(pL s).2.1≠[]) then ((n,(pL s).2.1.length),0) else ((0,0),13)
 | none=>((0,0),13)
theorem Fm {s:List UInt8}(h0:s≠[])(hl:¬ 17<s.length):vL s=be s:=by
 have yes:∀ n c,IsN n c→cS n c=s→vL s=((n,c),0)∧be s=((n,c),0):=by
  intro n c hn hd
  obtain⟨A,B,P⟩:=decP hn
  constructor
  ·have hc:=P.cut
   have ht:=P.txt
   have hv:=P.val
   rw[hd] at hc ht
   by_cases hz:c=0
   ·subst hz
    rw[if_pos rfl] at hc ht
    have hB:B=[]:=List.length_eq_zero_iff.1 P.len
    subst hB
    rw[List.append_nil] at hv
    rw[← ht] at hv
    unfold vL pL
    rw[hc]
    simp only[List.append_nil,hv,List.length_nil]
    rw[if_pos ⟨hn,hd,by simp⟩]
   ·rw[if_neg hz] at hc
    unfold vL pL
    rw[hc]
    simp only[hv,P.len]
    rw[if_pos ⟨hn,hd,fun _ e=>hz (by rw[← P.len,e];rfl)⟩]
  ·have hr:=P.rd
   have hs:=P.sg
   rw[hd] at hr hs
   unfold be
   rw[if_neg h0,if_neg hl,hr]
   simp only[hs]
   rw[if_pos ⟨hn,hd⟩]
 by_cases hp:IsN (sgI s (rdS false 0 0 s).1) (rdS false 0 0 s).2∧cS (sgI s (rdS false 0 0 s).1) (rdS false 0 0 s).2=s
 ·obtain⟨e1,e2⟩:=yes _ _ hp.1 hp.2
  rw[e1,e2]
 ·have e2:be s=((0,0),13):=by
   unfold be
   rw[if_neg h0,if_neg hl,if_neg hp]
  rw[e2]
  unfold vL
  split
  ·rename_i n hn
   split
   ·rename_i hh
    have:=(yes _ _ hh.1 hh.2.1).2
    rw[e2] at this
    simp at this
   ·rfl
  ·rfl
end Go.Proofs.YtamoeblcphjbaaaGreatDoor
