/- A part of the proof. -/
import Derived.Test.YtamoeblcphjbaaaGreatDoorPaLSh2
set_option maxRecDepth 100000
set_option linter.unusedVariables false
set_option linter.unusedSimpArgs false
namespace Go.Proofs.YtamoeblcphjbaaaGreatDoor
open Go Go.Ab
theorem jf:∀ (k acc a:Nat) (r:List UInt8),Lib.decFrom acc (bF k a++r)=Lib.decFrom (acc*10 ^ k+a % 10 ^ k) r
 | 0,acc,a,r=>by simp[bF,Nat.mod_one]
 | k+1,acc,a,r=>by
   rw[bF,List.append_assoc,jf k acc (a / 10)]
   have hd:(UInt8.ofNat (48+a % 10)).toNat=48+a % 10:=by
    rw[UInt8.toNat_ofNat'];omega
   have hv:Lib.digitVal (UInt8.ofNat (48+a % 10))=some (a % 10):=by
    unfold Lib.digitVal
    rw[hd,if_pos (by omega)]
    congr 1;omega
   rw[List.singleton_append,Lib.decFrom,hv]
   have e:a % 10 ^ (k+1)=a % 10+10*(a / 10 % 10 ^ k):=by rw[Nat.pow_succ,Nat.mul_comm,Nat.mod_mul]
   rw[e,Nat.pow_succ]
   simp only
   congr 1
   have e2:acc*(10 ^ k*10)=acc*10 ^ k*10:=by rw[Nat.mul_assoc]
   rw[e2]
   omega
theorem oF:∀ (k v c a:Nat) (r:List UInt8),rdS false v c (bF k a++r)=rdS false (v*10 ^ k+a % 10 ^ k) c r
 | 0,v,c,a,r=>by simp[bF,Nat.mod_one]
 | k+1,v,c,a,r=>by
   rw[bF,List.append_assoc,oF k v c (a / 10)]
   have hd:(UInt8.ofNat (48+a % 10)).toNat=48+a % 10:=by
    rw[UInt8.toNat_ofNat'];omega
   have hD:isD (UInt8.ofNat (48+a % 10))=true:=by unfold isD;rw[hd];simp;omega
   have h46:(false||decide (UInt8.ofNat (48+a % 10)=46))=false:=by
    rw[Bool.false_or]
    refine decide_eq_false fun h=>?_
    have:=congrArg UInt8.toNat h
    rw[hd] at this
    simp at this
    omega
   rw[List.singleton_append,rdS,if_pos hD,h46,hd]
   have e:a % 10 ^ (k+1)=a % 10+10*(a / 10 % 10 ^ k):=by rw[Nat.pow_succ,Nat.mul_comm,Nat.mod_mul]
   rw[e,Nat.pow_succ]
   simp only[Bool.false_eq_true,if_false]
   congr 1
   have e2:v*(10 ^ k*10)=v*10 ^ k*10:=by rw[Nat.mul_assoc]
   rw[e2]
   omega
theorem tk:∀ (k v c a:Nat) (r:List UInt8),rdS true v c (bF k a++r)=rdS true (v*10 ^ k+a % 10 ^ k) (c+k) r
 | 0,v,c,a,r=>by simp[bF,Nat.mod_one]
 | k+1,v,c,a,r=>by
   rw[bF,List.append_assoc,tk k v c (a / 10)]
   have hd:(UInt8.ofNat (48+a % 10)).toNat=48+a % 10:=by
    rw[UInt8.toNat_ofNat'];omega
   have hD:isD (UInt8.ofNat (48+a % 10))=true:=by unfold isD;rw[hd];simp;omega
   rw[List.singleton_append,rdS,if_pos hD,hd]
   have e:a % 10 ^ (k+1)=a % 10+10*(a / 10 % 10 ^ k):=by rw[Nat.pow_succ,Nat.mul_comm,Nat.mod_mul]
   rw[e,Nat.pow_succ]
   simp only[Bool.true_or,if_true]
   have e2:v*(10 ^ k*10)=v*10 ^ k*10:=by rw[Nat.mul_assoc]
   rw[e2]
   congr 1
   omega
theorem wc:∀ (k a:Nat),qt (bF k a)=none∧∀ r,qt (bF k a++46::r)=some (bF k a,r)
 | k,a=>by
   have key:∀ l:List UInt8,(∀ x,x∈l→x≠46)→qt l=none∧∀ r,qt (l++46::r)=some (l,r):=by
    intro l
    induction l with
    | nil=>intro _;exact⟨rfl,fun r=>by simp[qt]⟩
    | cons c l ih=>
      intro h
      have hc:c≠46:=h c (by simp)
      have ih:=ih fun x hx=>h x (by simp[hx])
      refine⟨by rw[qt,if_neg hc,ih.1];rfl,fun r=>by rw[List.cons_append,qt,if_neg hc,ih.2 r];rfl⟩
   refine key _ ?_
   have:∀ (k a:Nat) x,x∈bF k a→48≤x.toNat:=by
    intro k
    induction k with
    | zero=>intro a x hx;simp[bF] at hx
    | succ k ih=>
      intro a x hx
      rw[bF,List.mem_append] at hx
      rcases hx with hx | hx
      ·exact ih _ x hx
      ·simp only[List.mem_singleton] at hx
       rw[hx,UInt8.toNat_ofNat']
       omega
   intro x hx e
   have:=this k a x hx
   rw[e] at this
   revert this;decide
theorem o8 {k a:Nat}(hk:0<k):∃ c r,bF k a=c::r∧48≤c.toNat∧c.toNat≤57:=by
 obtain⟨j,rfl⟩:∃ j,k=j+1:=⟨k - 1,by omega⟩
 refine⟨UInt8.ofNat (48+a / 10 ^ j % 10),bF j a,Aw j a,?_,?_⟩
 ·rw[UInt8.toNat_ofNat'];omega
 ·rw[UInt8.toNat_ofNat'];omega
structure DecP (n:Int)(c:Nat)(A B:List UInt8):Prop where
 cut:qt (mz n c)=if c=0 then none else some (A,B)
 txt:mz n c=if c=0 then A else A++46::B
 len:B.length=c
 val:Lib.atoi (A++B)=some n
 rd:rdS false 0 0 (mz n c)=(n.natAbs,c)
 sg:sgI (mz n c) n.natAbs=n
 ne:mz n c≠[]
theorem decP {n:Int}{c:Nat}(h:IsN n c):∃ A B,DecP n c A B:=by
 obtain⟨h1,h2,h3⟩:=h
 have hlt:n.natAbs<10 ^ 15:=by simp;omega
 have hdl:=r4 hlt
 obtain⟨a,ha⟩:∃ a,a=n.natAbs:=⟨_,rfl⟩
 rw[← ha] at hlt hdl
 obtain⟨K,hK⟩:∃ K,K=max (dl a) (c+1):=⟨_,rfl⟩
 have haK:a<10 ^ K:=Nat.lt_of_lt_of_le hdl.2.2 (Nat.pow_le_pow_right (by omega) (by omega))
 have hsp:=fJ (K - c) c a
 rw[show K - c+c=K by omega] at hsp
 have hdec:mz n c=(if n<0 then [45] else [])++(bF (K - c) (a / 10 ^ c)++(if c=0 then [] else 46::bF c a)):=by unfold mz;rw[← ha,← hK]
 have hni:=wc (K - c) (a / 10 ^ c)
 obtain⟨x,r,hx,hx1,hx2⟩:=o8 (k:=K - c) (a:=a / 10 ^ c) (by omega)
 have hx45:x≠45:=by intro e;subst e;revert hx1;decide
 have hx43:x≠43:=by intro e;subst e;revert hx1;decide
 have hq:a / 10 ^ c % 10 ^ (K - c)=a / 10 ^ c:=by
  refine Nat.mod_eq_of_lt (Nat.div_lt_of_lt_mul ?_)
  rw[← Nat.pow_add,show c+(K - c)=K by omega]
  exact haK
 have hrd:rdS false 0 0 (bF (K - c) (a / 10 ^ c)++(if c=0 then [] else 46::bF c a))=(a,c):=by
  rw[oF,hq]
  by_cases h0:c=0
  ·rw[if_pos h0,h0];simp[rdS]
  ·rw[if_neg h0,rdS,if_neg (by decide)]
   have:=tk c (0*10 ^ (K - c)+a / 10 ^ c) 0 a []
   rw[List.append_nil] at this
   rw[show (false||decide ((46:UInt8)=46))=true from rfl,this,rdS]
   rw[show 0*10 ^ (K - c)+a / 10 ^ c=a / 10 ^ c by omega,Nat.zero_add]
   have e2:=Nat.div_add_mod a (10 ^ c)
   rw[Nat.mul_comm] at e2
   rw[e2]
 have hval:Lib.decNat (bF K a)=some a:=by
  unfold Lib.decNat
  have hne:(bF K a).isEmpty=false:=by
   obtain⟨y,q,hy,_⟩:=o8 (k:=K) (a:=a) (by omega)
   rw[hy];rfl
  rw[hne]
  have:=jf K 0 a []
  rw[List.append_nil] at this
  simp only[Bool.false_eq_true,if_false]
  rw[this,Lib.decFrom,Nat.mod_eq_of_lt haK]
  congr 1;omega
 by_cases hneg:n<0
 ·rw[if_pos hneg] at hdec
  refine⟨45::bF (K - c) (a / 10 ^ c),bF c a,?_⟩
  constructor
  ·rw[hdec,List.singleton_append,qt,if_neg (by decide)]
   by_cases h0:c=0
   ·rw[if_pos h0,if_pos h0,List.append_nil,hni.1];rfl
   ·rw[if_neg h0,if_neg h0,hni.2];rfl
  ·rw[hdec]
   by_cases h0:c=0
   ·rw[if_pos h0,if_pos h0];simp
   ·rw[if_neg h0,if_neg h0];simp
  ·exact bn c a
  ·rw[List.cons_append,← hsp]
   unfold Lib.atoi
   simp only[beq_self_eq_true,if_true]
   rw[hval]
   simp only[Option.map_some]
   congr 1;omega
  ·rw[hdec,List.singleton_append,rdS,if_neg (by decide)]
   rw[show (false||decide ((45:UInt8)=46))=false from rfl,hrd,← ha]
  ·unfold sgI
   rw[hdec,List.singleton_append,List.head?_cons,if_pos rfl]
   omega
  ·rw[hdec];simp
 ·rw[if_neg hneg] at hdec
  rw[List.nil_append] at hdec
  refine⟨bF (K - c) (a / 10 ^ c),bF c a,?_⟩
  constructor
  ·rw[hdec]
   by_cases h0:c=0
   ·rw[if_pos h0,if_pos h0,List.append_nil,hni.1]
   ·rw[if_neg h0,if_neg h0,hni.2]
  ·rw[hdec]
   by_cases h0:c=0
   ·rw[if_pos h0,if_pos h0];simp
   ·rw[if_neg h0,if_neg h0]
  ·exact bn c a
  ·rw[← hsp]
   have hval':=hval
   rw[hsp,hx] at hval' ⊢
   rw[List.cons_append] at hval' ⊢
   unfold Lib.atoi
   simp only
   rw[show (x == 45)=false by simpa using hx45,show (x == 43)=false by simpa using hx43]
   simp only[Bool.false_eq_true,if_false]
   rw[hval']
   simp only[Option.map_some]
   congr 1;omega
  ·rw[hdec,hrd,← ha]
  ·unfold sgI
   rw[hdec,hx,List.cons_append,List.head?_cons,if_neg (by simpa using hx45)]
   omega
  ·rw[hdec,hx];simp
theorem pM:∀ (l:List UInt8) (acc m:Nat),Lib.decFrom acc l=some m→m+1≤(acc+1)*10 ^ l.length
 | [],acc,m,h=>by simp only[Lib.decFrom] at h;cases h;simp
 | b::r,acc,m,h=>by
   rw[Lib.decFrom] at h
   unfold Lib.digitVal at h
   split at h
   ·rename_i hd
    split at hd
    ·rename_i hb
     cases hd
     have ih:=pM r _ m h
     refine Nat.le_trans ih ?_
     rw[List.length_cons,Nat.pow_succ,Nat.mul_comm (10 ^ r.length) 10,← Nat.mul_assoc]
     exact Nat.mul_le_mul_right _ (by omega)
    ·cases hd
   ·cases h
theorem xh {s:List UInt8}{n:Int}(hl:s.length≤18)(h:Lib.atoi s=some n):n.natAbs≤1000000000000000000:=by
 have key:∀ (l:List UInt8) (m:Nat),l.length≤18→Lib.decNat l=some m→m≤1000000000000000000:=by
  intro l m hl h
  unfold Lib.decNat at h
  split at h
  ·cases h
  ·have:=pM l 0 m h
   have hp:10 ^ l.length≤10 ^ 18:=Nat.pow_le_pow_right (by omega) hl
   omega
 cases s with
 | nil=>simp[Lib.atoi] at h
 | cons b r=>
   simp only[List.length_cons] at hl
   unfold Lib.atoi at h
   simp only at h
   split at h
   ·simp only[Option.map_eq_some_iff] at h
    obtain⟨m,hm,rfl⟩:=h
    have:=key r m (by omega) hm
    omega
   ·split at h
    ·simp only[Option.map_eq_some_iff] at h
     obtain⟨m,hm,rfl⟩:=h
     have:=key r m (by omega) hm
     omega
    ·simp only[Option.map_eq_some_iff] at h
     obtain⟨m,hm,rfl⟩:=h
     have:=key (b::r) m (by simpa using hl) hm
     omega
def pO (s:List UInt8):List UInt8×List UInt8×Bool:=
 match qt s with
 | some (a,b)=>(a,b,true)
 | none=>(s,[],false)
def vP (s:List UInt8):(Int×Nat)×Int:=
 match Lib.atoi ((pO s).1++(pO s).2.1) with
 | some n=>if IsN n (pO s).2.1.length∧mz n (pO s).2.1.length=s∧((pO s).2.2=true→(pO s).2.1≠[]) then ((n,(pO s).2.1.length),0) else ((0,0),13)
 | none=>((0,0),13)
theorem EG {s:List UInt8}(h0:s≠[])(hl:¬ 17<s.length):vP s=aQ s:=by
 have yes:∀ n c,IsN n c→mz n c=s→vP s=((n,c),0)∧aQ s=((n,c),0):=by
  intro n c hn hd
  obtain⟨A,B,P⟩:=decP hn
  constructor
  ·have hc:=P.cut
   have ht:=P.txt
   have hv:=P.val
   rw[hd] at hc ht
   by_cases hz:c=0
   ·subst hz
    rw[if_pos rfl] at hc ht
    have hB:B=[]:=List.length_eq_zero_iff.1 P.len
    subst hB
    rw[List.append_nil] at hv
    rw[← ht] at hv
    unfold vP pO
    rw[hc]
    simp only[List.append_nil,hv,List.length_nil]
    rw[if_pos ⟨hn,hd,by simp⟩]
   ·rw[if_neg hz] at hc
    unfold vP pO
    rw[hc]
    simp only[hv,P.len]
    rw[if_pos ⟨hn,hd,fun _ e=>hz (by rw[← P.len,e];rfl)⟩]
  ·have hr:=P.rd
   have hs:=P.sg
   rw[hd] at hr hs
   unfold aQ
   rw[if_neg h0,if_neg hl,hr]
   simp only[hs]
   rw[if_pos ⟨hn,hd⟩]
 by_cases hp:IsN (sgI s (rdS false 0 0 s).1) (rdS false 0 0 s).2∧mz (sgI s (rdS false 0 0 s).1) (rdS false 0 0 s).2=s
 ·obtain⟨e1,e2⟩:=yes _ _ hp.1 hp.2
  rw[e1,e2]
 ·have e2:aQ s=((0,0),13):=by
   unfold aQ
   rw[if_neg h0,if_neg hl,if_neg hp]
  rw[e2]
  unfold vP
  split
  ·rename_i n hn
   split
   ·rename_i hh
    have:=(yes _ _ hh.1 hh.2.1).2
    rw[e2] at this
    simp at this
   ·rfl
  ·rfl
end Go.Proofs.YtamoeblcphjbaaaGreatDoor
-- many steps
namespace Go.Proofs.YtamoeblcphjbaaaGreatDoor
open Go Go.Ab
attribute [local irreducible] vc
theorem dZ {e:List (Nat×AV)}{σ:List (Nat×Blk)}{new:Nat}(ng:Bool)(x y:AX):jl e σ new (.inil ng x y)=f5 [] (oI ng (evE e x) (evE e y)):=by
 simp only[jl,f5];cases oI ng (evE e x) (evE e y)<;>rfl
theorem qS (ng:Bool)(T:Nat)(p:PV):oI ng (.pv (.iface T p)) (.pv .nili)=some (.pv (.bool ng)):=rfl
theorem d8 (ng:Bool):oI ng (.pv .nili) (.pv .nili)=some (.pv (.bool (!ng))):=rfl
theorem lN {n:Int}(h:-9223372036854775808<n)(h2:n≤9223372036854775807)(c:Nat) :
  au Tryz.prog aM 42 [.agg [.int .i64 n,.int .i64 (c:Int)]] (.tup [.str (if IsN n c then mz n c else []),.int .i64 (if IsN n c then 0 else 2)]):=by
 by_cases hn:IsN n c
 ·rw[if_pos hn,if_pos hn];exact MH hn
 ·rw[if_neg hn,if_neg hn];exact yk h h2 hn
theorem OD (s:List UInt8):Qj s = .tup [.str (pO s).1,.str (pO s).2.1,.bool (pO s).2.2]:=by
 unfold Qj pO
 cases h:qt s with
 | none=>rfl
 | some q=>rfl
theorem F5 (s:List UInt8):(pO s).1.length+(pO s).2.1.length≤s.length:=by
 unfold pO
 split
 ·rename_i a b h
  rw[(B5 0 h).2]
  simp
 ·simp
theorem bm {T:Nat}{p:PV}(s:List UInt8):au Tryz.prog (bG T p) 113 [.str s] (.tup [.agg [.int .i64 (aQ s).1.1,.int .i64 ((aQ s).1.2:Int)],.int .i64 (aQ s).2]):=by
 by_cases h0:s=[]
 ·subst h0
  unfold aQ
  rw[if_pos rfl]
  refine au.intro fB (by simp[qq]) ?_
  simp(disch:=try exact dI) only[qq,push_cast,seval]
 have h0b:decide (s=[])=false:=decide_eq_false h0
 by_cases hl:17<s.length
 ·unfold aQ
  rw[if_neg h0,if_pos hl]
  have hlI:(17:Int)<(s.length:Int):=by omega
  refine au.intro fB (by simp[qq]) ?_
  simp(disch:=try exact dI) only[qq,h0b,push_cast,seval]
 rw[← EG h0 hl]
 have hlI:¬ (17:Int)<(s.length:Int):=by omega
 have hc:=toE (T:=T) (p:=p) (RD s (by omega))
 rw[OD] at hc
 have hcl:=F5 s
 unfold vP
 generalize pO s=W at *
 obtain⟨w,r,b⟩:=W
 simp only at hc hcl ⊢
 have ha:=Ks (T:=T) (p:=p) (w++r) (by simp;omega)
 have hbd:=fun n=>xh (s:=w++r) (n:=n) (by simp;omega)
 cases hv:Lib.atoi (w++r) with
 | none=>
   rw[hv] at ha
   simp only[Kr,CC] at ha
   have ht:=toE (T:=T) (p:=p) (lN (n:=0) (by omega) (by omega) r.length)
   generalize (if IsN 0 r.length then mz 0 r.length else [])=t1 at *
   generalize (if IsN 0 r.length then (0:Int) else 2)=t2 at *
   refine au.intro fB (by simp[qq]) ?_
   simp(disch:=try exact dI) only[qq,h0b,push_cast,seval]
   refine ab.pure hc rfl ?_
   refine zgZ ?_
   refine ab.pure ha rfl ?_
   refine zgZ ?_
   refine ab.pure ht rfl ?_
   simp(disch:=try exact dI) only[dZ,qS,push_cast,seval]
 | some n=>
   rw[hv] at ha
   simp only[Kr] at ha
   have hb:=hbd n hv
   have ht:=toE (T:=T) (p:=p) (lN (n:=n) (by omega) (by omega) r.length)
   simp only
   by_cases hn:IsN n r.length
   ·rw[if_pos hn,if_pos hn] at ht
    by_cases hd:mz n r.length=s
    ·rw[hd] at ht
     cases b with
     | true=>
       by_cases hr:r=[]
       ·rw[if_neg (fun h=>h.2.2 rfl hr)]
        subst hr
        rw[List.append_nil] at ha
        refine au.intro fB (by simp[qq]) ?_
        simp(disch:=try exact dI) only[qq,h0b,push_cast,seval]
        refine ab.pure hc rfl ?_
        refine zgZ ?_
        refine ab.pure ha rfl ?_
        refine zgZ ?_
        refine ab.pure ht rfl ?_
        simp(disch:=try exact dI) only[dZ,d8,push_cast,seval]
       ·rw[if_pos ⟨hn,hd,fun _=>hr⟩]
        have hrb:decide (r=[])=false:=decide_eq_false hr
        refine au.intro fB (by simp[qq]) ?_
        simp(disch:=try exact dI) only[qq,h0b,push_cast,seval]
        refine ab.pure hc rfl ?_
        refine zgZ ?_
        refine ab.pure ha rfl ?_
        refine zgZ ?_
        refine ab.pure ht rfl ?_
        simp(disch:=try exact dI) only[hrb,dZ,d8,push_cast,seval]
     | false=>
       rw[if_pos ⟨hn,hd,fun h=>by cases h⟩]
       refine au.intro fB (by simp[qq]) ?_
       simp(disch:=try exact dI) only[qq,h0b,push_cast,seval]
       refine ab.pure hc rfl ?_
       refine zgZ ?_
       refine ab.pure ha rfl ?_
       refine zgZ ?_
       refine ab.pure ht rfl ?_
       simp(disch:=try exact dI) only[dZ,d8,push_cast,seval]
    ·rw[if_neg (fun h=>hd h.2.1)]
     generalize mz n r.length=t at *
     have htb:(!decide (t=s))=true:=by simp[hd]
     refine au.intro fB (by simp[qq]) ?_
     simp(disch:=try exact dI) only[qq,h0b,push_cast,seval]
     refine ab.pure hc rfl ?_
     refine zgZ ?_
     refine ab.pure ha rfl ?_
     refine zgZ ?_
     refine ab.pure ht rfl ?_
     simp(disch:=try exact dI) only[htb,dZ,d8,push_cast,seval]
   ·rw[if_neg hn,if_neg hn] at ht
    rw[if_neg (fun h=>hn h.1)]
    refine au.intro fB (by simp[qq]) ?_
    simp(disch:=try exact dI) only[qq,h0b,push_cast,seval]
    refine ab.pure hc rfl ?_
    refine zgZ ?_
    refine ab.pure ha rfl ?_
    refine zgZ ?_
    refine ab.pure ht rfl ?_
    simp(disch:=try exact dI) only[dZ,d8,push_cast,seval]
end Go.Proofs.YtamoeblcphjbaaaGreatDoor
-- many steps
namespace Go.Proofs.YtamoeblcphjbaaaGreatDoor
open Go Go.Ab
attribute [local irreducible] vc
theorem tK (s:List UInt8)(k:Nat)(hk:k≤8):au Tryz.prog aM 193 [.str s,.int .i64 (k:Int)] (G5 s (wd k s)):=by
 refine au.intro KZ (by simp[Qr]) ?_
 by_cases hl:s.length<k
 ·rw[show wd k s=none from if_neg (by omega)]
  simp(disch:=try exact dI) only[Qr,G5,push_cast,seval]
 ·obtain⟨R,hR⟩:∃ R,R=wd k s:=⟨_,rfl⟩
  rw[← hR]
  simp(disch:=try exact dI) only[Qr,push_cast,seval]
  refine bf ([]) (fun i:Nat=>[(4,.pv (.int .i64 (k9 0 (s.take i)))),(14,.pv (.int .i64 (i:Int)))]) (fun _=>[]) (fun i=>i≤k∧(s.take i).all isD=true) (fun i=>k - i) (0) ?_;intro e0 σ0 n0 h0;simp(disch:=try exact dI) only[push_cast,seval] at h0;obtain⟨rfl,rfl,rfl⟩:=h0;refine⟨?_,?_,?_⟩
  ·refine zgZ ?_
   rfl
  ·exact⟨by omega,by simp⟩
  rintro i ⟨hi,hd⟩
  have hdl:=Ox hd (by simp;omega)
  by_cases hlt:i<k
  ·obtain⟨c,hc⟩:∃ c,s[i]? = some c:=⟨_,List.getElem?_eq_getElem (by omega)⟩
   have hcl:=c.toNat_lt
   have hw:=gC (n:=(c.toNat:Int)) (by omega) (by omega)
   have hts:=bA hc
   by_cases hcd:isD c=true
   ·have hb:=kC hcd
    have hin:=dU (n:=(c.toNat:Int)) (lo:=48) (hi:=57) ⟨by omega,by omega⟩
    have hw2:=gC (n:=(c.toNat:Int) - 48) (by omega) (by omega)
    have hdv:k9 0 (s.take (i+1))=10*k9 0 (s.take i)+((c.toNat:Int) - 48):=by rw[hts,nD]
    have hd2:(s.take (i+1)).all isD=true:=by rw[hts,List.all_append,hd];simp[hcd]
    simp(disch:=try exact dI) only[hc,ae,hw,push_cast,seval]
    refine ab.pure hin rfl ?_
    simp(disch:=try exact dI) only[hc,ae,hw2,push_cast,seval]
    exact⟨i+1,bz (by simp(disch:=try exact dI) only[hdv,push_cast,seval]),⟨by omega,hd2⟩,by omega⟩
   ·have hin:=nk (n:=(c.toNat:Int)) (lo:=48) (hi:=57) (fun h=>hcd (by simp[isD];omega))
    have hnone:R=none:=by
     rw[hR]
     refine if_neg fun h=>hcd ?_
     exact List.all_eq_true.1 h.2 c (List.mem_of_getElem? (i:=i) (by rw[List.getElem?_take_of_lt hlt];exact hc))
    rw[hnone]
    simp(disch:=try exact dI) only[hc,ae,hw,push_cast,seval]
    refine ab.pure hin rfl ?_
    simp(disch:=try exact dI) only[G5,push_cast,seval]
  ·have hik:i=k:=by omega
   subst hik
   have hsome:R=some (k9 0 (s.take i),s.drop i):=by rw[hR];exact if_pos ⟨by omega,hd⟩
   rw[hsome]
   simp(disch:=try exact dI) only[G5,List.take_length,push_cast,seval]
theorem kH (s p:List UInt8):au Tryz.prog aM 203 [.str s,.str p] (.bool (decide (s.take p.length=p∧p.length≤s.length))):=by
 refine au.intro KX (by simp[PR]) ?_
 by_cases hl:p.length≤s.length
 ·by_cases he:s.take p.length=p
  ·rw[show decide (s.take p.length=p∧p.length≤s.length)=true from decide_eq_true ⟨he,hl⟩]
   simp(disch:=try exact dI) only[PR,he,push_cast,seval]
  ·rw[show decide (s.take p.length=p∧p.length≤s.length)=false from decide_eq_false (fun h=>he h.1)]
   simp(disch:=try exact dI) only[PR,he,push_cast,seval]
 ·rw[show decide (s.take p.length=p∧p.length≤s.length)=false from decide_eq_false (fun h=>hl h.2)]
  simp(disch:=try exact dI) only[PR,push_cast,seval]
def fP (p s:List UInt8):Bool:=decide (s.take p.length=p∧p.length≤s.length)
theorem B7 (s p:List UInt8):au Tryz.prog aM 224 [.str s,.str p] (.tup [.str (if fP p s=true then s.drop p.length else s),.bool (fP p s)]):=by
 have hp:=kH s p
 have hl:fP p s=true→p.length≤s.length:=fun h=>(of_decide_eq_true h).2
 refine au.intro KP (by simp[Qq]) ?_
 change au Tryz.prog aM 203 [.str s,.str p] (.bool (fP p s)) at hp
 cases hb:fP p s with
 | true=>
   have:=hl hb
   rw[hb] at hp
   simp only[if_true]
   simp(disch:=try exact dI) only[Qq,push_cast,seval]
   refine ab.pure hp rfl ?_
   simp(disch:=try exact dI) only[List.take_length,push_cast,seval]
 | false=>
   rw[hb] at hp
   simp only[Bool.false_eq_true,if_false]
   simp(disch:=try exact dI) only[Qq,push_cast,seval]
   refine ab.pure hp rfl ?_
   exact qsZ
theorem uC (s p:List UInt8):au Tryz.prog aM 192 [.str s,.str p] (.tup [.str (if fP p s=true then s.drop p.length else s),.bool (fP p s)]):=by
 have h:=B7 s p
 generalize (if fP p s=true then s.drop p.length else s)=q at *
 generalize fP p s=b at *
 refine au.intro K1 (by simp[Sb]) ?_
 simp(disch:=try exact dI) only[Sb,push_cast,seval]
 refine ab.pure h rfl ?_
 exact qsZ
def Mc (n:Nat):PV:=.int .i64 n
def dS:List (List UInt8)→List Nat→List UInt8→Option (List Int×List UInt8)
 | [],_,s=>some ([],s)
 | _::_,[],_=>none
 | m::ms,k::ks,s=>if fP m s=true then (match wd k (s.drop m.length) with
   | some p=>(dS ms ks p.2).map fun q=>(p.1::q.1,q.2)
   | none=>none) else none
def oY (s:List UInt8):Option (List Int×List UInt8)→PV
 | some p=>.tup [.list (p.1.map (PV.int .i64)),.str p.2,.bool true]
 | none=>.tup [.nils,.str s,.bool false]
theorem oZ (s:List UInt8)(ms:List (List UInt8))(ks:List Nat)(hm:ms.length=ks.length)(hl:ms.length≤100)(hk:∀ k,k∈ks→k≤8) :
  au Tryz.prog aM 190 [.str s,.list (ms.map PV.str),.list (ks.map Mc)] (oY s (dS ms ks s)):=by
 obtain⟨R,hR⟩:∃ R,R=dS ms ks s:=⟨_,rfl⟩
 rw[← hR]
 refine au.intro K2 (by simp[Sd]) ?_
 simp(disch:=try exact dI) only[Sd,push_cast,seval]
 refine bf ([(6,0,3,1)]) (fun y:Nat×List Int×List UInt8=>[(6,.olist 0 1 (y.2.1.map (PV.int .i64))),(7,.pv (.str y.2.2)),(15,.pv (.int .i64 (y.1:Int)))]) (fun _=>[]) (fun y=>y.1≤ms.length∧y.2.1.length≤y.1∧R=(dS (ms.drop y.1) (ks.drop y.1) y.2.2).map fun q=>(y.2.1++q.1,q.2)) (fun y=>ms.length - y.1) ((0,[],s)) ?_;intro e0 σ0 n0 h0;simp(disch:=try exact dI) only[push_cast,seval] at h0;obtain⟨rfl,rfl,rfl⟩:=h0;refine⟨?_,?_,?_⟩
 ·exact qsZ
 ·exact⟨by simp,by simp,by simp[hR]⟩
 rintro⟨i,L,r⟩ ⟨h1,h2,h3⟩
 simp only at h1 h2 h3
 by_cases hlt:i<ms.length
 ·obtain⟨m,hmi⟩:∃ m,ms[i]? = some m:=⟨_,List.getElem?_eq_getElem hlt⟩
  obtain⟨k,hki⟩:∃ k,ks[i]? = some k:=⟨_,List.getElem?_eq_getElem (by omega)⟩
  have hmp:(ms.map PV.str)[i]? = some (.str m):=by simp[hmi]
  have hkp:(ks.map Mc)[i]? = some (.int .i64 (k:Int)):=by simp[hki,Mc]
  have hk8:=hk k (List.mem_of_getElem? hki)
  have hc:=uC r m
  rw[aP hmi,aP hki] at h3
  simp only[dS] at h3
  cases hb:fP m r with
  | false=>
    rw[hb] at hc h3
    simp only[Bool.false_eq_true,if_false,Option.map_none] at hc h3
    rw[h3]
    simp(disch:=try exact dI) only[hmp,push_cast,seval]
    refine ab.pure hc rfl ?_
    simp(disch:=try exact dI) only[oY,push_cast,seval]
  | true=>
    rw[hb] at hc h3
    simp only[if_true] at hc h3
    have hn:=tK (r.drop m.length) k hk8
    cases hv:wd k (r.drop m.length) with
    | none=>
      rw[hv] at hn h3
      simp only[G5,Option.map_none] at hn h3
      rw[h3]
      simp(disch:=try exact dI) only[hmp,push_cast,seval]
      refine ab.pure hc rfl ?_
      simp(disch:=try exact dI) only[hkp,push_cast,seval]
      refine ab.pure hn rfl ?_
      simp(disch:=try exact dI) only[oY,push_cast,seval]
    | some p=>
      rw[hv] at hn h3
      simp only[G5] at hn h3
      simp(disch:=try exact dI) only[hmp,push_cast,seval]
      refine ab.pure hc rfl ?_
      simp(disch:=try exact dI) only[hkp,push_cast,seval]
      refine ab.pure hn rfl ?_
      refine zgZ ?_
      exact⟨(i+1,L++[p.1],p.2),bz (by simp(disch:=try exact dI) only[List.map_append,push_cast,seval]),⟨by simp only;omega,by simp;omega,by rw[h3,Option.map_map];congr 1;funext q;simp⟩,by simp only;omega⟩
 ·have hi:i=ms.length:=by omega
  have hd1:ms.drop i=[]:=List.drop_eq_nil_of_le (by omega)
  rw[hd1] at h3
  simp only[dS,Option.map_some,List.append_nil] at h3
  rw[h3]
  simp(disch:=try exact dI) only[oY,push_cast,seval]
end Go.Proofs.YtamoeblcphjbaaaGreatDoor
