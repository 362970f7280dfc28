/- A part of the proof for LiteralDiffersCardSaid. -/
import Derived.Test.YtamoeblcphjbaaaGreatDoorDiLC17
import Derived.Test.YtamoeblcphjbaaaGreatDoorDiLC4
import Derived.Test.YtamoeblcphjbaaaGreatDoorDiF
import Derived.Test.YtamoeblcphjbaaaGreatDoorDiLD
import Derived.Test.YtamoeblcphjbaaaGreatDoorDiLC1
set_option maxRecDepth 100000
set_option linter.unusedVariables false
set_option linter.unusedSimpArgs false
namespace Go.Proofs.YtamoeblcphjbaaaGreatDoor
open Go Go.Ab
theorem fM:∀ (k acc a:Nat) (r:List UInt8),Lib.decFrom acc (aN k a++r)=Lib.decFrom (acc*10 ^ k+a % 10 ^ k) r
 | 0,acc,a,r=>by simp[aN,Nat.mod_one]
 | k+1,acc,a,r=>by
   rw[aN,List.append_assoc,fM k acc (a / 10)]
   have hd:(UInt8.ofNat (48+a % 10)).toNat=48+a % 10:=by
    rw[UInt8.toNat_ofNat'];omega
   have hv:Lib.digitVal (UInt8.ofNat (48+a % 10))=some (a % 10):=by
    unfold Lib.digitVal
    rw[hd,if_pos (by omega)]
    congr 1;omega
   rw[List.singleton_append,Lib.decFrom,hv]
   have e:a % 10 ^ (k+1)=a % 10+10*(a / 10 % 10 ^ k):=by rw[Nat.pow_succ,Nat.mul_comm,Nat.mod_mul]
   rw[e,Nat.pow_succ]
   simp only
   congr 1
   have e2:acc*(10 ^ k*10)=acc*10 ^ k*10:=by rw[Nat.mul_assoc]
   rw[e2]
   omega
theorem gH:∀ (k v c a:Nat) (r:List UInt8),rdS false v c (aN k a++r)=rdS false (v*10 ^ k+a % 10 ^ k) c r
 | 0,v,c,a,r=>by simp[aN,Nat.mod_one]
 | k+1,v,c,a,r=>by
   rw[aN,List.append_assoc,gH k v c (a / 10)]
   have hd:(UInt8.ofNat (48+a % 10)).toNat=48+a % 10:=by
    rw[UInt8.toNat_ofNat'];omega
   have hD:isD (UInt8.ofNat (48+a % 10))=true:=by unfold isD;rw[hd];simp;omega
   have h46:(false||decide (UInt8.ofNat (48+a % 10)=46))=false:=by
    rw[Bool.false_or]
    refine decide_eq_false fun h=>?_
    have:=congrArg UInt8.toNat h
    rw[hd] at this
    simp at this
    omega
   rw[List.singleton_append,rdS,if_pos hD,h46,hd]
   have e:a % 10 ^ (k+1)=a % 10+10*(a / 10 % 10 ^ k):=by rw[Nat.pow_succ,Nat.mul_comm,Nat.mod_mul]
   rw[e,Nat.pow_succ]
   simp only[Bool.false_eq_true,if_false]
   congr 1
   have e2:v*(10 ^ k*10)=v*10 ^ k*10:=by rw[Nat.mul_assoc]
   rw[e2]
   omega
theorem jG:∀ (k v c a:Nat) (r:List UInt8),rdS true v c (aN k a++r)=rdS true (v*10 ^ k+a % 10 ^ k) (c+k) r
 | 0,v,c,a,r=>by simp[aN,Nat.mod_one]
 | k+1,v,c,a,r=>by
   rw[aN,List.append_assoc,jG k v c (a / 10)]
   have hd:(UInt8.ofNat (48+a % 10)).toNat=48+a % 10:=by
    rw[UInt8.toNat_ofNat'];omega
   have hD:isD (UInt8.ofNat (48+a % 10))=true:=by unfold isD;rw[hd];simp;omega
   rw[List.singleton_append,rdS,if_pos hD,hd]
   have e:a % 10 ^ (k+1)=a % 10+10*(a / 10 % 10 ^ k):=by rw[Nat.pow_succ,Nat.mul_comm,Nat.mod_mul]
   rw[e,Nat.pow_succ]
   simp only[Bool.true_or,if_true]
   have e2:v*(10 ^ k*10)=v*10 ^ k*10:=by rw[Nat.mul_assoc]
   rw[e2]
   congr 1
   omega
theorem qx:∀ (k a:Nat),wO (aN k a)=none∧∀ r,wO (aN k a++46::r)=some (aN k a,r)
 | k,a=>by
   have key:∀ l:List UInt8,(∀ x,x∈l→x≠46)→wO l=none∧∀ r,wO (l++46::r)=some (l,r):=by
    intro l
    induction l with
    | nil=>intro _;exact⟨rfl,fun r=>by simp[wO]⟩
    | cons c l ih=>
      intro h
      have hc:c≠46:=h c (by simp)
      have ih:=ih fun x hx=>h x (by simp[hx])
      refine⟨by rw[wO,if_neg hc,ih.1];rfl,fun r=>by rw[List.cons_append,wO,if_neg hc,ih.2 r];rfl⟩
   refine key _ ?_
   have:∀ (k a:Nat) x,x∈aN k a→48≤x.toNat:=by
    intro k
    induction k with
    | zero=>intro a x hx;simp[aN] at hx
    | succ k ih=>
      intro a x hx
      rw[aN,List.mem_append] at hx
      rcases hx with hx | hx
      ·exact ih _ x hx
      ·simp only[List.mem_singleton] at hx
       rw[hx,UInt8.toNat_ofNat']
       omega
   intro x hx e
   have:=this k a x hx
   rw[e] at this
   revert this;decide
theorem b9 {k a:Nat}(hk:0<k):∃ c r,aN k a=c::r∧48≤c.toNat∧c.toNat≤57:=by
 obtain⟨j,rfl⟩:∃ j,k=j+1:=⟨k - 1,by omega⟩
 refine⟨UInt8.ofNat (48+a / 10 ^ j % 10),aN j a,un j a,?_,?_⟩
 ·rw[UInt8.toNat_ofNat'];omega
 ·rw[UInt8.toNat_ofNat'];omega
structure DecP (n:Int)(c:Nat)(A B:List UInt8):Prop where
 cut:wO (cu n c)=if c=0 then none else some (A,B)
 txt:cu n c=if c=0 then A else A++46::B
 len:B.length=c
 val:Lib.atoi (A++B)=some n
 rd:rdS false 0 0 (cu n c)=(n.natAbs,c)
 sg:sgI (cu n c) n.natAbs=n
 ne:cu n c≠[]
theorem decP {n:Int}{c:Nat}(h:IsN n c):∃ A B,DecP n c A B:=by
 obtain⟨h1,h2,h3⟩:=h
 have hlt:n.natAbs<10 ^ 15:=by simp;omega
 have hdl:=df hlt
 obtain⟨a,ha⟩:∃ a,a=n.natAbs:=⟨_,rfl⟩
 rw[← ha] at hlt hdl
 obtain⟨K,hK⟩:∃ K,K=max (dl a) (c+1):=⟨_,rfl⟩
 have haK:a<10 ^ K:=Nat.lt_of_lt_of_le hdl.2.2 (Nat.pow_le_pow_right (by omega) (by omega))
 have hsp:=dQ (K - c) c a
 rw[show K - c+c=K by omega] at hsp
 have hdec:cu n c=(if n<0 then [45] else [])++(aN (K - c) (a / 10 ^ c)++(if c=0 then [] else 46::aN c a)):=by unfold cu;rw[← ha,← hK]
 have hni:=qx (K - c) (a / 10 ^ c)
 obtain⟨x,r,hx,hx1,hx2⟩:=b9 (k:=K - c) (a:=a / 10 ^ c) (by omega)
 have hx45:x≠45:=by intro e;subst e;revert hx1;decide
 have hx43:x≠43:=by intro e;subst e;revert hx1;decide
 have hq:a / 10 ^ c % 10 ^ (K - c)=a / 10 ^ c:=by
  refine Nat.mod_eq_of_lt (Nat.div_lt_of_lt_mul ?_)
  rw[← Nat.pow_add,show c+(K - c)=K by omega]
  exact haK
 have hrd:rdS false 0 0 (aN (K - c) (a / 10 ^ c)++(if c=0 then [] else 46::aN c a))=(a,c):=by
  rw[gH,hq]
  by_cases h0:c=0
  ·rw[if_pos h0,h0];simp[rdS]
  ·rw[if_neg h0,rdS,if_neg (by decide)]
   have:=jG c (0*10 ^ (K - c)+a / 10 ^ c) 0 a []
   rw[List.append_nil] at this
   rw[show (false||decide ((46:UInt8)=46))=true from rfl,this,rdS]
   rw[show 0*10 ^ (K - c)+a / 10 ^ c=a / 10 ^ c by omega,Nat.zero_add]
   have e2:=Nat.div_add_mod a (10 ^ c)
   rw[Nat.mul_comm] at e2
   rw[e2]
 have hval:Lib.decNat (aN K a)=some a:=by
  unfold Lib.decNat
  have hne:(aN K a).isEmpty=false:=by
   obtain⟨y,q,hy,_⟩:=b9 (k:=K) (a:=a) (by omega)
   rw[hy];rfl
  rw[hne]
  have:=fM K 0 a []
  rw[List.append_nil] at this
  simp only[Bool.false_eq_true,if_false]
  rw[this,Lib.decFrom,Nat.mod_eq_of_lt haK]
  congr 1;omega
 by_cases hneg:n<0
 ·rw[if_pos hneg] at hdec
  refine⟨45::aN (K - c) (a / 10 ^ c),aN c a,?_⟩
  constructor
  ·rw[hdec,List.singleton_append,wO,if_neg (by decide)]
   by_cases h0:c=0
   ·rw[if_pos h0,if_pos h0,List.append_nil,hni.1];rfl
   ·rw[if_neg h0,if_neg h0,hni.2];rfl
  ·rw[hdec]
   by_cases h0:c=0
   ·rw[if_pos h0,if_pos h0];simp
   ·rw[if_neg h0,if_neg h0];simp
  ·exact aL c a
  ·rw[List.cons_append,← hsp]
   unfold Lib.atoi
   simp only[beq_self_eq_true,if_true]
   rw[hval]
   simp only[Option.map_some]
   congr 1;omega
  ·rw[hdec,List.singleton_append,rdS,if_neg (by decide)]
   rw[show (false||decide ((45:UInt8)=46))=false from rfl,hrd,← ha]
  ·unfold sgI
   rw[hdec,List.singleton_append,List.head?_cons,if_pos rfl]
   omega
  ·rw[hdec];simp
 ·rw[if_neg hneg] at hdec
  rw[List.nil_append] at hdec
  refine⟨aN (K - c) (a / 10 ^ c),aN c a,?_⟩
  constructor
  ·rw[hdec]
   by_cases h0:c=0
   ·rw[if_pos h0,if_pos h0,List.append_nil,hni.1]
   ·rw[if_neg h0,if_neg h0,hni.2]
  ·rw[hdec]
   by_cases h0:c=0
   ·rw[if_pos h0,if_pos h0];simp
   ·rw[if_neg h0,if_neg h0]
  ·exact aL c a
  ·rw[← hsp]
   have hval':=hval
   rw[hsp,hx] at hval' ⊢
   rw[List.cons_append] at hval' ⊢
   unfold Lib.atoi
   simp only
   rw[show (x == 45)=false by simpa using hx45,show (x == 43)=false by simpa using hx43]
   simp only[Bool.false_eq_true,if_false]
   rw[hval']
   simp only[Option.map_some]
   congr 1;omega
  ·rw[hdec,hrd,← ha]
  ·unfold sgI
   rw[hdec,hx,List.cons_append,List.head?_cons,if_neg (by simpa using hx45)]
   omega
  ·rw[hdec,hx];simp
end Go.Proofs.YtamoeblcphjbaaaGreatDoor
-- many steps
namespace Go.Proofs.YtamoeblcphjbaaaGreatDoor
open Go Go.Ab
attribute [local irreducible] vc
end Go.Proofs.YtamoeblcphjbaaaGreatDoor
-- many steps
namespace Go.Proofs.YtamoeblcphjbaaaGreatDoor
open Go Go.Ab
attribute [local irreducible] vc
def Bh (p s:List UInt8):Bool:=decide (s.take p.length=p∧p.length≤s.length)
def k8:List (List UInt8)→List Nat→List UInt8→Option (List Int×List UInt8)
 | [],_,s=>some ([],s)
 | _::_,[],_=>none
 | m::ms,k::ks,s=>if Bh m s=true then (match H7 k (s.drop m.length) with
   | some p=>(k8 ms ks p.2).map fun q=>(p.1::q.1,q.2)
   | none=>none) else none
end Go.Proofs.YtamoeblcphjbaaaGreatDoor
-- many steps
namespace Go.Proofs.YtamoeblcphjbaaaGreatDoor
open Go Go.Ab
attribute [local irreducible] vc
def GE (y m d:Int):Int×Int:=if 1≤y∧y≤9999∧1≤m∧m≤12∧1≤d∧d≤mdI y m then (iE y m.toNat d - 719162,0) else (0,17)
def gQ (s:List UInt8):Int×Int:=
 match k8 [[],[45],[45]] [4,2,2] s with
 | some ([y,m,d],[])=>GE y m d
 | _=>(0,13)
end Go.Proofs.YtamoeblcphjbaaaGreatDoor
-- many steps
namespace Go.Proofs.YtamoeblcphjbaaaGreatDoor
open Go Go.Ab
attribute [local irreducible] vc
def E7 (y m d h mi s ms:Int):Int×Int:=if (GE y m d).2≠0∨23<h∨59<mi∨59<s then (0,17) else ((GE y m d).1*86400000+(((60*h+mi)*60+s)*1000+ms),0)
def B9 (r:List UInt8):Option Int:=
 if Bh [46] r=true then (match H7 3 (r.drop 1) with
  | some p=>if p.1=0∨p.2≠[90] then none else some p.1
  | none=>none) else if r=[90] then some 0 else none
def msT:List (List UInt8):=[[],[45],[45],[84],[58],[58]]
def ksT:List Nat:=[4,2,2,2,2,2]
def gP (s:List UInt8):Int×Int:=
 match k8 msT ksT s with
 | some ([y,m,d,h,mi,sec],r)=>(match B9 r with
   | some ms=>E7 y m d h mi sec ms
   | none=>(0,13))
 | _=>(0,13)
end Go.Proofs.YtamoeblcphjbaaaGreatDoor
namespace Go.Proofs.YtamoeblcphjbaaaGreatDoor
open Go Go.Ab
end Go.Proofs.YtamoeblcphjbaaaGreatDoor
namespace Go.Proofs.YtamoeblcphjbaaaGreatDoor
open Go Go.Ab
attribute [local irreducible] vc
def aR (v:Val):List Val:=if v.kind=8∨v.kind=10 then v.lst else if v.kind=9 then v.fields.map Fld.value else []
theorem bJ {v:Val}(h:v.kind=8∨v.kind=10):aR v=v.lst:=if_pos h
theorem dP {v:Val}(h:v.kind=9):aR v=v.fields.map Fld.value:=by unfold aR;rw[if_neg (by omega),if_pos h]
theorem qo {v:Val}(h:¬ (v.kind=8∨v.kind=10))(h9:¬ v.kind=9):aR v=[]:=by unfold aR;rw[if_neg h,if_neg h9]
theorem yZ (v:Val)(hf:v.fields.length*104≤140737488351232):aq Tryz.prog aC 149 [v.pv] (.list ((aR v).map Val.pv)):=by
 obtain⟨k,n,s,t,l,fs⟩:=v
 simp only[Val.fields] at hf
 by_cases h8:k=8∨k=10
 ·rw[bJ (v:=.mk k n s t l fs) h8]
  simp only[Val.lst]
  rcases h8 with rfl | rfl
  ·refine aq.intro kf (by simp[AO]) ?_
   simp(disch:=try exact dI) only[AO,Val.pv_mk,push_cast,seval]
  ·refine aq.intro kf (by simp[AO]) ?_
   simp(disch:=try exact dI) only[AO,Val.pv_mk,push_cast,seval]
 ·by_cases h9:k=9
  ·subst h9
   rw[dP (v:=.mk 9 n s t l fs) rfl]
   simp only[Val.fields]
   refine aq.intro kf (by simp[AO]) ?_
   simp(disch:=try exact dI) only[AO,Val.pv_mk,push_cast,seval]
   refine aX ([(3,0,25,6)]) (fun i:Nat=>[(3,.olist 0 6 (((fs.take i).map Fld.value).map Val.pv)),(18,.pv (.int .i64 (i:Int)))]) (fun _=>[]) (fun i=>i≤fs.length) (fun i=>fs.length - i) (0) ?_;intro e0 σ0 n0 h0;simp(disch:=try exact dI) only[push_cast,seval] at h0;obtain⟨rfl,rfl,rfl⟩:=h0;refine⟨?_,?_,?_⟩
   ·simp(disch:=try exact dI) only[push_cast,seval]
   ·omega
   rintro i hi
   by_cases hlt:i<fs.length
   ·have hltI:(i:Int)<(fs.length:Int):=by omega
    obtain⟨c,hc⟩:∃ c,fs[i]? = some c:=⟨_,List.getElem?_eq_getElem hlt⟩
    have hts:=aQ hc
    obtain⟨nm,⟨k',n',s',t',l',f'⟩⟩:=c
    have hcp:(fs.map Fld.pv)[i]? = some (.agg [.str nm,.int .i64 k',.int .i64 n',.int .i64 s',.str t',.list (l'.map Val.pv),.list (f'.map Fld.pv)]):=by simp[hc,Fld.pv_mk,Val.pv_mk,cf]
    simp(disch:=try exact dI) only[hcp,push_cast,seval]
    exact⟨i+1,bX (by simp(disch:=try exact dI) only[hts,List.map_append,Fld.value,Val.pv_mk,push_cast,seval]),by omega,by omega⟩
   ·have he:i=fs.length:=by omega
    subst he
    simp(disch:=try exact dI) only[List.take_length,uj,push_cast,seval]
  ·rw[qo (v:=.mk k n s t l fs) h8 h9]
   refine aq.intro kf (by simp[AO]) ?_
   have e1:¬ k=8:=by omega
   have e2:¬ k=10:=by omega
   simp(disch:=try exact dI) only[AO,Val.pv_mk,push_cast,seval]
end Go.Proofs.YtamoeblcphjbaaaGreatDoor
