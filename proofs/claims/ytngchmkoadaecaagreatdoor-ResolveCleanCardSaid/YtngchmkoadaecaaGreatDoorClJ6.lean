/- A part. -/
import Derived.Test.YtngchmkoadaecaaGreatDoorClJI
set_option linter.unusedVariables false
set_option linter.unusedSimpArgs false
set_option maxRecDepth 100000
open List renaming getElem?_eq_getElem->Uq
open Option renaming getD_some->Vb,isSome_some->Vv
namespace Go.Proofs.YtngchmkoadaecaaGreatDoor
open Go Go.Ab
def vsn (name:List UInt8)(version:Int)(x:Sch):Bool:=decide (x.name=name)&&decide (x.version=version)
theorem Sb (x:Sch)(name:List UInt8)(version:Int):ap Tryz.prog aB 104 [x.pv,.eptr [.str name] 0 0,.eptr [.int .i64 version] 0 0] (.bool (vsn name version x)):=by
 obtain⟨nm,ve,ty⟩:=x
 obtain⟨w1,w2,w3,w4,w5,w6,w7⟩:=ty
 refine ap.intro QR.2 (by simp[QR]) ?_
 by_cases h:nm=name
 ·by_cases h2:ve=version
  ·simp(disch:=try exact dI) only[QR,Ub,Um,h,h2,eq_self,push_cast,seval]
   simp[vsn,Sch.name,Sch.version,h,h2]
  ·simp(disch:=try exact dI) only[QR,Ub,Um,h,h2,eq_self,push_cast,seval]
   simp[vsn,Sch.name,Sch.version,h,h2]
 ·simp(disch:=try exact dI) only[QR,Ub,Um,h,push_cast,seval]
  simp[vsn,Sch.name,Sch.version,h]
theorem EV (p:Prg)(name:List UInt8)(version:Int)(hp:p.ok):ap Tryz.prog aB 54 [p.pv,.str name,.int .i64 version] (.tup [.int .i64 (max (cj (p.schemas.findIdx? (vsn name version))) 0),.bool (mz (p.schemas.findIdx? (vsn name version)))]):=by
 obtain⟨v,ss,es,ws,rs⟩:=p
 rw[T3] at hp
 refine ap.intro Q54.2 (by simp[Q54]) ?_
 simp(disch:=try exact dI) only[Q54,T4,push_cast,seval]
 refine ab.pure (RT _ 104 [.eptr [.str name] 0 0,.eptr [.int .i64 version] 0 0] _ (fun x _=>Sb x name version) (by have:=hp.2.1;unfold maxLen;omega)) rfl ?_
 refine zgZ ?_
 exact⟨rfl,rfl⟩
def later (l:List Sch)(s:Sch):Option Nat->Bool
 | none=>true
 | some b=>match l[b]? with
   | some t=>decide (t.version<s.version)
   | none=>false
def eT (l:List Sch)(name:List UInt8):Nat->Option Nat
 | 0=>none
 | i+1=>match l[i]? with
   | some s=>if s.name=name/\later l s (eT l name i)=true then some i else eT l name i
   | none=>eT l name i
theorem ri (l:List Sch)(name:List UInt8):∀ i b,eT l name i=some b->b<i/\b<l.length
 | 0,b,h=>by cases h
 | i+1,b,h=>by
   rw[eT] at h
   split at h
   ·rename_i s hs
    split at h
    ·cases h;exact⟨by omega,(List.getElem?_eq_some_iff.1 hs).1⟩
    ·have:=ri l name i b h;omega
   ·have:=ri l name i b h;omega
theorem oj (l:List Sch)(name:List UInt8){i:Nat}{s:Sch}(hs:l[i]? = some s) :
  (s.name≠name/\eT l name (i+1)=eT l name i)\/(s.name=name/\eT l name i=none/\eT l name (i+1)=some i) \/
  (∃ b t,s.name=name/\eT l name i=some b/\l[b]? = some t/\b<l.length/\t.version<s.version/\eT l name (i+1)=some i) \/
  (∃ b t,s.name=name/\eT l name i=some b/\l[b]? = some t/\b<l.length/\¬ t.version<s.version/\eT l name (i+1)=some b):=by
 have e:eT l name (i+1)=if s.name=name/\later l s (eT l name i)=true then some i else eT l name i:=by rw[eT,hs]
 by_cases h:s.name=name
 ·cases hl:eT l name i with
  | none=>exact .inr (.inl ⟨h,rfl,by rw[e,hl,if_pos ⟨h,rfl⟩]⟩)
  | some b=>
    obtain⟨_,hb⟩:=ri l name i b hl
    have ht:=Uq hb
    by_cases hv:l[b].version<s.version
    ·exact .inr (.inr (.inl ⟨b,_,h,rfl,ht,hb,hv,by rw[e,hl,if_pos ⟨h,by simp[later,ht,hv]⟩]⟩))
    ·exact .inr (.inr (.inr ⟨b,_,h,rfl,ht,hb,hv,by rw[e,hl,if_neg (by simp[later,ht,hv])]⟩))
 ·exact .inl ⟨h,by rw[e,if_neg (fun h'=>h h'.1)]⟩
def BN (o:Option Nat):Int:=(o.getD 0:Nat)
theorem GJ (p:Prg)(name:List UInt8)(hp:p.ok):ap Tryz.prog aB 55 [p.pv,.str name] (.tup [.int .i64 (BN (eT p.schemas name p.schemas.length)),.bool (eT p.schemas name p.schemas.length).isSome]):=by
 obtain⟨v,ss,es,ws,rs⟩:=p
 rw[T3] at hp
 have hm:ss.length<=9223372036854775807:=by have:=hp.2.1;unfold maxLen at this;omega
 show ap Tryz.prog aB 55 [_,_] (.tup [.int .i64 (BN (eT ss name ss.length)),.bool (eT ss name ss.length).isSome])
 refine ap.intro Q55.2 (by simp[Q55]) ?_
 simp(disch:=try exact dI) only[Q55,T4,push_cast,seval]
 refine aw ([]) (fun i:Nat=>[(6,.pv (.int .i64 (BN (eT ss name i)))),(7,.pv (.bool (eT ss name i).isSome)),(13,.pv (.int .i64 (i:Int)))]) (fun _=>[]) (fun i=>i<=ss.length) (fun i=>ss.length - i) (0) ?_;intro e0 σ0 n0 h0;simp(disch:=try exact dI) only[push_cast,seval] at h0;obtain⟨rfl,rfl,rfl⟩:=h0;refine⟨?_,?_,?_⟩
 ·refine zgZ ?_
  simp[eT,BN]
 ·omega
 intro i hi
 by_cases hlt:i<ss.length
 ·have hltI:(i:Int)<ss.length:=by omega
  obtain⟨x,hx⟩:∃ x,ss[i]? = some x:=⟨ss[i],Uq hlt⟩
  have hst:=oj ss name hx
  obtain⟨nm,ve,ty⟩:=x
  obtain⟨w1,w2,w3,w4,w5,w6,w7⟩:=ty
  simp only[Sch.name,Sch.version] at hst
  rcases hst with ⟨k1,k2⟩ | ⟨k1,k2,k3⟩ | ⟨b,t,k1,k2,k3,k4,k5,k6⟩ | ⟨b,t,k1,k2,k3,k4,k5,k6⟩
  ·simp(disch:=try exact dI) only[hx,Ub,Um,k1,push_cast,seval]
   exact⟨i+1,aN (by simp(disch:=try exact dI) only[k2,push_cast,seval]),by omega,by omega⟩
  ·simp(disch:=try exact dI) only[hx,Ub,Um,k1,eq_self,k2,Option.isSome_none,push_cast,seval]
   exact⟨i+1,aN (by simp(disch:=try exact dI) only[k3,BN,Vb,Vv,push_cast,seval]),by omega,by omega⟩
  ·obtain⟨tn,tv,⟨z1,z2,z3,z4,z5,z6,z7⟩⟩:=t
   simp only[Sch.version] at k5
   simp(disch:=try exact dI) only[hx,Ub,Um,k1,eq_self,k2,Vv,BN,Vb,k3,push_cast,seval]
   exact⟨i+1,aN (by simp(disch:=try exact dI) only[k6,BN,Vb,Vv,push_cast,seval]),by omega,by omega⟩
  ·obtain⟨tn,tv,⟨z1,z2,z3,z4,z5,z6,z7⟩⟩:=t
   simp only[Sch.version] at k5
   simp(disch:=try exact dI) only[hx,Ub,Um,k1,eq_self,k2,Vv,BN,Vb,k3,push_cast,seval]
   exact⟨i+1,aN (by simp(disch:=try exact dI) only[k6,BN,Vb,Vv,push_cast,seval]),by omega,by omega⟩
 ·have hltI:¬ (i:Int)<ss.length:=by omega
  have he:i=ss.length:=by omega
  subst he
  exact qsZ
theorem GI (p:Prg)(name:List UInt8)(hp:p.ok):ap Tryz.prog aB 14 [p.pv,.str name] (.int .i64 (cj (eT p.schemas name p.schemas.length))):=by
 obtain⟨v,ss,es,ws,rs⟩:=p
 rw[T3] at hp
 have hm:ss.length<=9223372036854775807:=by have:=hp.2.1;unfold maxLen at this;omega
 show ap Tryz.prog aB 14 [_,_] (.int .i64 (cj (eT ss name ss.length)))
 refine ap.intro Q14.2 (by simp[Q14]) ?_
 simp(disch:=try exact dI) only[Q14,T4,push_cast,seval]
 refine aw ([]) (fun i:Nat=>[(5,.pv (.int .i64 (cj (eT ss name i)))),(6,.pv (.int .i64 (i:Int)))]) (fun _=>[]) (fun i=>i<=ss.length) (fun i=>ss.length - i) (0) ?_;intro e0 σ0 n0 h0;simp(disch:=try exact dI) only[push_cast,seval] at h0;obtain⟨rfl,rfl,rfl⟩:=h0;refine⟨?_,?_,?_⟩
 ·refine zgZ ?_
  simp[eT,cj]
 ·omega
 intro i hi
 by_cases hlt:i<ss.length
 ·have hltI:(i:Int)<ss.length:=by omega
  obtain⟨x,hx⟩:∃ x,ss[i]? = some x:=⟨ss[i],Uq hlt⟩
  have hst:=oj ss name hx
  obtain⟨nm,ve,ty⟩:=x
  obtain⟨w1,w2,w3,w4,w5,w6,w7⟩:=ty
  simp only[Sch.name,Sch.version] at hst
  rcases hst with ⟨k1,k2⟩ | ⟨k1,k2,k3⟩ | ⟨b,t,k1,k2,k3,k4,k5,k6⟩ | ⟨b,t,k1,k2,k3,k4,k5,k6⟩
  ·simp(disch:=try exact dI) only[hx,Ub,Um,k1,push_cast,seval]
   exact⟨i+1,aN (by simp(disch:=try exact dI) only[k2,push_cast,seval]),by omega,by omega⟩
  ·have hn:(-1:Int)<0:=by omega
   simp(disch:=try exact dI) only[hx,Ub,Um,k1,eq_self,k2,cj,hn,push_cast,seval]
   exact⟨i+1,aN (by simp(disch:=try exact dI) only[k3,cj,push_cast,seval]),by omega,by omega⟩
  ·obtain⟨tn,tv,⟨z1,z2,z3,z4,z5,z6,z7⟩⟩:=t
   simp only[Sch.version] at k5
   simp(disch:=try exact dI) only[hx,Ub,Um,k1,eq_self,k2,cj,k3,push_cast,seval]
   exact⟨i+1,aN (by simp(disch:=try exact dI) only[k6,cj,push_cast,seval]),by omega,by omega⟩
  ·obtain⟨tn,tv,⟨z1,z2,z3,z4,z5,z6,z7⟩⟩:=t
   simp only[Sch.version] at k5
   simp(disch:=try exact dI) only[hx,Ub,Um,k1,eq_self,k2,cj,k3,push_cast,seval]
   exact⟨i+1,aN (by simp(disch:=try exact dI) only[k6,cj,push_cast,seval]),by omega,by omega⟩
 ·have hltI:¬ (i:Int)<ss.length:=by omega
  have he:i=ss.length:=by omega
  subst he
  exact qsZ
