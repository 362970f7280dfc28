/- A part. -/
import Derived.Test.YtngchmkoadaecaaGreatDoorClJP
set_option linter.unusedVariables false
set_option linter.unusedSimpArgs false
set_option maxRecDepth 100000
open List renaming getElem?_eq_some_iff->Ur,getElem?_eq_getElem->Uq,mem_of_getElem?->Us
open Nat renaming zero_le->Vn,lt_or_ge->U6
namespace Go.Proofs.YtngchmkoadaecaaGreatDoor
open Go Go.Ab
section
variable {α:Type}
theorem dU {l:List α}{q:α->Bool}(h:∀ (j:Nat) (x:α),j<l.length->l[j]? = some x->q x=false):l.findIdx? q=none:=by
 rw[List.findIdx?_eq_none_iff]
 intro x hx
 obtain⟨j,hj⟩:=List.getElem?_of_mem hx
 exact h j x (Ur.1 hj).1 hj
theorem dS {l:List α}{q:α->Bool}{i:Nat}{x:α}(hx:l[i]? = some x)(hq:q x=true)(h:∀ (j:Nat) (x:α),j<i->l[j]? = some x->q x=false):l.findIdx? q=some i:=by
 rw[List.findIdx?_eq_some_iff_getElem]
 obtain⟨hlt,he⟩:=Ur.1 hx
 refine⟨hlt,by rw[he];exact hq,fun j hj=>?_⟩
 have hj':j<l.length:=by omega
 simpa using h j _ hj (Uq hj')
def cj:Option Nat->Int
 | some i=>i
 | none=>-1
def mz (o:Option Nat):Bool:=decide (0<=cj o)
end
theorem LV (l:List Enp)(g:Nat)(cs:List PV)(q:Enp->Bool)(hq:∀ x∈l,ap Tryz.prog aB g (x.pv::cs) (.bool (q x)))(hmax:l.length<=maxLen) :
  ap Tryz.prog aB 106 [.list (l.map Enp.pv),.clo g [] cs] (.int .i64 (cj (l.findIdx? q))):=by
 have hm:l.length<=9223372036854775807:=by unfold maxLen at hmax;omega
 clear hmax
 refine ap.intro S7.2 (by simp[S7]) ?_
 simp(maxSteps:=9^7) (disch:=try exact dI) only[S7,push_cast,seval]
 refine aw ([]) (fun i:Nat=>[(8,.pv (.int .i64 (i:Int)))]) (fun _=>[]) (fun i=>i<=l.length/\∀ j x,j<i->l[j]? = some x->q x=false) (fun i=>l.length - i) (0) ?_;intro e0 σ0 n0 h0;simp(maxSteps:=9^7) (disch:=try exact dI) only[push_cast,seval] at h0;obtain⟨rfl,rfl,rfl⟩:=h0;refine⟨?_,?_,?_⟩
 ·simp(maxSteps:=9^7) (disch:=try exact dI) only[push_cast,seval]
 ·exact⟨Vn _,by omega⟩
 rintro i ⟨hi,hpre⟩
 by_cases hlt:i<l.length
 ·have hltI:(i:Int)<l.length:=by omega
  obtain⟨x,hx⟩:∃ x,l[i]? = some x:=⟨l[i],Uq hlt⟩
  have hcall:=hq x (Us hx)
  simp(maxSteps:=9^7) (disch:=try exact dI) only[hx,Enp.cells_len,Enp.isAgg,push_cast,seval]
  refine ab.pure hcall (by rw[eg,eZ];rfl) ?_
  simp(maxSteps:=9^7) (disch:=try exact dI) only[push_cast,seval]
  refine e6 (fun hqx=>?_) (fun hqx=>?_)
  ·simp(maxSteps:=9^7) (disch:=try exact dI) only[push_cast,seval]
   rw[dS hx hqx hpre];exact .refl _
  ·simp(maxSteps:=9^7) (disch:=try exact dI) only[push_cast,seval]
   refine⟨i+1,aN qsZ,⟨by omega,fun j x hj hjx=>?_⟩,by omega⟩
   rcases U6 j i with h | h
   ·exact hpre j x h hjx
   ·have:j=i:=by omega
    subst this
    rw[hx] at hjx;cases hjx;exact hqx
 ·have hltI:¬ (i:Int)<l.length:=by omega
  simp(maxSteps:=9^7) (disch:=try exact dI) only[push_cast,seval]
  rw[dU (fun j x hj hjx=>hpre j x (by omega) hjx)];exact .refl _
theorem LU (l:List Svc)(g:Nat)(cs:List PV)(q:Svc->Bool)(hq:∀ x∈l,ap Tryz.prog aB g (x.pv::cs) (.bool (q x)))(hmax:l.length<=maxLen) :
  ap Tryz.prog aB 139 [.list (l.map Svc.pv),.clo g [] cs] (.int .i64 (cj (l.findIdx? q))):=by
 have hm:l.length<=9223372036854775807:=by unfold maxLen at hmax;omega
 clear hmax
 refine ap.intro SZ.2 (by simp[SZ]) ?_
 simp(maxSteps:=9^7) (disch:=try exact dI) only[SZ,push_cast,seval]
 refine aw ([]) (fun i:Nat=>[(8,.pv (.int .i64 (i:Int)))]) (fun _=>[]) (fun i=>i<=l.length/\∀ j x,j<i->l[j]? = some x->q x=false) (fun i=>l.length - i) (0) ?_;intro e0 σ0 n0 h0;simp(maxSteps:=9^7) (disch:=try exact dI) only[push_cast,seval] at h0;obtain⟨rfl,rfl,rfl⟩:=h0;refine⟨?_,?_,?_⟩
 ·simp(maxSteps:=9^7) (disch:=try exact dI) only[push_cast,seval]
 ·exact⟨Vn _,by omega⟩
 rintro i ⟨hi,hpre⟩
 by_cases hlt:i<l.length
 ·have hltI:(i:Int)<l.length:=by omega
  obtain⟨x,hx⟩:∃ x,l[i]? = some x:=⟨l[i],Uq hlt⟩
  have hcall:=hq x (Us hx)
  simp(maxSteps:=9^7) (disch:=try exact dI) only[hx,Svc.cells_len,Svc.isAgg,push_cast,seval]
  refine ab.pure hcall (by rw[eg,eZ];rfl) ?_
  simp(maxSteps:=9^7) (disch:=try exact dI) only[push_cast,seval]
  refine e6 (fun hqx=>?_) (fun hqx=>?_)
  ·simp(maxSteps:=9^7) (disch:=try exact dI) only[push_cast,seval]
   rw[dS hx hqx hpre];exact .refl _
  ·simp(maxSteps:=9^7) (disch:=try exact dI) only[push_cast,seval]
   refine⟨i+1,aN qsZ,⟨by omega,fun j x hj hjx=>?_⟩,by omega⟩
   rcases U6 j i with h | h
   ·exact hpre j x h hjx
   ·have:j=i:=by omega
    subst this
    rw[hx] at hjx;cases hjx;exact hqx
 ·have hltI:¬ (i:Int)<l.length:=by omega
  simp(maxSteps:=9^7) (disch:=try exact dI) only[push_cast,seval]
  rw[dU (fun j x hj hjx=>hpre j x (by omega) hjx)];exact .refl _
theorem LS (l:List Sch)(g:Nat)(cs:List PV)(q:Sch->Bool)(hq:∀ x∈l,ap Tryz.prog aB g (x.pv::cs) (.bool (q x)))(hmax:l.length<=maxLen) :
  ap Tryz.prog aB 126 [.list (l.map Sch.pv),.clo g [] cs] (.int .i64 (cj (l.findIdx? q))):=by
 have hm:l.length<=9223372036854775807:=by unfold maxLen at hmax;omega
 clear hmax
 refine ap.intro S3.2 (by simp[S3]) ?_
 simp(maxSteps:=9^7) (disch:=try exact dI) only[S3,push_cast,seval]
 refine aw ([]) (fun i:Nat=>[(8,.pv (.int .i64 (i:Int)))]) (fun _=>[]) (fun i=>i<=l.length/\∀ j x,j<i->l[j]? = some x->q x=false) (fun i=>l.length - i) (0) ?_;intro e0 σ0 n0 h0;simp(maxSteps:=9^7) (disch:=try exact dI) only[push_cast,seval] at h0;obtain⟨rfl,rfl,rfl⟩:=h0;refine⟨?_,?_,?_⟩
 ·simp(maxSteps:=9^7) (disch:=try exact dI) only[push_cast,seval]
 ·exact⟨Vn _,by omega⟩
 rintro i ⟨hi,hpre⟩
 by_cases hlt:i<l.length
 ·have hltI:(i:Int)<l.length:=by omega
  obtain⟨x,hx⟩:∃ x,l[i]? = some x:=⟨l[i],Uq hlt⟩
  have hcall:=hq x (Us hx)
  simp(maxSteps:=9^7) (disch:=try exact dI) only[hx,Sch.cells_len,Sch.isAgg,push_cast,seval]
  refine ab.pure hcall (by rw[eg,eZ];rfl) ?_
  simp(maxSteps:=9^7) (disch:=try exact dI) only[push_cast,seval]
  refine e6 (fun hqx=>?_) (fun hqx=>?_)
  ·simp(maxSteps:=9^7) (disch:=try exact dI) only[push_cast,seval]
   rw[dS hx hqx hpre];exact .refl _
  ·simp(maxSteps:=9^7) (disch:=try exact dI) only[push_cast,seval]
   refine⟨i+1,aN qsZ,⟨by omega,fun j x hj hjx=>?_⟩,by omega⟩
   rcases U6 j i with h | h
   ·exact hpre j x h hjx
   ·have:j=i:=by omega
    subst this
    rw[hx] at hjx;cases hjx;exact hqx
 ·have hltI:¬ (i:Int)<l.length:=by omega
  simp(maxSteps:=9^7) (disch:=try exact dI) only[push_cast,seval]
  rw[dU (fun j x hj hjx=>hpre j x (by omega) hjx)];exact .refl _
theorem LW (l:List Bra)(g:Nat)(cs:List PV)(q:Bra->Bool)(hq:∀ x∈l,ap Tryz.prog aB g (x.pv::cs) (.bool (q x)))(hmax:l.length<=maxLen) :
  ap Tryz.prog aB 101 [.list (l.map Bra.pv),.clo g [] cs] (.int .i64 (cj (l.findIdx? q))):=by
 have hm:l.length<=9223372036854775807:=by unfold maxLen at hmax;omega
 clear hmax
 refine ap.intro QS.2 (by simp[QS]) ?_
 simp(maxSteps:=9^7) (disch:=try exact dI) only[QS,push_cast,seval]
 refine aw ([]) (fun i:Nat=>[(8,.pv (.int .i64 (i:Int)))]) (fun _=>[]) (fun i=>i<=l.length/\∀ j x,j<i->l[j]? = some x->q x=false) (fun i=>l.length - i) (0) ?_;intro e0 σ0 n0 h0;simp(maxSteps:=9^7) (disch:=try exact dI) only[push_cast,seval] at h0;obtain⟨rfl,rfl,rfl⟩:=h0;refine⟨?_,?_,?_⟩
 ·simp(maxSteps:=9^7) (disch:=try exact dI) only[push_cast,seval]
 ·exact⟨Vn _,by omega⟩
 rintro i ⟨hi,hpre⟩
 by_cases hlt:i<l.length
 ·have hltI:(i:Int)<l.length:=by omega
  obtain⟨x,hx⟩:∃ x,l[i]? = some x:=⟨l[i],Uq hlt⟩
  have hcall:=hq x (Us hx)
  simp(maxSteps:=9^7) (disch:=try exact dI) only[hx,Bra.cells_len,Bra.isAgg,push_cast,seval]
  refine ab.pure hcall (by rw[eg,eZ];rfl) ?_
  simp(maxSteps:=9^7) (disch:=try exact dI) only[push_cast,seval]
  refine e6 (fun hqx=>?_) (fun hqx=>?_)
  ·simp(maxSteps:=9^7) (disch:=try exact dI) only[push_cast,seval]
   rw[dS hx hqx hpre];exact .refl _
  ·simp(maxSteps:=9^7) (disch:=try exact dI) only[push_cast,seval]
   refine⟨i+1,aN qsZ,⟨by omega,fun j x hj hjx=>?_⟩,by omega⟩
   rcases U6 j i with h | h
   ·exact hpre j x h hjx
   ·have:j=i:=by omega
    subst this
    rw[hx] at hjx;cases hjx;exact hqx
 ·have hltI:¬ (i:Int)<l.length:=by omega
  simp(maxSteps:=9^7) (disch:=try exact dI) only[push_cast,seval]
  rw[dU (fun j x hj hjx=>hpre j x (by omega) hjx)];exact .refl _
theorem RV (l:List Enp)(g:Nat)(cs:List PV)(q:Enp->Bool)(hq:∀ x∈l,ap Tryz.prog aB g (x.pv::cs) (.bool (q x)))(hmax:l.length<=maxLen) :
  ap Tryz.prog aB 83 [.list (l.map Enp.pv),.clo g [] cs] (.tup [.int .i64 (max (cj (l.findIdx? q)) 0),.bool (mz (l.findIdx? q))]):=by
 refine ap.intro Q83.2 (by simp[Q83]) ?_
 simp(maxSteps:=9^7) (disch:=try exact dI) only[Q83,push_cast,seval]
 refine ab.pure (LV l g cs q hq hmax) rfl ?_
 simp(maxSteps:=9^7) (disch:=try exact dI) only[mz,push_cast,seval]
theorem RU (l:List Svc)(g:Nat)(cs:List PV)(q:Svc->Bool)(hq:∀ x∈l,ap Tryz.prog aB g (x.pv::cs) (.bool (q x)))(hmax:l.length<=maxLen) :
  ap Tryz.prog aB 128 [.list (l.map Svc.pv),.clo g [] cs] (.tup [.int .i64 (max (cj (l.findIdx? q)) 0),.bool (mz (l.findIdx? q))]):=by
 refine ap.intro S2.2 (by simp[S2]) ?_
 simp(maxSteps:=9^7) (disch:=try exact dI) only[S2,push_cast,seval]
 refine ab.pure (LU l g cs q hq hmax) rfl ?_
 simp(maxSteps:=9^7) (disch:=try exact dI) only[mz,push_cast,seval]
theorem RT (l:List Sch)(g:Nat)(cs:List PV)(q:Sch->Bool)(hq:∀ x∈l,ap Tryz.prog aB g (x.pv::cs) (.bool (q x)))(hmax:l.length<=maxLen) :
  ap Tryz.prog aB 103 [.list (l.map Sch.pv),.clo g [] cs] (.tup [.int .i64 (max (cj (l.findIdx? q)) 0),.bool (mz (l.findIdx? q))]):=by
 refine ap.intro S9.2 (by simp[S9]) ?_
 simp(maxSteps:=9^7) (disch:=try exact dI) only[S9,push_cast,seval]
 refine ab.pure (LS l g cs q hq hmax) rfl ?_
 simp(maxSteps:=9^7) (disch:=try exact dI) only[mz,push_cast,seval]
theorem Sd (x:Enp)(name:List UInt8):ap Tryz.prog aB 84 [x.pv,.eptr [.str name] 0 0] (.bool (decide (x.name=name))):=by
 obtain⟨nm,kk,sc,ve,fo⟩:=x
 obtain⟨f1,f2,f3⟩:=fo
 refine ap.intro Q84.2 (by simp[Q84]) ?_
 simp(maxSteps:=9^7) (disch:=try exact dI) only[Q84,TU,T1,push_cast,seval]
 rfl
theorem Pc (p:Prg)(name:List UInt8)(hp:p.ok):ap Tryz.prog aB 30 [p.pv,.str name] (.tup [.int .i64 (max (cj (p.endpoints.findIdx? fun x=>decide (x.name=name))) 0),.bool (mz (p.endpoints.findIdx? fun x=>decide (x.name=name)))]):=by
 obtain⟨v,ss,es,ws,rs⟩:=p
 rw[T3] at hp
 refine ap.intro Q30.2 (by simp[Q30]) ?_
 simp(maxSteps:=9^7) (disch:=try exact dI) only[Q30,T4,push_cast,seval]
 refine ab.pure (RV _ 84 [.eptr [.str name] 0 0] _ (fun x _=>Sd x name) (by obtain⟨_,q1,_,q2,_,q3,_,q4,_⟩:=hp;unfold maxLen;omega)) rfl ?_
 simp(maxSteps:=9^7) (disch:=try exact dI) only[push_cast,seval]
 exact⟨rfl,rfl⟩
theorem Sc (x:Svc)(name:List UInt8):ap Tryz.prog aB 129 [x.pv,.eptr [.str name] 0 0] (.bool (decide (x.name=name))):=by
 obtain⟨nm,rq,rp,un⟩:=x
 refine ap.intro S1.2 (by simp[S1]) ?_
 simp(maxSteps:=9^7) (disch:=try exact dI) only[S1,Uf,push_cast,seval]
 rfl
theorem Pb (p:Prg)(name:List UInt8)(hp:p.ok):ap Tryz.prog aB 109 [p.pv,.str name] (.tup [.int .i64 (max (cj (p.services.findIdx? fun x=>decide (x.name=name))) 0),.bool (mz (p.services.findIdx? fun x=>decide (x.name=name)))]):=by
 obtain⟨v,ss,es,ws,rs⟩:=p
 rw[T3] at hp
 refine ap.intro S5.2 (by simp[S5]) ?_
 simp(maxSteps:=9^7) (disch:=try exact dI) only[S5,T4,push_cast,seval]
 refine ab.pure (RU _ 129 [.eptr [.str name] 0 0] _ (fun x _=>Sc x name) (by obtain⟨_,q1,_,q2,_,q3,_,q4,_⟩:=hp;unfold maxLen;omega)) rfl ?_
 simp(maxSteps:=9^7) (disch:=try exact dI) only[push_cast,seval]
 exact⟨rfl,rfl⟩
section
variable {α:Type}
end
