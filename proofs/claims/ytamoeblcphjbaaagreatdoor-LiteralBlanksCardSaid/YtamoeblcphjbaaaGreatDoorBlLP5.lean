/- A part. -/
import Derived.Test.YtamoeblcphjbaaaGreatDoorBlLP4
set_option linter.unusedVariables false
set_option linter.unusedSimpArgs false
set_option maxHeartbeats 16000000
set_option maxRecDepth 100000
open UInt8 renaming ofNat->U0,toNat_ofNat'->Ve
open List renaming getElem?_eq_getElem->Uo,length_cons->Ut,length_nil->Ux,nil_append->UK,cons_append->UJ,length_append->Us,drop_length->Vz
namespace Go.Proofs.YtamoeblcphjbaaaGreatDoor
open Go Go.Ab
attribute [local irreducible] vc
def Ca:Option Nat->Int
 | none=>-1
 | some o=>o
def hdH (R:Rd)(a:Nat):Nat×Int×List UInt8->St
 | (j,o,[])=>⟨[(0,.ptr 0 0),(1,.pv (.int .i64 (a:Int))),(4,.ptr 1 0),(5,.pv (.int .i64 o)),(6,.pv (.int .i64 (j:Int)))],[(0,rdB R),(1,.cells 83 true [.pv .nilp,.pv .nils])],2⟩
 | (j,o,b::r)=>⟨[(0,.ptr 0 0),(1,.pv (.int .i64 (a:Int))),(4,.ptr 1 0),(5,.pv (.int .i64 o)),(6,.pv (.int .i64 (j:Int)))],[(0,rdB R),(1,.cells 83 true [.ptr 1 0,.row 2 1 0 (r.length+1)]),(2,.cells 5 false ((aC (b::r)).map .pv))],3⟩
theorem vB {i:Nat}{o:Option Nat}{out:List UInt8}:eb [] i o out = .short:=rfl
theorem oJ {c:UInt8}{r:List UInt8}{i:Nat}{out:List UInt8}(h:c.toNat=34):eb (c::r) i none out = .done out (i+1):=by rw[eb,if_pos ⟨h,rfl⟩]
theorem tj {c:UInt8}(h:c.toNat=34):eP c=none:=by unfold eP;rw[if_neg (by omega),if_neg (by omega),if_neg (by omega)]
theorem lP {c:UInt8}{r:List UInt8}{i:Nat}{o:Option Nat}{out:List UInt8}(h:¬ (c.toNat=34/\o=none))(hv:eP c=none):eb (c::r) i o out = .bad i 13:=by rw[eb,if_neg h,hv]
theorem vD {c:UInt8}{r:List UInt8}{i n:Nat}{out:List UInt8}(hv:eP c=some n):eb (c::r) i none out=eb r (i+1) (some n) out:=by
 have h:¬ c.toNat=34:=fun h=>by rw[tj h] at hv;cases hv
 rw[eb,if_neg (fun q=>h q.1),hv]
theorem vC {c:UInt8}{r:List UInt8}{i n o:Nat}{out:List UInt8}(hv:eP c=some n):eb (c::r) i (some o) out=eb r (i+1) none (out++[U0 (16*o+n)]):=by
 rw[eb,if_neg (fun q=>by cases q.2),hv]
section
variable {T:Nat}{p:PV}
theorem H3 (R:Rd)(a:Nat)(hs:R.s.length<=65536)(ha:a+1<R.s.length)(hE:R.e=0):aI Tryz.prog (bE T p) 1 161 [.ptr 0 0,.pv (.int .i64 (a:Int))] [rdB R] (.pv (.tup [])) [rdB (rK R a)]:=by
 have hf:=fun i e=>bV (T:=T) (p:=p) R i e
 unfold rK
 obtain⟨Z,hZ⟩:∃ Z,Z=eb (R.s.drop (a+2)) (a+2) none []:=⟨_,rfl⟩
 rw[<- hZ]
 refine aI.intro Tg.2 (by simp[Tg]) ?_
 simp(disch:=try exact dI) only[Tg,push_cast,seval]
 refine kK [] (hdH R a) (fun y=>y.1<=R.s.length/\y.2.2.length<=y.1/\∃ od,Ca od=y.2.1/\(∀ o,od=some o->o<16)/\Z=eb (R.s.drop y.1) y.1 od y.2.2) (fun y=>R.s.length - y.1) (a+2,-1,[]) ?_ ?_ ?_
 ·exact bu (by simp(disch:=try exact dI) only[hdH,rdB,rdC,push_cast,seval];omega)
 ·exact⟨by simp only;omega,by simp,none,rfl,by simp,hZ⟩
 rintro⟨j,od',out⟩ ⟨hj,ho,od,hod,hol,hZj⟩
 simp only at hj ho hod hZj
 subst hod
 cases out with
 | nil=>
   by_cases hlt:j<R.s.length
   ·obtain⟨c,hc⟩:∃ c,R.s[j]? = some c:=⟨_,Uo hlt⟩
    have hltI:(j:Int)<(R.s.length:Int):=by omega
    rw[aU hc] at hZj
    have hx:=toE (T:=T) (p:=p) (C8 c)
    have hcl:=c.toNat_lt
    cases hv:eP c with
    | none=>
      rw[mO,hv] at hx
      simp only at hx
      cases od with
      | none=>
        simp only[Ca]
        by_cases h34:c.toNat=34
        ·have h34I:((c.toNat:Int)=34)=True:=eq_true (by omega)
         rw[oJ h34] at hZj
         subst hZj
         have k1:=j1 (T:=T) (p:=p) (AI false [] (by simp only[Ut,Ux] at ho ⊢;omega))
         simp only[bB,aB,stB] at k1
         simp only[bq]
         rw[if_neg (fun h=>by cases h.1)]
         simp(disch:=try exact dI) only[hdH,hltI,hc,ag,rdB,rdC,push_cast,seval]
         refine ae.pure hx rfl ?_
         simp(disch:=try exact dI) only[h34I,push_cast,seval]
         refine ae.lentK k1 [1] rfl qsZ qsZ ?_
         refine zgZ ?_
         exact am [] (by simp(disch:=try exact dI) only[rdB,rdC,push_cast,seval])
        ·have h34I:¬ (c.toNat:Int)=34:=by omega
         rw[lP (fun q=>h34 q.1) hv] at hZj
         subst hZj
         have hfa:=hf j 13
         simp only[rdB,rdC] at hfa
         simp(disch:=try exact dI) only[hdH,hltI,hc,ag,rdB,rdC,push_cast,seval]
         refine ae.pure hx rfl ?_
         simp(disch:=try exact dI) only[h34I,push_cast,seval]
         refine ae.lentK hfa [0] rfl qsZ qsZ ?_
         refine zgZ ?_
         exact am [] (by simp(disch:=try exact dI) only[bq,rdB,rdC,push_cast,seval])
      | some o=>
        have h16:=hol o rfl
        have hoI:¬ (o:Int)<0:=by omega
        simp only[Ca]
        rw[lP (fun q=>by cases q.2) hv] at hZj
        subst hZj
        have hfa:=hf j 13
        simp only[rdB,rdC] at hfa
        by_cases h34:c.toNat=34
        ·have h34I:((c.toNat:Int)=34)=True:=eq_true (by omega)
         simp(disch:=try exact dI) only[hdH,hltI,hc,ag,rdB,rdC,push_cast,seval]
         refine ae.pure hx rfl ?_
         simp(disch:=try exact dI) only[h34I,hoI,push_cast,seval]
         refine ae.lentK hfa [0] rfl qsZ qsZ ?_
         refine zgZ ?_
         exact am [] (by simp(disch:=try exact dI) only[bq,rdB,rdC,push_cast,seval])
        ·have h34I:¬ (c.toNat:Int)=34:=by omega
         simp(disch:=try exact dI) only[hdH,hltI,hc,ag,rdB,rdC,push_cast,seval]
         refine ae.pure hx rfl ?_
         simp(disch:=try exact dI) only[h34I,push_cast,seval]
         refine ae.lentK hfa [0] rfl qsZ qsZ ?_
         refine zgZ ?_
         exact am [] (by simp(disch:=try exact dI) only[bq,rdB,rdC,push_cast,seval])
    | some n=>
      rw[mO,hv] at hx
      simp only at hx
      have hn16:=gS hv
      have hnI:¬ (n:Int)<0:=by omega
      have h34:¬ c.toNat=34:=fun h=>by rw[tj h] at hv;cases hv
      have h34I:¬ (c.toNat:Int)=34:=by omega
      cases od with
      | none=>
        rw[vD hv] at hZj
        simp only[Ca]
        simp(disch:=try exact dI) only[hdH,hltI,hc,ag,rdB,rdC,push_cast,seval]
        refine ae.pure hx rfl ?_
        simp(disch:=try exact dI) only[h34I,hnI,push_cast,seval]
        exact⟨(j+1,(n:Int),[]),bu (by simp(disch:=try exact dI) only[hdH,rdB,rdC,push_cast,seval]),⟨by simp only;omega,by simp only[Ut,Ux] at ho ⊢;omega,some n,rfl,(fun o h=>by cases h;exact hn16),hZj⟩,by simp only;omega⟩
      | some o=>
        have h16:=hol o rfl
        have hoI:¬ (o:Int)<0:=by omega
        rw[vC hv] at hZj
        simp only[Ca]
        have hw:=fE (n:=16*(o:Int)+(n:Int)) (by omega) (by omega)
        have hw64:=ic (n:=16*(o:Int)+(n:Int)) (by omega) (by omega)
        have hu:((U0 (16*o+n)).toNat:Int)=16*(o:Int)+(n:Int):=by
         rw[Ve];omega
        have k1:=j1 (T:=T) (p:=p) (tV false [] (U0 (16*o+n)) (by simp only[Ut,Ux] at ho ⊢;omega))
        rw[hu] at k1
        generalize U0 (16*o+n)=u at *
        simp only[bB,aB,UK,UJ] at k1
        simp(disch:=try exact dI) only[hdH,hltI,hc,ag,rdB,rdC,push_cast,seval]
        refine ae.pure hx rfl ?_
        simp(disch:=try exact dI) only[h34I,hnI,hoI,hw,push_cast,seval]
        refine ae.lentK k1 [1] rfl qsZ qsZ ?_
        refine zgZ ?_
        exact⟨(j+1,-1,[u]),bu (by simp(disch:=try exact dI) only[hdH,rdB,rdC,push_cast,seval]),⟨by simp only;omega,by simp only[Ut,Us,Ux] at ho ⊢;omega,none,rfl,(fun o h=>by cases h),hZj⟩,by simp only;omega⟩
   ·have hltI:¬ (j:Int)<(R.s.length:Int):=by omega
    obtain rfl:j=R.s.length:=by omega
    rw[Vz,vB] at hZj
    subst hZj
    have hfa:=hf a 4
    simp only[rdB,rdC] at hfa
    generalize Ca od=oi
    simp(disch:=try exact dI) only[hdH,hltI,rdB,rdC,push_cast,seval]
    refine ae.lentK hfa [0] rfl qsZ qsZ ?_
    refine zgZ ?_
    exact am [] (by simp(disch:=try exact dI) only[bq,rdB,rdC,push_cast,seval])
 | cons b r=>
   by_cases hlt:j<R.s.length
   ·obtain⟨c,hc⟩:∃ c,R.s[j]? = some c:=⟨_,Uo hlt⟩
    have hltI:(j:Int)<(R.s.length:Int):=by omega
    rw[aU hc] at hZj
    have hx:=toE (T:=T) (p:=p) (C8 c)
    have hcl:=c.toNat_lt
    cases hv:eP c with
    | none=>
      rw[mO,hv] at hx
      simp only at hx
      cases od with
      | none=>
        simp only[Ca]
        by_cases h34:c.toNat=34
        ·have h34I:((c.toNat:Int)=34)=True:=eq_true (by omega)
         rw[oJ h34] at hZj
         subst hZj
         have k1:=j1 (T:=T) (p:=p) (AI true (b::r) (by simp only[Ut,Ux] at ho ⊢;omega))
         simp only[bB,aB,stB] at k1
         simp only[bq]
         rw[if_neg (fun h=>by cases h.1)]
         simp(disch:=try exact dI) only[hdH,hltI,hc,ag,rdB,rdC,push_cast,seval]
         refine ae.pure hx rfl ?_
         simp(disch:=try exact dI) only[h34I,push_cast,seval]
         refine ae.lentK k1 [1,2] rfl qsZ qsZ ?_
         refine zgZ ?_
         exact am [] (by simp(disch:=try exact dI) only[rdB,rdC,push_cast,seval])
        ·have h34I:¬ (c.toNat:Int)=34:=by omega
         rw[lP (fun q=>h34 q.1) hv] at hZj
         subst hZj
         have hfa:=hf j 13
         simp only[rdB,rdC] at hfa
         simp(disch:=try exact dI) only[hdH,hltI,hc,ag,rdB,rdC,push_cast,seval]
         refine ae.pure hx rfl ?_
         simp(disch:=try exact dI) only[h34I,push_cast,seval]
         refine ae.lentK hfa [0] rfl qsZ qsZ ?_
         refine zgZ ?_
         exact am [] (by simp(disch:=try exact dI) only[bq,rdB,rdC,push_cast,seval])
      | some o=>
        have h16:=hol o rfl
        have hoI:¬ (o:Int)<0:=by omega
        simp only[Ca]
        rw[lP (fun q=>by cases q.2) hv] at hZj
        subst hZj
        have hfa:=hf j 13
        simp only[rdB,rdC] at hfa
        by_cases h34:c.toNat=34
        ·have h34I:((c.toNat:Int)=34)=True:=eq_true (by omega)
         simp(disch:=try exact dI) only[hdH,hltI,hc,ag,rdB,rdC,push_cast,seval]
         refine ae.pure hx rfl ?_
         simp(disch:=try exact dI) only[h34I,hoI,push_cast,seval]
         refine ae.lentK hfa [0] rfl qsZ qsZ ?_
         refine zgZ ?_
         exact am [] (by simp(disch:=try exact dI) only[bq,rdB,rdC,push_cast,seval])
        ·have h34I:¬ (c.toNat:Int)=34:=by omega
         simp(disch:=try exact dI) only[hdH,hltI,hc,ag,rdB,rdC,push_cast,seval]
         refine ae.pure hx rfl ?_
         simp(disch:=try exact dI) only[h34I,push_cast,seval]
         refine ae.lentK hfa [0] rfl qsZ qsZ ?_
         refine zgZ ?_
         exact am [] (by simp(disch:=try exact dI) only[bq,rdB,rdC,push_cast,seval])
    | some n=>
      rw[mO,hv] at hx
      simp only at hx
      have hn16:=gS hv
      have hnI:¬ (n:Int)<0:=by omega
      have h34:¬ c.toNat=34:=fun h=>by rw[tj h] at hv;cases hv
      have h34I:¬ (c.toNat:Int)=34:=by omega
      cases od with
      | none=>
        rw[vD hv] at hZj
        simp only[Ca]
        simp(disch:=try exact dI) only[hdH,hltI,hc,ag,rdB,rdC,push_cast,seval]
        refine ae.pure hx rfl ?_
        simp(disch:=try exact dI) only[h34I,hnI,push_cast,seval]
        exact⟨(j+1,(n:Int),(b::r)),bu (by simp(disch:=try exact dI) only[hdH,rdB,rdC,push_cast,seval]),⟨by simp only;omega,by simp only[Ut,Ux] at ho ⊢;omega,some n,rfl,(fun o h=>by cases h;exact hn16),hZj⟩,by simp only;omega⟩
      | some o=>
        have h16:=hol o rfl
        have hoI:¬ (o:Int)<0:=by omega
        rw[vC hv] at hZj
        simp only[Ca]
        have hw:=fE (n:=16*(o:Int)+(n:Int)) (by omega) (by omega)
        have hw64:=ic (n:=16*(o:Int)+(n:Int)) (by omega) (by omega)
        have hu:((U0 (16*o+n)).toNat:Int)=16*(o:Int)+(n:Int):=by
         rw[Ve];omega
        have k1:=j1 (T:=T) (p:=p) (tV true (b::r) (U0 (16*o+n)) (by simp only[Ut,Ux] at ho ⊢;omega))
        rw[hu] at k1
        generalize U0 (16*o+n)=u at *
        simp only[bB,aB,UK,UJ] at k1
        simp(disch:=try exact dI) only[hdH,hltI,hc,ag,rdB,rdC,push_cast,seval]
        refine ae.pure hx rfl ?_
        simp(disch:=try exact dI) only[h34I,hnI,hoI,hw,push_cast,seval]
        refine ae.lentK k1 [1,2] rfl qsZ qsZ ?_
        refine zgZ ?_
        exact⟨(j+1,-1,b::(r++[u])),bu (by simp(disch:=try exact dI) only[hdH,rdB,rdC,push_cast,seval]),⟨by simp only;omega,by simp only[Ut,Us,Ux] at ho ⊢;omega,none,rfl,(fun o h=>by cases h),hZj⟩,by simp only;omega⟩
   ·have hltI:¬ (j:Int)<(R.s.length:Int):=by omega
    obtain rfl:j=R.s.length:=by omega
    rw[Vz,vB] at hZj
    subst hZj
    have hfa:=hf a 4
    simp only[rdB,rdC] at hfa
    generalize Ca od=oi
    simp(disch:=try exact dI) only[hdH,hltI,rdB,rdC,push_cast,seval]
    refine ae.lentK hfa [0] rfl qsZ qsZ ?_
    refine zgZ ?_
    exact am [] (by simp(disch:=try exact dI) only[bq,rdB,rdC,push_cast,seval])
end
