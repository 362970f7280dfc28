/- A part of the proof for LiteralAgainCardSaid. -/
import Derived.Test.YtamoeblcphjbaaaGreatDoorAgLP4
set_option maxRecDepth 100000
set_option linter.unusedVariables false
set_option linter.unusedSimpArgs false
-- many steps
namespace Go.Proofs.YtamoeblcphjbaaaGreatDoor
open Go Go.Ab
attribute [local irreducible] vc
def zY:Option Nat→Int
 | none=>-1
 | some o=>o
def hdH (R:Rd)(a:Nat):Nat×Int×List UInt8→St
 | (j,o,[])=>⟨[(0,.ptr 0 0),(1,.pv (.int .i64 (a:Int))),(4,.ptr 1 0),(5,.pv (.int .i64 o)),(6,.pv (.int .i64 (j:Int)))],[(0,rdB R),(1,.cells 83 true [.pv .nilp,.pv .nils])],2⟩
 | (j,o,b::r)=>⟨[(0,.ptr 0 0),(1,.pv (.int .i64 (a:Int))),(4,.ptr 1 0),(5,.pv (.int .i64 o)),(6,.pv (.int .i64 (j:Int)))],[(0,rdB R),(1,.cells 83 true [.ptr 1 0,.row 2 1 0 (r.length+1)]),(2,.cells 5 false ((aA (b::r)).map .pv))],3⟩
theorem tD {i:Nat}{o:Option Nat}{out:List UInt8}:i7 [] i o out = .short:=rfl
theorem rF {c:UInt8}{r:List UInt8}{i:Nat}{out:List UInt8}(h:c.toNat=34):i7 (c::r) i none out = .done out (i+1):=by rw[i7,if_pos ⟨h,rfl⟩]
theorem rE {c:UInt8}(h:c.toNat=34):pm c=none:=by unfold pm;rw[if_neg (by omega),if_neg (by omega),if_neg (by omega)]
theorem m8 {c:UInt8}{r:List UInt8}{i:Nat}{o:Option Nat}{out:List UInt8}(h:¬ (c.toNat=34∧o=none))(hv:pm c=none):i7 (c::r) i o out = .bad i 13:=by rw[i7,if_neg h,hv]
theorem A0 {c:UInt8}{r:List UInt8}{i n:Nat}{out:List UInt8}(hv:pm c=some n):i7 (c::r) i none out=i7 r (i+1) (some n) out:=by
 have h:¬ c.toNat=34:=fun h=>by rw[rE h] at hv;cases hv
 rw[i7,if_neg (fun q=>h q.1),hv]
theorem AZ {c:UInt8}{r:List UInt8}{i n o:Nat}{out:List UInt8}(hv:pm c=some n):i7 (c::r) i (some o) out=i7 r (i+1) none (out++[UInt8.ofNat (16*o+n)]):=by
 rw[i7,if_neg (fun q=>by cases q.2),hv]
section
variable {T:Nat}{p:PV}
set_option maxHeartbeats 8000000 in
theorem Ga (R:Rd)(a:Nat)(hs:R.s.length≤65536)(ha:a+1<R.s.length)(hE:R.e=0):aQ Tryz.prog (dM T p) 1 161 [.ptr 0 0,.pv (.int .i64 (a:Int))] [rdB R] (.pv (.tup [])) [rdB (tA R a)]:=by
 have hf:=fun i e=>cW (T:=T) (p:=p) R i e
 unfold tA
 obtain⟨Z,hZ⟩:∃ Z,Z=i7 (R.s.drop (a+2)) (a+2) none []:=⟨_,rfl⟩
 rw[← hZ]
 refine aQ.intro K1 (by simp[Rb]) ?_
 simp(disch:=try exact dI) only[Rb,push_cast,seval]
 refine jS [] (hdH R a) (fun y=>y.1≤R.s.length∧y.2.2.length≤y.1∧∃ od,zY od=y.2.1∧(∀ o,od=some o→o<16)∧Z=i7 (R.s.drop y.1) y.1 od y.2.2) (fun y=>R.s.length - y.1) (a+2,-1,[]) ?_ ?_ ?_
 ·exact bT (by simp(disch:=try exact dI) only[hdH,rdB,rdC,push_cast,seval];omega)
 ·exact⟨by simp only;omega,by simp,none,rfl,by simp,hZ⟩
 rintro⟨j,od',out⟩ ⟨hj,ho,od,hod,hol,hZj⟩
 simp only at hj ho hod hZj
 subst hod
 cases out with
 | nil=>
   by_cases hlt:j<R.s.length
   ·obtain⟨c,hc⟩:∃ c,R.s[j]? = some c:=⟨_,List.getElem?_eq_getElem hlt⟩
    have hltI:(j:Int)<(R.s.length:Int):=by omega
    rw[bV hc] at hZj
    have hx:=toE (T:=T) (p:=p) (A2 c)
    have hcl:=c.toNat_lt
    cases hv:pm c with
    | none=>
      rw[Hh,hv] at hx
      simp only at hx
      cases od with
      | none=>
        simp only[zY]
        by_cases h34:c.toNat=34
        ·have h34I:((c.toNat:Int)=34)=True:=eq_true (by omega)
         rw[rF h34] at hZj
         subst hZj
         have k1:=jm (T:=T) (p:=p) (jW false [] (by simp only[List.length_cons,List.length_nil] at ho ⊢;omega))
         simp only[bB,aB,stB] at k1
         simp only[bp]
         rw[if_neg (fun h=>by cases h.1)]
         simp(disch:=try exact dI) only[hdH,hltI,hc,ag,rdB,rdC,push_cast,seval]
         refine ab.pure hx rfl ?_
         simp(disch:=try exact dI) only[h34I,push_cast,seval]
         refine ab.lentK k1 [1] rfl qsZ qsZ ?_
         simp(disch:=try exact dI) only[push_cast,seval]
         exact ap [] (by simp(disch:=try exact dI) only[rdB,rdC,push_cast,seval])
        ·have h34I:¬ (c.toNat:Int)=34:=by omega
         rw[m8 (fun q=>h34 q.1) hv] at hZj
         subst hZj
         have hfa:=hf j 13
         simp only[rdB,rdC] at hfa
         simp(disch:=try exact dI) only[hdH,hltI,hc,ag,rdB,rdC,push_cast,seval]
         refine ab.pure hx rfl ?_
         simp(disch:=try exact dI) only[h34I,push_cast,seval]
         refine ab.lentK hfa [0] rfl qsZ qsZ ?_
         simp(disch:=try exact dI) only[push_cast,seval]
         exact ap [] (by simp(disch:=try exact dI) only[bp,rdB,rdC,push_cast,seval])
      | some o=>
        have h16:=hol o rfl
        have hoI:¬ (o:Int)<0:=by omega
        simp only[zY]
        rw[m8 (fun q=>by cases q.2) hv] at hZj
        subst hZj
        have hfa:=hf j 13
        simp only[rdB,rdC] at hfa
        by_cases h34:c.toNat=34
        ·have h34I:((c.toNat:Int)=34)=True:=eq_true (by omega)
         simp(disch:=try exact dI) only[hdH,hltI,hc,ag,rdB,rdC,push_cast,seval]
         refine ab.pure hx rfl ?_
         simp(disch:=try exact dI) only[h34I,hoI,push_cast,seval]
         refine ab.lentK hfa [0] rfl qsZ qsZ ?_
         simp(disch:=try exact dI) only[push_cast,seval]
         exact ap [] (by simp(disch:=try exact dI) only[bp,rdB,rdC,push_cast,seval])
        ·have h34I:¬ (c.toNat:Int)=34:=by omega
         simp(disch:=try exact dI) only[hdH,hltI,hc,ag,rdB,rdC,push_cast,seval]
         refine ab.pure hx rfl ?_
         simp(disch:=try exact dI) only[h34I,push_cast,seval]
         refine ab.lentK hfa [0] rfl qsZ qsZ ?_
         simp(disch:=try exact dI) only[push_cast,seval]
         exact ap [] (by simp(disch:=try exact dI) only[bp,rdB,rdC,push_cast,seval])
    | some n=>
      rw[Hh,hv] at hx
      simp only at hx
      have hn16:=m6 hv
      have hnI:¬ (n:Int)<0:=by omega
      have h34:¬ c.toNat=34:=fun h=>by rw[rE h] at hv;cases hv
      have h34I:¬ (c.toNat:Int)=34:=by omega
      cases od with
      | none=>
        rw[A0 hv] at hZj
        simp only[zY]
        simp(disch:=try exact dI) only[hdH,hltI,hc,ag,rdB,rdC,push_cast,seval]
        refine ab.pure hx rfl ?_
        simp(disch:=try exact dI) only[h34I,hnI,push_cast,seval]
        exact⟨(j+1,(n:Int),[]),bT (by simp(disch:=try exact dI) only[hdH,rdB,rdC,push_cast,seval]),⟨by simp only;omega,by simp only[List.length_cons,List.length_nil] at ho ⊢;omega,some n,rfl,(fun o h=>by cases h;exact hn16),hZj⟩,by simp only;omega⟩
      | some o=>
        have h16:=hol o rfl
        have hoI:¬ (o:Int)<0:=by omega
        rw[AZ hv] at hZj
        simp only[zY]
        have hw:=mB (n:=16*(o:Int)+(n:Int)) (by omega) (by omega)
        have hw64:=gu (n:=16*(o:Int)+(n:Int)) (by omega) (by omega)
        have hu:((UInt8.ofNat (16*o+n)).toNat:Int)=16*(o:Int)+(n:Int):=by
         rw[UInt8.toNat_ofNat'];omega
        have k1:=jm (T:=T) (p:=p) (lH false [] (UInt8.ofNat (16*o+n)) (by simp only[List.length_cons,List.length_nil] at ho ⊢;omega))
        rw[hu] at k1
        generalize UInt8.ofNat (16*o+n)=u at *
        simp only[bB,aB,List.nil_append,List.cons_append] at k1
        simp(disch:=try exact dI) only[hdH,hltI,hc,ag,rdB,rdC,push_cast,seval]
        refine ab.pure hx rfl ?_
        simp(disch:=try exact dI) only[h34I,hnI,hoI,hw,push_cast,seval]
        refine ab.lentK k1 [1] rfl qsZ qsZ ?_
        simp(disch:=try exact dI) only[push_cast,seval]
        exact⟨(j+1,-1,[u]),bT (by simp(disch:=try exact dI) only[hdH,rdB,rdC,push_cast,seval]),⟨by simp only;omega,by simp only[List.length_cons,List.length_append,List.length_nil] at ho ⊢;omega,none,rfl,(fun o h=>by cases h),hZj⟩,by simp only;omega⟩
   ·have hltI:¬ (j:Int)<(R.s.length:Int):=by omega
    obtain rfl:j=R.s.length:=by omega
    rw[List.drop_length,tD] at hZj
    subst hZj
    have hfa:=hf a 4
    simp only[rdB,rdC] at hfa
    generalize zY od=oi
    simp(disch:=try exact dI) only[hdH,hltI,rdB,rdC,push_cast,seval]
    refine ab.lentK hfa [0] rfl qsZ qsZ ?_
    simp(disch:=try exact dI) only[push_cast,seval]
    exact ap [] (by simp(disch:=try exact dI) only[bp,rdB,rdC,push_cast,seval])
 | cons b r=>
   by_cases hlt:j<R.s.length
   ·obtain⟨c,hc⟩:∃ c,R.s[j]? = some c:=⟨_,List.getElem?_eq_getElem hlt⟩
    have hltI:(j:Int)<(R.s.length:Int):=by omega
    rw[bV hc] at hZj
    have hx:=toE (T:=T) (p:=p) (A2 c)
    have hcl:=c.toNat_lt
    cases hv:pm c with
    | none=>
      rw[Hh,hv] at hx
      simp only at hx
      cases od with
      | none=>
        simp only[zY]
        by_cases h34:c.toNat=34
        ·have h34I:((c.toNat:Int)=34)=True:=eq_true (by omega)
         rw[rF h34] at hZj
         subst hZj
         have k1:=jm (T:=T) (p:=p) (jW true (b::r) (by simp only[List.length_cons,List.length_nil] at ho ⊢;omega))
         simp only[bB,aB,stB] at k1
         simp only[bp]
         rw[if_neg (fun h=>by cases h.1)]
         simp(disch:=try exact dI) only[hdH,hltI,hc,ag,rdB,rdC,push_cast,seval]
         refine ab.pure hx rfl ?_
         simp(disch:=try exact dI) only[h34I,push_cast,seval]
         refine ab.lentK k1 [1,2] rfl qsZ qsZ ?_
         simp(disch:=try exact dI) only[push_cast,seval]
         exact ap [] (by simp(disch:=try exact dI) only[rdB,rdC,push_cast,seval])
        ·have h34I:¬ (c.toNat:Int)=34:=by omega
         rw[m8 (fun q=>h34 q.1) hv] at hZj
         subst hZj
         have hfa:=hf j 13
         simp only[rdB,rdC] at hfa
         simp(disch:=try exact dI) only[hdH,hltI,hc,ag,rdB,rdC,push_cast,seval]
         refine ab.pure hx rfl ?_
         simp(disch:=try exact dI) only[h34I,push_cast,seval]
         refine ab.lentK hfa [0] rfl qsZ qsZ ?_
         simp(disch:=try exact dI) only[push_cast,seval]
         exact ap [] (by simp(disch:=try exact dI) only[bp,rdB,rdC,push_cast,seval])
      | some o=>
        have h16:=hol o rfl
        have hoI:¬ (o:Int)<0:=by omega
        simp only[zY]
        rw[m8 (fun q=>by cases q.2) hv] at hZj
        subst hZj
        have hfa:=hf j 13
        simp only[rdB,rdC] at hfa
        by_cases h34:c.toNat=34
        ·have h34I:((c.toNat:Int)=34)=True:=eq_true (by omega)
         simp(disch:=try exact dI) only[hdH,hltI,hc,ag,rdB,rdC,push_cast,seval]
         refine ab.pure hx rfl ?_
         simp(disch:=try exact dI) only[h34I,hoI,push_cast,seval]
         refine ab.lentK hfa [0] rfl qsZ qsZ ?_
         simp(disch:=try exact dI) only[push_cast,seval]
         exact ap [] (by simp(disch:=try exact dI) only[bp,rdB,rdC,push_cast,seval])
        ·have h34I:¬ (c.toNat:Int)=34:=by omega
         simp(disch:=try exact dI) only[hdH,hltI,hc,ag,rdB,rdC,push_cast,seval]
         refine ab.pure hx rfl ?_
         simp(disch:=try exact dI) only[h34I,push_cast,seval]
         refine ab.lentK hfa [0] rfl qsZ qsZ ?_
         simp(disch:=try exact dI) only[push_cast,seval]
         exact ap [] (by simp(disch:=try exact dI) only[bp,rdB,rdC,push_cast,seval])
    | some n=>
      rw[Hh,hv] at hx
      simp only at hx
      have hn16:=m6 hv
      have hnI:¬ (n:Int)<0:=by omega
      have h34:¬ c.toNat=34:=fun h=>by rw[rE h] at hv;cases hv
      have h34I:¬ (c.toNat:Int)=34:=by omega
      cases od with
      | none=>
        rw[A0 hv] at hZj
        simp only[zY]
        simp(disch:=try exact dI) only[hdH,hltI,hc,ag,rdB,rdC,push_cast,seval]
        refine ab.pure hx rfl ?_
        simp(disch:=try exact dI) only[h34I,hnI,push_cast,seval]
        exact⟨(j+1,(n:Int),(b::r)),bT (by simp(disch:=try exact dI) only[hdH,rdB,rdC,push_cast,seval]),⟨by simp only;omega,by simp only[List.length_cons,List.length_nil] at ho ⊢;omega,some n,rfl,(fun o h=>by cases h;exact hn16),hZj⟩,by simp only;omega⟩
      | some o=>
        have h16:=hol o rfl
        have hoI:¬ (o:Int)<0:=by omega
        rw[AZ hv] at hZj
        simp only[zY]
        have hw:=mB (n:=16*(o:Int)+(n:Int)) (by omega) (by omega)
        have hw64:=gu (n:=16*(o:Int)+(n:Int)) (by omega) (by omega)
        have hu:((UInt8.ofNat (16*o+n)).toNat:Int)=16*(o:Int)+(n:Int):=by
         rw[UInt8.toNat_ofNat'];omega
        have k1:=jm (T:=T) (p:=p) (lH true (b::r) (UInt8.ofNat (16*o+n)) (by simp only[List.length_cons,List.length_nil] at ho ⊢;omega))
        rw[hu] at k1
        generalize UInt8.ofNat (16*o+n)=u at *
        simp only[bB,aB,List.nil_append,List.cons_append] at k1
        simp(disch:=try exact dI) only[hdH,hltI,hc,ag,rdB,rdC,push_cast,seval]
        refine ab.pure hx rfl ?_
        simp(disch:=try exact dI) only[h34I,hnI,hoI,hw,push_cast,seval]
        refine ab.lentK k1 [1,2] rfl qsZ qsZ ?_
        simp(disch:=try exact dI) only[push_cast,seval]
        exact⟨(j+1,-1,b::(r++[u])),bT (by simp(disch:=try exact dI) only[hdH,rdB,rdC,push_cast,seval]),⟨by simp only;omega,by simp only[List.length_cons,List.length_append,List.length_nil] at ho ⊢;omega,none,rfl,(fun o h=>by cases h),hZj⟩,by simp only;omega⟩
   ·have hltI:¬ (j:Int)<(R.s.length:Int):=by omega
    obtain rfl:j=R.s.length:=by omega
    rw[List.drop_length,tD] at hZj
    subst hZj
    have hfa:=hf a 4
    simp only[rdB,rdC] at hfa
    generalize zY od=oi
    simp(disch:=try exact dI) only[hdH,hltI,rdB,rdC,push_cast,seval]
    refine ab.lentK hfa [0] rfl qsZ qsZ ?_
    simp(disch:=try exact dI) only[push_cast,seval]
    exact ap [] (by simp(disch:=try exact dI) only[bp,rdB,rdC,push_cast,seval])
end
end Go.Proofs.YtamoeblcphjbaaaGreatDoor
