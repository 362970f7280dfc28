/- A part of the proof. -/
import Derived.Test.YtamoeblcphjbaaaGreatDoorPaLP4
set_option maxHeartbeats 16000000
set_option maxRecDepth 100000
set_option linter.unusedVariables false
set_option linter.unusedSimpArgs false
-- many steps
namespace Go.Proofs.YtamoeblcphjbaaaGreatDoor
open Go Go.Ab
attribute [local irreducible] vc
def At:Option Nat→Int
 | none=>-1
 | some o=>o
def hdH (R:Rd)(a:Nat):Nat×Int×List UInt8→St
 | (j,o,[])=>⟨[(0,.ptr 0 0),(1,.pv (.int .i64 (a:Int))),(4,.ptr 1 0),(5,.pv (.int .i64 o)),(6,.pv (.int .i64 (j:Int)))],[(0,rdB R),(1,.cells 83 true [.pv .nilp,.pv .nils])],2⟩
 | (j,o,b::r)=>⟨[(0,.ptr 0 0),(1,.pv (.int .i64 (a:Int))),(4,.ptr 1 0),(5,.pv (.int .i64 o)),(6,.pv (.int .i64 (j:Int)))],[(0,rdB R),(1,.cells 83 true [.ptr 1 0,.row 2 1 0 (r.length+1)]),(2,.cells 5 false ((az (b::r)).map .pv))],3⟩
theorem uh {i:Nat}{o:Option Nat}{out:List UInt8}:en [] i o out = .short:=rfl
theorem Bt {c:UInt8}{r:List UInt8}{i:Nat}{out:List UInt8}(h:c.toNat=34):en (c::r) i none out = .done out (i+1):=by rw[en,if_pos ⟨h,rfl⟩]
theorem rR {c:UInt8}(h:c.toNat=34):eG c=none:=by unfold eG;rw[if_neg (by omega),if_neg (by omega),if_neg (by omega)]
theorem nr {c:UInt8}{r:List UInt8}{i:Nat}{o:Option Nat}{out:List UInt8}(h:¬ (c.toNat=34∧o=none))(hv:eG c=none):en (c::r) i o out = .bad i 13:=by rw[en,if_neg h,hv]
theorem Hl {c:UInt8}{r:List UInt8}{i n:Nat}{out:List UInt8}(hv:eG c=some n):en (c::r) i none out=en r (i+1) (some n) out:=by
 have h:¬ c.toNat=34:=fun h=>by rw[rR h] at hv;cases hv
 rw[en,if_neg (fun q=>h q.1),hv]
theorem Hk {c:UInt8}{r:List UInt8}{i n o:Nat}{out:List UInt8}(hv:eG c=some n):en (c::r) i (some o) out=en r (i+1) none (out++[UInt8.ofNat (16*o+n)]):=by
 rw[en,if_neg (fun q=>by cases q.2),hv]
section
variable {T:Nat}{p:PV}
theorem Gc (R:Rd)(a:Nat)(hs:R.s.length≤65536)(ha:a+1<R.s.length)(hE:R.e=0):aF Tryz.prog (bG T p) 1 161 [.ptr 0 0,.pv (.int .i64 (a:Int))] [rdB R] (.pv (.tup [])) [rdB (xw R a)]:=by
 have hf:=fun i e=>cR (T:=T) (p:=p) R i e
 unfold xw
 obtain⟨Z,hZ⟩:∃ Z,Z=en (R.s.drop (a+2)) (a+2) none []:=⟨_,rfl⟩
 rw[← hZ]
 refine aF.intro Lm (by simp[Sk]) ?_
 simp(disch:=try exact dI) only[Sk,push_cast,seval]
 refine jT [] (hdH R a) (fun y=>y.1≤R.s.length∧y.2.2.length≤y.1∧∃ od,At od=y.2.1∧(∀ o,od=some o→o<16)∧Z=en (R.s.drop y.1) y.1 od y.2.2) (fun y=>R.s.length - y.1) (a+2,-1,[]) ?_ ?_ ?_
 ·exact bz (by simp(disch:=try exact dI) only[hdH,rdB,rdC,push_cast,seval];omega)
 ·exact⟨by simp only;omega,by simp,none,rfl,by simp,hZ⟩
 rintro⟨j,od',out⟩ ⟨hj,ho,od,hod,hol,hZj⟩
 simp only at hj ho hod hZj
 subst hod
 cases out with
 | nil=>
   by_cases hlt:j<R.s.length
   ·obtain⟨c,hc⟩:∃ c,R.s[j]? = some c:=⟨_,List.getElem?_eq_getElem hlt⟩
    have hltI:(j:Int)<(R.s.length:Int):=by omega
    rw[aP hc] at hZj
    have hx:=toE (T:=T) (p:=p) (Bv c)
    have hcl:=c.toNat_lt
    cases hv:eG c with
    | none=>
      rw[lE,hv] at hx
      simp only at hx
      cases od with
      | none=>
        simp only[At]
        by_cases h34:c.toNat=34
        ·have h34I:((c.toNat:Int)=34)=True:=eq_true (by omega)
         rw[Bt h34] at hZj
         subst hZj
         have k1:=jr (T:=T) (p:=p) (yz false [] (by simp only[List.length_cons,List.length_nil] at ho ⊢;omega))
         simp only[bB,aB,stB] at k1
         simp only[bd]
         rw[if_neg (fun h=>by cases h.1)]
         simp(disch:=try exact dI) only[hdH,hltI,hc,ae,rdB,rdC,push_cast,seval]
         refine ab.pure hx rfl ?_
         simp(disch:=try exact dI) only[h34I,push_cast,seval]
         refine ab.lentK k1 [1] rfl qsZ qsZ ?_
         refine zgZ ?_
         exact am [] (by simp(disch:=try exact dI) only[rdB,rdC,push_cast,seval])
        ·have h34I:¬ (c.toNat:Int)=34:=by omega
         rw[nr (fun q=>h34 q.1) hv] at hZj
         subst hZj
         have hfa:=hf j 13
         simp only[rdB,rdC] at hfa
         simp(disch:=try exact dI) only[hdH,hltI,hc,ae,rdB,rdC,push_cast,seval]
         refine ab.pure hx rfl ?_
         simp(disch:=try exact dI) only[h34I,push_cast,seval]
         refine ab.lentK hfa [0] rfl qsZ qsZ ?_
         refine zgZ ?_
         exact am [] (by simp(disch:=try exact dI) only[bd,rdB,rdC,push_cast,seval])
      | some o=>
        have h16:=hol o rfl
        have hoI:¬ (o:Int)<0:=by omega
        simp only[At]
        rw[nr (fun q=>by cases q.2) hv] at hZj
        subst hZj
        have hfa:=hf j 13
        simp only[rdB,rdC] at hfa
        by_cases h34:c.toNat=34
        ·have h34I:((c.toNat:Int)=34)=True:=eq_true (by omega)
         simp(disch:=try exact dI) only[hdH,hltI,hc,ae,rdB,rdC,push_cast,seval]
         refine ab.pure hx rfl ?_
         simp(disch:=try exact dI) only[h34I,hoI,push_cast,seval]
         refine ab.lentK hfa [0] rfl qsZ qsZ ?_
         refine zgZ ?_
         exact am [] (by simp(disch:=try exact dI) only[bd,rdB,rdC,push_cast,seval])
        ·have h34I:¬ (c.toNat:Int)=34:=by omega
         simp(disch:=try exact dI) only[hdH,hltI,hc,ae,rdB,rdC,push_cast,seval]
         refine ab.pure hx rfl ?_
         simp(disch:=try exact dI) only[h34I,push_cast,seval]
         refine ab.lentK hfa [0] rfl qsZ qsZ ?_
         refine zgZ ?_
         exact am [] (by simp(disch:=try exact dI) only[bd,rdB,rdC,push_cast,seval])
    | some n=>
      rw[lE,hv] at hx
      simp only at hx
      have hn16:=gv hv
      have hnI:¬ (n:Int)<0:=by omega
      have h34:¬ c.toNat=34:=fun h=>by rw[rR h] at hv;cases hv
      have h34I:¬ (c.toNat:Int)=34:=by omega
      cases od with
      | none=>
        rw[Hl hv] at hZj
        simp only[At]
        simp(disch:=try exact dI) only[hdH,hltI,hc,ae,rdB,rdC,push_cast,seval]
        refine ab.pure hx rfl ?_
        simp(disch:=try exact dI) only[h34I,hnI,push_cast,seval]
        exact⟨(j+1,(n:Int),[]),bz (by simp(disch:=try exact dI) only[hdH,rdB,rdC,push_cast,seval]),⟨by simp only;omega,by simp only[List.length_cons,List.length_nil] at ho ⊢;omega,some n,rfl,(fun o h=>by cases h;exact hn16),hZj⟩,by simp only;omega⟩
      | some o=>
        have h16:=hol o rfl
        have hoI:¬ (o:Int)<0:=by omega
        rw[Hk hv] at hZj
        simp only[At]
        have hw:=e8 (n:=16*(o:Int)+(n:Int)) (by omega) (by omega)
        have hw64:=gC (n:=16*(o:Int)+(n:Int)) (by omega) (by omega)
        have hu:((UInt8.ofNat (16*o+n)).toNat:Int)=16*(o:Int)+(n:Int):=by
         rw[UInt8.toNat_ofNat'];omega
        have k1:=jr (T:=T) (p:=p) (sL false [] (UInt8.ofNat (16*o+n)) (by simp only[List.length_cons,List.length_nil] at ho ⊢;omega))
        rw[hu] at k1
        generalize UInt8.ofNat (16*o+n)=u at *
        simp only[bB,aB,List.nil_append,List.cons_append] at k1
        simp(disch:=try exact dI) only[hdH,hltI,hc,ae,rdB,rdC,push_cast,seval]
        refine ab.pure hx rfl ?_
        simp(disch:=try exact dI) only[h34I,hnI,hoI,hw,push_cast,seval]
        refine ab.lentK k1 [1] rfl qsZ qsZ ?_
        refine zgZ ?_
        exact⟨(j+1,-1,[u]),bz (by simp(disch:=try exact dI) only[hdH,rdB,rdC,push_cast,seval]),⟨by simp only;omega,by simp only[List.length_cons,List.length_append,List.length_nil] at ho ⊢;omega,none,rfl,(fun o h=>by cases h),hZj⟩,by simp only;omega⟩
   ·have hltI:¬ (j:Int)<(R.s.length:Int):=by omega
    obtain rfl:j=R.s.length:=by omega
    rw[List.drop_length,uh] at hZj
    subst hZj
    have hfa:=hf a 4
    simp only[rdB,rdC] at hfa
    generalize At od=oi
    simp(disch:=try exact dI) only[hdH,hltI,rdB,rdC,push_cast,seval]
    refine ab.lentK hfa [0] rfl qsZ qsZ ?_
    refine zgZ ?_
    exact am [] (by simp(disch:=try exact dI) only[bd,rdB,rdC,push_cast,seval])
 | cons b r=>
   by_cases hlt:j<R.s.length
   ·obtain⟨c,hc⟩:∃ c,R.s[j]? = some c:=⟨_,List.getElem?_eq_getElem hlt⟩
    have hltI:(j:Int)<(R.s.length:Int):=by omega
    rw[aP hc] at hZj
    have hx:=toE (T:=T) (p:=p) (Bv c)
    have hcl:=c.toNat_lt
    cases hv:eG c with
    | none=>
      rw[lE,hv] at hx
      simp only at hx
      cases od with
      | none=>
        simp only[At]
        by_cases h34:c.toNat=34
        ·have h34I:((c.toNat:Int)=34)=True:=eq_true (by omega)
         rw[Bt h34] at hZj
         subst hZj
         have k1:=jr (T:=T) (p:=p) (yz true (b::r) (by simp only[List.length_cons,List.length_nil] at ho ⊢;omega))
         simp only[bB,aB,stB] at k1
         simp only[bd]
         rw[if_neg (fun h=>by cases h.1)]
         simp(disch:=try exact dI) only[hdH,hltI,hc,ae,rdB,rdC,push_cast,seval]
         refine ab.pure hx rfl ?_
         simp(disch:=try exact dI) only[h34I,push_cast,seval]
         refine ab.lentK k1 [1,2] rfl qsZ qsZ ?_
         refine zgZ ?_
         exact am [] (by simp(disch:=try exact dI) only[rdB,rdC,push_cast,seval])
        ·have h34I:¬ (c.toNat:Int)=34:=by omega
         rw[nr (fun q=>h34 q.1) hv] at hZj
         subst hZj
         have hfa:=hf j 13
         simp only[rdB,rdC] at hfa
         simp(disch:=try exact dI) only[hdH,hltI,hc,ae,rdB,rdC,push_cast,seval]
         refine ab.pure hx rfl ?_
         simp(disch:=try exact dI) only[h34I,push_cast,seval]
         refine ab.lentK hfa [0] rfl qsZ qsZ ?_
         refine zgZ ?_
         exact am [] (by simp(disch:=try exact dI) only[bd,rdB,rdC,push_cast,seval])
      | some o=>
        have h16:=hol o rfl
        have hoI:¬ (o:Int)<0:=by omega
        simp only[At]
        rw[nr (fun q=>by cases q.2) hv] at hZj
        subst hZj
        have hfa:=hf j 13
        simp only[rdB,rdC] at hfa
        by_cases h34:c.toNat=34
        ·have h34I:((c.toNat:Int)=34)=True:=eq_true (by omega)
         simp(disch:=try exact dI) only[hdH,hltI,hc,ae,rdB,rdC,push_cast,seval]
         refine ab.pure hx rfl ?_
         simp(disch:=try exact dI) only[h34I,hoI,push_cast,seval]
         refine ab.lentK hfa [0] rfl qsZ qsZ ?_
         refine zgZ ?_
         exact am [] (by simp(disch:=try exact dI) only[bd,rdB,rdC,push_cast,seval])
        ·have h34I:¬ (c.toNat:Int)=34:=by omega
         simp(disch:=try exact dI) only[hdH,hltI,hc,ae,rdB,rdC,push_cast,seval]
         refine ab.pure hx rfl ?_
         simp(disch:=try exact dI) only[h34I,push_cast,seval]
         refine ab.lentK hfa [0] rfl qsZ qsZ ?_
         refine zgZ ?_
         exact am [] (by simp(disch:=try exact dI) only[bd,rdB,rdC,push_cast,seval])
    | some n=>
      rw[lE,hv] at hx
      simp only at hx
      have hn16:=gv hv
      have hnI:¬ (n:Int)<0:=by omega
      have h34:¬ c.toNat=34:=fun h=>by rw[rR h] at hv;cases hv
      have h34I:¬ (c.toNat:Int)=34:=by omega
      cases od with
      | none=>
        rw[Hl hv] at hZj
        simp only[At]
        simp(disch:=try exact dI) only[hdH,hltI,hc,ae,rdB,rdC,push_cast,seval]
        refine ab.pure hx rfl ?_
        simp(disch:=try exact dI) only[h34I,hnI,push_cast,seval]
        exact⟨(j+1,(n:Int),(b::r)),bz (by simp(disch:=try exact dI) only[hdH,rdB,rdC,push_cast,seval]),⟨by simp only;omega,by simp only[List.length_cons,List.length_nil] at ho ⊢;omega,some n,rfl,(fun o h=>by cases h;exact hn16),hZj⟩,by simp only;omega⟩
      | some o=>
        have h16:=hol o rfl
        have hoI:¬ (o:Int)<0:=by omega
        rw[Hk hv] at hZj
        simp only[At]
        have hw:=e8 (n:=16*(o:Int)+(n:Int)) (by omega) (by omega)
        have hw64:=gC (n:=16*(o:Int)+(n:Int)) (by omega) (by omega)
        have hu:((UInt8.ofNat (16*o+n)).toNat:Int)=16*(o:Int)+(n:Int):=by
         rw[UInt8.toNat_ofNat'];omega
        have k1:=jr (T:=T) (p:=p) (sL true (b::r) (UInt8.ofNat (16*o+n)) (by simp only[List.length_cons,List.length_nil] at ho ⊢;omega))
        rw[hu] at k1
        generalize UInt8.ofNat (16*o+n)=u at *
        simp only[bB,aB,List.nil_append,List.cons_append] at k1
        simp(disch:=try exact dI) only[hdH,hltI,hc,ae,rdB,rdC,push_cast,seval]
        refine ab.pure hx rfl ?_
        simp(disch:=try exact dI) only[h34I,hnI,hoI,hw,push_cast,seval]
        refine ab.lentK k1 [1,2] rfl qsZ qsZ ?_
        refine zgZ ?_
        exact⟨(j+1,-1,b::(r++[u])),bz (by simp(disch:=try exact dI) only[hdH,rdB,rdC,push_cast,seval]),⟨by simp only;omega,by simp only[List.length_cons,List.length_append,List.length_nil] at ho ⊢;omega,none,rfl,(fun o h=>by cases h),hZj⟩,by simp only;omega⟩
   ·have hltI:¬ (j:Int)<(R.s.length:Int):=by omega
    obtain rfl:j=R.s.length:=by omega
    rw[List.drop_length,uh] at hZj
    subst hZj
    have hfa:=hf a 4
    simp only[rdB,rdC] at hfa
    generalize At od=oi
    simp(disch:=try exact dI) only[hdH,hltI,rdB,rdC,push_cast,seval]
    refine ab.lentK hfa [0] rfl qsZ qsZ ?_
    refine zgZ ?_
    exact am [] (by simp(disch:=try exact dI) only[bd,rdB,rdC,push_cast,seval])
end
end Go.Proofs.YtamoeblcphjbaaaGreatDoor
