/- A part of the proof for LiteralQuotesCardSaid. -/
import Derived.Test.YtamoeblcphjbaaaGreatDoorQuLP4
set_option maxRecDepth 100000
set_option linter.unusedVariables false
set_option linter.unusedSimpArgs false
-- many steps
namespace Go.Proofs.YtamoeblcphjbaaaGreatDoor
open Go Go.Ab
attribute [local irreducible] vc
def y4:Option Nat→Int
 | none=>-1
 | some o=>o
def hdH (R:Rd)(a:Nat):Nat×Int×List UInt8→St
 | (j,o,[])=>⟨[(0,.ptr 0 0),(1,.pv (.int .i64 (a:Int))),(4,.ptr 1 0),(5,.pv (.int .i64 o)),(6,.pv (.int .i64 (j:Int)))],[(0,rdB R),(1,.cells 83 true [.pv .nilp,.pv .nils])],2⟩
 | (j,o,b::r)=>⟨[(0,.ptr 0 0),(1,.pv (.int .i64 (a:Int))),(4,.ptr 1 0),(5,.pv (.int .i64 o)),(6,.pv (.int .i64 (j:Int)))],[(0,rdB R),(1,.cells 83 true [.ptr 1 0,.row 2 1 0 (r.length+1)]),(2,.cells 5 false ((az (b::r)).map .pv))],3⟩
theorem rU {i:Nat}{o:Option Nat}{out:List UInt8}:io [] i o out = .short:=rfl
theorem p9 {c:UInt8}{r:List UInt8}{i:Nat}{out:List UInt8}(h:c.toNat=34):io (c::r) i none out = .done out (i+1):=by rw[io,if_pos ⟨h,rfl⟩]
theorem p8 {c:UInt8}(h:c.toNat=34):nH c=none:=by unfold nH;rw[if_neg (by omega),if_neg (by omega),if_neg (by omega)]
theorem lu {c:UInt8}{r:List UInt8}{i:Nat}{o:Option Nat}{out:List UInt8}(h:¬ (c.toNat=34∧o=none))(hv:nH c=none):io (c::r) i o out = .bad i 13:=by rw[io,if_neg h,hv]
theorem Am {c:UInt8}{r:List UInt8}{i n:Nat}{out:List UInt8}(hv:nH c=some n):io (c::r) i none out=io r (i+1) (some n) out:=by
 have h:¬ c.toNat=34:=fun h=>by rw[p8 h] at hv;cases hv
 rw[io,if_neg (fun q=>h q.1),hv]
theorem Al {c:UInt8}{r:List UInt8}{i n o:Nat}{out:List UInt8}(hv:nH c=some n):io (c::r) i (some o) out=io r (i+1) none (out++[UInt8.ofNat (16*o+n)]):=by
 rw[io,if_neg (fun q=>by cases q.2),hv]
section
variable {T:Nat}{p:PV}
set_option maxHeartbeats 8000000 in
theorem Fv (R:Rd)(a:Nat)(hs:R.s.length≤65536)(ha:a+1<R.s.length)(hE:R.e=0):aL Tryz.prog (di T p) 1 161 [.ptr 0 0,.pv (.int .i64 (a:Int))] [rdB R] (.pv (.tup [])) [rdB (rS R a)]:=by
 have hf:=fun i e=>cl (T:=T) (p:=p) R i e
 unfold rS
 obtain⟨Z,hZ⟩:∃ Z,Z=io (R.s.drop (a+2)) (a+2) none []:=⟨_,rfl⟩
 rw[← hZ]
 refine aL.intro Ky (by simp[Qi]) ?_
 simp(maxSteps:=9^7) (disch:=first|exact dI|fail) only[Qi,push_cast,seval]
 refine iz [] (hdH R a) (fun y=>y.1≤R.s.length∧y.2.2.length≤y.1∧∃ od,y4 od=y.2.1∧(∀ o,od=some o→o<16)∧Z=io (R.s.drop y.1) y.1 od y.2.2) (fun y=>R.s.length - y.1) (a+2,-1,[]) ?_ ?_ ?_
 ·exact bM (by simp(maxSteps:=9^7) (disch:=first|exact dI|fail) only[hdH,rdB,rdC,push_cast,seval];omega)
 ·exact⟨by simp only;omega,by simp,none,rfl,by simp,hZ⟩
 rintro⟨j,od',out⟩ ⟨hj,ho,od,hod,hol,hZj⟩
 simp only at hj ho hod hZj
 subst hod
 cases out with
 | nil=>
   by_cases hlt:j<R.s.length
   ·obtain⟨c,hc⟩:∃ c,R.s[j]? = some c:=⟨_,List.getElem?_eq_getElem hlt⟩
    have hltI:(j:Int)<(R.s.length:Int):=by omega
    rw[bx hc] at hZj
    have hx:=toE (T:=T) (p:=p) (Ao c)
    have hcl:=c.toNat_lt
    cases hv:nH c with
    | none=>
      rw[GE,hv] at hx
      simp only at hx
      cases od with
      | none=>
        simp only[y4]
        by_cases h34:c.toNat=34
        ·have h34I:((c.toNat:Int)=34)=True:=eq_true (by omega)
         rw[p9 h34] at hZj
         subst hZj
         have k1:=gV (T:=T) (p:=p) (iC false [] (by simp only[List.length_cons,List.length_nil] at ho ⊢;omega))
         simp only[bB,aB,stB] at k1
         simp only[bd]
         rw[if_neg (fun h=>by cases h.1)]
         simp(maxSteps:=9^7) (disch:=first|exact dI|fail) only[hdH,hltI,hc,ag,rdB,rdC,push_cast,seval]
         refine ab.pure hx rfl ?_
         simp(maxSteps:=9^7) (disch:=first|exact dI|fail) only[h34I,push_cast,seval]
         refine ab.lentK k1 [1] rfl (by simp(maxSteps:=9^7) (disch:=first|exact dI|fail) only[push_cast,seval]) (by simp(maxSteps:=9^7) (disch:=first|exact dI|fail) only[push_cast,seval]) ?_
         simp(maxSteps:=9^7) (disch:=first|exact dI|fail) only[push_cast,seval]
         exact ap [] (by simp(maxSteps:=9^7) (disch:=first|exact dI|fail) only[rdB,rdC,push_cast,seval])
        ·have h34I:¬ (c.toNat:Int)=34:=by omega
         rw[lu (fun q=>h34 q.1) hv] at hZj
         subst hZj
         have hfa:=hf j 13
         simp only[rdB,rdC] at hfa
         simp(maxSteps:=9^7) (disch:=first|exact dI|fail) only[hdH,hltI,hc,ag,rdB,rdC,push_cast,seval]
         refine ab.pure hx rfl ?_
         simp(maxSteps:=9^7) (disch:=first|exact dI|fail) only[h34I,push_cast,seval]
         refine ab.lentK hfa [0] rfl (by simp(maxSteps:=9^7) (disch:=first|exact dI|fail) only[push_cast,seval]) (by simp(maxSteps:=9^7) (disch:=first|exact dI|fail) only[push_cast,seval]) ?_
         simp(maxSteps:=9^7) (disch:=first|exact dI|fail) only[push_cast,seval]
         exact ap [] (by simp(maxSteps:=9^7) (disch:=first|exact dI|fail) only[bd,rdB,rdC,push_cast,seval])
      | some o=>
        have h16:=hol o rfl
        have hoI:¬ (o:Int)<0:=by omega
        simp only[y4]
        rw[lu (fun q=>by cases q.2) hv] at hZj
        subst hZj
        have hfa:=hf j 13
        simp only[rdB,rdC] at hfa
        by_cases h34:c.toNat=34
        ·have h34I:((c.toNat:Int)=34)=True:=eq_true (by omega)
         simp(maxSteps:=9^7) (disch:=first|exact dI|fail) only[hdH,hltI,hc,ag,rdB,rdC,push_cast,seval]
         refine ab.pure hx rfl ?_
         simp(maxSteps:=9^7) (disch:=first|exact dI|fail) only[h34I,hoI,push_cast,seval]
         refine ab.lentK hfa [0] rfl (by simp(maxSteps:=9^7) (disch:=first|exact dI|fail) only[push_cast,seval]) (by simp(maxSteps:=9^7) (disch:=first|exact dI|fail) only[push_cast,seval]) ?_
         simp(maxSteps:=9^7) (disch:=first|exact dI|fail) only[push_cast,seval]
         exact ap [] (by simp(maxSteps:=9^7) (disch:=first|exact dI|fail) only[bd,rdB,rdC,push_cast,seval])
        ·have h34I:¬ (c.toNat:Int)=34:=by omega
         simp(maxSteps:=9^7) (disch:=first|exact dI|fail) only[hdH,hltI,hc,ag,rdB,rdC,push_cast,seval]
         refine ab.pure hx rfl ?_
         simp(maxSteps:=9^7) (disch:=first|exact dI|fail) only[h34I,push_cast,seval]
         refine ab.lentK hfa [0] rfl (by simp(maxSteps:=9^7) (disch:=first|exact dI|fail) only[push_cast,seval]) (by simp(maxSteps:=9^7) (disch:=first|exact dI|fail) only[push_cast,seval]) ?_
         simp(maxSteps:=9^7) (disch:=first|exact dI|fail) only[push_cast,seval]
         exact ap [] (by simp(maxSteps:=9^7) (disch:=first|exact dI|fail) only[bd,rdB,rdC,push_cast,seval])
    | some n=>
      rw[GE,hv] at hx
      simp only at hx
      have hn16:=ln hv
      have hnI:¬ (n:Int)<0:=by omega
      have h34:¬ c.toNat=34:=fun h=>by rw[p8 h] at hv;cases hv
      have h34I:¬ (c.toNat:Int)=34:=by omega
      cases od with
      | none=>
        rw[Am hv] at hZj
        simp only[y4]
        simp(maxSteps:=9^7) (disch:=first|exact dI|fail) only[hdH,hltI,hc,ag,rdB,rdC,push_cast,seval]
        refine ab.pure hx rfl ?_
        simp(maxSteps:=9^7) (disch:=first|exact dI|fail) only[h34I,hnI,push_cast,seval]
        exact⟨(j+1,(n:Int),[]),bM (by simp(maxSteps:=9^7) (disch:=first|exact dI|fail) only[hdH,rdB,rdC,push_cast,seval]),⟨by simp only;omega,by simp only[List.length_cons,List.length_nil] at ho ⊢;omega,some n,rfl,(fun o h=>by cases h;exact hn16),hZj⟩,by simp only;omega⟩
      | some o=>
        have h16:=hol o rfl
        have hoI:¬ (o:Int)<0:=by omega
        rw[Al hv] at hZj
        simp only[y4]
        have hw:=kG (n:=16*(o:Int)+(n:Int)) (by omega) (by omega)
        have hw64:=fm (n:=16*(o:Int)+(n:Int)) (by omega) (by omega)
        have hu:((UInt8.ofNat (16*o+n)).toNat:Int)=16*(o:Int)+(n:Int):=by
         rw[UInt8.toNat_ofNat'];omega
        have k1:=gV (T:=T) (p:=p) (jV false [] (UInt8.ofNat (16*o+n)) (by simp only[List.length_cons,List.length_nil] at ho ⊢;omega))
        rw[hu] at k1
        generalize UInt8.ofNat (16*o+n)=u at *
        simp only[bB,aB,List.nil_append,List.cons_append] at k1
        simp(maxSteps:=9^7) (disch:=first|exact dI|fail) only[hdH,hltI,hc,ag,rdB,rdC,push_cast,seval]
        refine ab.pure hx rfl ?_
        simp(maxSteps:=9^7) (disch:=first|exact dI|fail) only[h34I,hnI,hoI,hw,push_cast,seval]
        refine ab.lentK k1 [1] rfl (by simp(maxSteps:=9^7) (disch:=first|exact dI|fail) only[push_cast,seval]) (by simp(maxSteps:=9^7) (disch:=first|exact dI|fail) only[push_cast,seval]) ?_
        simp(maxSteps:=9^7) (disch:=first|exact dI|fail) only[push_cast,seval]
        exact⟨(j+1,-1,[u]),bM (by simp(maxSteps:=9^7) (disch:=first|exact dI|fail) only[hdH,rdB,rdC,push_cast,seval]),⟨by simp only;omega,by simp only[List.length_cons,List.length_append,List.length_nil] at ho ⊢;omega,none,rfl,(fun o h=>by cases h),hZj⟩,by simp only;omega⟩
   ·have hltI:¬ (j:Int)<(R.s.length:Int):=by omega
    obtain rfl:j=R.s.length:=by omega
    rw[List.drop_length,rU] at hZj
    subst hZj
    have hfa:=hf a 4
    simp only[rdB,rdC] at hfa
    generalize y4 od=oi
    simp(maxSteps:=9^7) (disch:=first|exact dI|fail) only[hdH,hltI,rdB,rdC,push_cast,seval]
    refine ab.lentK hfa [0] rfl (by simp(maxSteps:=9^7) (disch:=first|exact dI|fail) only[push_cast,seval]) (by simp(maxSteps:=9^7) (disch:=first|exact dI|fail) only[push_cast,seval]) ?_
    simp(maxSteps:=9^7) (disch:=first|exact dI|fail) only[push_cast,seval]
    exact ap [] (by simp(maxSteps:=9^7) (disch:=first|exact dI|fail) only[bd,rdB,rdC,push_cast,seval])
 | cons b r=>
   by_cases hlt:j<R.s.length
   ·obtain⟨c,hc⟩:∃ c,R.s[j]? = some c:=⟨_,List.getElem?_eq_getElem hlt⟩
    have hltI:(j:Int)<(R.s.length:Int):=by omega
    rw[bx hc] at hZj
    have hx:=toE (T:=T) (p:=p) (Ao c)
    have hcl:=c.toNat_lt
    cases hv:nH c with
    | none=>
      rw[GE,hv] at hx
      simp only at hx
      cases od with
      | none=>
        simp only[y4]
        by_cases h34:c.toNat=34
        ·have h34I:((c.toNat:Int)=34)=True:=eq_true (by omega)
         rw[p9 h34] at hZj
         subst hZj
         have k1:=gV (T:=T) (p:=p) (iC true (b::r) (by simp only[List.length_cons,List.length_nil] at ho ⊢;omega))
         simp only[bB,aB,stB] at k1
         simp only[bd]
         rw[if_neg (fun h=>by cases h.1)]
         simp(maxSteps:=9^7) (disch:=first|exact dI|fail) only[hdH,hltI,hc,ag,rdB,rdC,push_cast,seval]
         refine ab.pure hx rfl ?_
         simp(maxSteps:=9^7) (disch:=first|exact dI|fail) only[h34I,push_cast,seval]
         refine ab.lentK k1 [1,2] rfl (by simp(maxSteps:=9^7) (disch:=first|exact dI|fail) only[push_cast,seval]) (by simp(maxSteps:=9^7) (disch:=first|exact dI|fail) only[push_cast,seval]) ?_
         simp(maxSteps:=9^7) (disch:=first|exact dI|fail) only[push_cast,seval]
         exact ap [] (by simp(maxSteps:=9^7) (disch:=first|exact dI|fail) only[rdB,rdC,push_cast,seval])
        ·have h34I:¬ (c.toNat:Int)=34:=by omega
         rw[lu (fun q=>h34 q.1) hv] at hZj
         subst hZj
         have hfa:=hf j 13
         simp only[rdB,rdC] at hfa
         simp(maxSteps:=9^7) (disch:=first|exact dI|fail) only[hdH,hltI,hc,ag,rdB,rdC,push_cast,seval]
         refine ab.pure hx rfl ?_
         simp(maxSteps:=9^7) (disch:=first|exact dI|fail) only[h34I,push_cast,seval]
         refine ab.lentK hfa [0] rfl (by simp(maxSteps:=9^7) (disch:=first|exact dI|fail) only[push_cast,seval]) (by simp(maxSteps:=9^7) (disch:=first|exact dI|fail) only[push_cast,seval]) ?_
         simp(maxSteps:=9^7) (disch:=first|exact dI|fail) only[push_cast,seval]
         exact ap [] (by simp(maxSteps:=9^7) (disch:=first|exact dI|fail) only[bd,rdB,rdC,push_cast,seval])
      | some o=>
        have h16:=hol o rfl
        have hoI:¬ (o:Int)<0:=by omega
        simp only[y4]
        rw[lu (fun q=>by cases q.2) hv] at hZj
        subst hZj
        have hfa:=hf j 13
        simp only[rdB,rdC] at hfa
        by_cases h34:c.toNat=34
        ·have h34I:((c.toNat:Int)=34)=True:=eq_true (by omega)
         simp(maxSteps:=9^7) (disch:=first|exact dI|fail) only[hdH,hltI,hc,ag,rdB,rdC,push_cast,seval]
         refine ab.pure hx rfl ?_
         simp(maxSteps:=9^7) (disch:=first|exact dI|fail) only[h34I,hoI,push_cast,seval]
         refine ab.lentK hfa [0] rfl (by simp(maxSteps:=9^7) (disch:=first|exact dI|fail) only[push_cast,seval]) (by simp(maxSteps:=9^7) (disch:=first|exact dI|fail) only[push_cast,seval]) ?_
         simp(maxSteps:=9^7) (disch:=first|exact dI|fail) only[push_cast,seval]
         exact ap [] (by simp(maxSteps:=9^7) (disch:=first|exact dI|fail) only[bd,rdB,rdC,push_cast,seval])
        ·have h34I:¬ (c.toNat:Int)=34:=by omega
         simp(maxSteps:=9^7) (disch:=first|exact dI|fail) only[hdH,hltI,hc,ag,rdB,rdC,push_cast,seval]
         refine ab.pure hx rfl ?_
         simp(maxSteps:=9^7) (disch:=first|exact dI|fail) only[h34I,push_cast,seval]
         refine ab.lentK hfa [0] rfl (by simp(maxSteps:=9^7) (disch:=first|exact dI|fail) only[push_cast,seval]) (by simp(maxSteps:=9^7) (disch:=first|exact dI|fail) only[push_cast,seval]) ?_
         simp(maxSteps:=9^7) (disch:=first|exact dI|fail) only[push_cast,seval]
         exact ap [] (by simp(maxSteps:=9^7) (disch:=first|exact dI|fail) only[bd,rdB,rdC,push_cast,seval])
    | some n=>
      rw[GE,hv] at hx
      simp only at hx
      have hn16:=ln hv
      have hnI:¬ (n:Int)<0:=by omega
      have h34:¬ c.toNat=34:=fun h=>by rw[p8 h] at hv;cases hv
      have h34I:¬ (c.toNat:Int)=34:=by omega
      cases od with
      | none=>
        rw[Am hv] at hZj
        simp only[y4]
        simp(maxSteps:=9^7) (disch:=first|exact dI|fail) only[hdH,hltI,hc,ag,rdB,rdC,push_cast,seval]
        refine ab.pure hx rfl ?_
        simp(maxSteps:=9^7) (disch:=first|exact dI|fail) only[h34I,hnI,push_cast,seval]
        exact⟨(j+1,(n:Int),(b::r)),bM (by simp(maxSteps:=9^7) (disch:=first|exact dI|fail) only[hdH,rdB,rdC,push_cast,seval]),⟨by simp only;omega,by simp only[List.length_cons,List.length_nil] at ho ⊢;omega,some n,rfl,(fun o h=>by cases h;exact hn16),hZj⟩,by simp only;omega⟩
      | some o=>
        have h16:=hol o rfl
        have hoI:¬ (o:Int)<0:=by omega
        rw[Al hv] at hZj
        simp only[y4]
        have hw:=kG (n:=16*(o:Int)+(n:Int)) (by omega) (by omega)
        have hw64:=fm (n:=16*(o:Int)+(n:Int)) (by omega) (by omega)
        have hu:((UInt8.ofNat (16*o+n)).toNat:Int)=16*(o:Int)+(n:Int):=by
         rw[UInt8.toNat_ofNat'];omega
        have k1:=gV (T:=T) (p:=p) (jV true (b::r) (UInt8.ofNat (16*o+n)) (by simp only[List.length_cons,List.length_nil] at ho ⊢;omega))
        rw[hu] at k1
        generalize UInt8.ofNat (16*o+n)=u at *
        simp only[bB,aB,List.nil_append,List.cons_append] at k1
        simp(maxSteps:=9^7) (disch:=first|exact dI|fail) only[hdH,hltI,hc,ag,rdB,rdC,push_cast,seval]
        refine ab.pure hx rfl ?_
        simp(maxSteps:=9^7) (disch:=first|exact dI|fail) only[h34I,hnI,hoI,hw,push_cast,seval]
        refine ab.lentK k1 [1,2] rfl (by simp(maxSteps:=9^7) (disch:=first|exact dI|fail) only[push_cast,seval]) (by simp(maxSteps:=9^7) (disch:=first|exact dI|fail) only[push_cast,seval]) ?_
        simp(maxSteps:=9^7) (disch:=first|exact dI|fail) only[push_cast,seval]
        exact⟨(j+1,-1,b::(r++[u])),bM (by simp(maxSteps:=9^7) (disch:=first|exact dI|fail) only[hdH,rdB,rdC,push_cast,seval]),⟨by simp only;omega,by simp only[List.length_cons,List.length_append,List.length_nil] at ho ⊢;omega,none,rfl,(fun o h=>by cases h),hZj⟩,by simp only;omega⟩
   ·have hltI:¬ (j:Int)<(R.s.length:Int):=by omega
    obtain rfl:j=R.s.length:=by omega
    rw[List.drop_length,rU] at hZj
    subst hZj
    have hfa:=hf a 4
    simp only[rdB,rdC] at hfa
    generalize y4 od=oi
    simp(maxSteps:=9^7) (disch:=first|exact dI|fail) only[hdH,hltI,rdB,rdC,push_cast,seval]
    refine ab.lentK hfa [0] rfl (by simp(maxSteps:=9^7) (disch:=first|exact dI|fail) only[push_cast,seval]) (by simp(maxSteps:=9^7) (disch:=first|exact dI|fail) only[push_cast,seval]) ?_
    simp(maxSteps:=9^7) (disch:=first|exact dI|fail) only[push_cast,seval]
    exact ap [] (by simp(maxSteps:=9^7) (disch:=first|exact dI|fail) only[bd,rdB,rdC,push_cast,seval])
end
end Go.Proofs.YtamoeblcphjbaaaGreatDoor
