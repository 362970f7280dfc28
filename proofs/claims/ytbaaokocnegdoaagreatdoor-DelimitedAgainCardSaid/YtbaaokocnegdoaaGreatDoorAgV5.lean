/- A part of the proof. -/
import Derived.Test.YtbaaokocnegdoaaGreatDoorAgV2
set_option linter.unusedVariables false
set_option linter.unusedSimpArgs false
set_option maxHeartbeats 16000000
set_option maxRecDepth 100000
namespace Go.Proofs.YtbaaokocnegdoaaGreatDoor
open Go Go.Ab
attribute [local irreducible] vc
def xB (L:List UInt8)(sep:UInt8)(C:List Cel)(Pl:List Nat)(wr:Nat)(er:Int)(a:Nat):Blk:=
 .cells 158 true [.pv (.str L),.pv (.int .u8 (sep.toNat:Int)),.pv (.int .i64 (a:Int)),.olist 2 2 (C.map g9),.olist 3 1 (Pl.map oJ),.pv (.int .i64 (wr:Int)),.pv (.int .i64 er)]
def hdQ (L:List UInt8)(sep:UInt8)(C:List Cel)(Pl:List Nat)(wr:Nat)(er:Int):List UInt8×Nat->St
 | ([],a)=>⟨[(0,.ptr 0 0),(3,.ptr 1 0)],[(0,xB L sep C Pl wr er a),(1,.cells 89 true [.pv .nilp,.pv .nils]),(2,.tok 66 2),(3,.tok 3 1)],4⟩
 | (b::r,a)=>⟨[(0,.ptr 0 0),(3,.ptr 1 0)],[(0,xB L sep C Pl wr er a),(1,.cells 89 true [.ptr 1 0,.row 4 1 0 (r.length+1)]),(2,.tok 66 2),(3,.tok 3 1),(4,.cells 5 false ((aF (b::r)).map .pv))],5⟩
def exQ (L:List UInt8)(sep:UInt8)(C:List Cel)(Pl:List Nat)(wr:Nat)(er:Int):List UInt8×Nat->St
 | ([],a)=>⟨[(0,.ptr 0 0),(3,.ptr 1 0)],[(0,xB L sep C Pl wr er a),(1,.cells 89 true [.ptr 1 0,.pv .nils]),(2,.tok 66 2),(3,.tok 3 1)],4⟩
 | (b::r,a)=>⟨[(0,.ptr 0 0),(3,.ptr 1 0)],[(0,xB L sep C Pl wr er a),(1,.cells 89 true [.ptr 1 0,.row 4 1 0 (r.length+1)]),(2,.tok 66 2),(3,.tok 3 1),(4,.cells 5 false ((aF (b::r)).map .pv))],5⟩
theorem Cs (L:List UInt8)(sep:UInt8)(x:Sx)(hL:L.length<=65536)(hx:x.pos<=L.length)(hc:x.cells.length<=64) :
  bk Tryz.prog au 1 160 [.ptr 0 0] (bX L sep 2 x) (.pv (bR (kM x (f9 L sep x.pos)).1)) (bX L sep (kM x (f9 L sep x.pos)).1 (kM x (f9 L sep x.pos)).2):=by
 obtain⟨p,C,Pl,wr,er⟩:=x
 simp only at hx hc ⊢
 obtain⟨T,hT⟩:∃ T,T=(bD (L.drop p)).map (rr [] p):=⟨_,rfl⟩
 have hQ:f9 L sep p=bG L sep T:=by rw[f9,hT]
 rw[hQ]
 refine bk.intro Ty.2 (by simp[Ty]) ?_
 simp(maxSteps:=9^7) (disch:=try exact dI) only[Ty,bX,J6,push_cast,seval]
 refine jK (hdQ L sep C Pl wr er) (fun y=>y.2<=L.length/\y.1.length<=y.2/\T=(bD (L.drop y.2)).map (rr y.1 y.2)) (fun y=>L.length - y.2) ([],p) [0,3] (exQ L sep C Pl wr er) (fun y=>y.2<=L.length/\y.1.length<=y.2/\T=some y) ?_ ?_ ?_ ?_
 ·exact aR (by simp(maxSteps:=9^7) (disch:=try exact dI) only[hdQ,xB,push_cast,seval])
 ·exact⟨hx,by simp,hT⟩
 ·rintro⟨t,a⟩ ⟨h1,h2,h3⟩
  simp only at h1 h2 h3
  rcases m4 34 (L.drop a) 0 with ⟨hf,hn⟩ | ⟨m,hf,hm,hn⟩
  ·have hq:=mI hn
   rw[hq] at h3
   have hI:=n8 (L.drop a) 34
   rw[show ((34:Int).toNat.toUInt8)=34 from rfl,hf] at hI
   have hF:=lD L sep ⟨a,C,Pl,wr,er⟩ L.length 29
   rw[bX,eN] at hF
   rw[h3,Option.map_none,bG,kM]
   cases t with
   | nil=>
     simp(maxSteps:=9^7) (disch:=try exact dI) only[hdQ,xB,List.take_length,push_cast,seval]
     refine ab.pure hI rfl ?_
     simp(maxSteps:=9^7) (disch:=try exact dI) only[push_cast,seval]
     refine ab.lentK hF [0,2,3] rfl qsZ qsZ ?_
     simp(maxSteps:=9^7) (disch:=try exact dI) only[bX,eM,push_cast,seval]
     exact aA [] (by simp(maxSteps:=9^7) (disch:=try exact dI) only[bR,push_cast,seval])
   | cons b r=>
     simp(maxSteps:=9^7) (disch:=try exact dI) only[hdQ,xB,List.take_length,push_cast,seval]
     refine ab.pure hI rfl ?_
     simp(maxSteps:=9^7) (disch:=try exact dI) only[push_cast,seval]
     refine ab.lentK hF [0,2,3] rfl qsZ qsZ ?_
     simp(maxSteps:=9^7) (disch:=try exact dI) only[bX,eM,push_cast,seval]
     exact aA [] (by simp(maxSteps:=9^7) (disch:=try exact dI) only[bR,push_cast,seval])
  ·rw[Nat.zero_add] at hf
   have hm1:L[a+m]? = some 34:=by rw[<- List.getElem?_drop];exact hm
   have hm2:=(List.getElem?_eq_some_iff.1 hm1).1
   have hI:=n8 (L.drop a) 34
   rw[show ((34:Int).toNat.toUInt8)=34 from rfl,hf] at hI
   obtain⟨k,hk⟩:∃ k,k=(L.drop a).take m:=⟨_,rfl⟩
   have hkl:k.length=m:=by rw[hk];simp;omega
   have ek:List.drop a (List.take (a+m) L)=k:=by rw[hk,List.drop_take];congr 1;omega
   rw[By hm hn,<- hk] at h3
   obtain⟨q,hq⟩:∃ q,q=a+m+1:=⟨_,rfl⟩
   have ec:(a:Int)+((m:Int)+1)=(q:Int):=by omega
   have etn:((a:Int)+(m:Int)).toNat=a+m:=by omega
   rw[List.drop_drop,show a+(m+1)=q by omega] at h3
   have hT1:L[q]? = some 34->T=(bD (L.drop (q+1))).map (rr (t++k++[34]) (q+1)):=by
    intro h
    rw[h3,J5,if_pos (by simpa using h),List.drop_drop]
    cases bD (L.drop (q+1)) with
    | none=>rfl
    | some z=>simp[rr,nQ];omega
   have hT2:L[q]?≠some 34->T=some (t++k,q):=by
    intro h
    rw[h3,J5,if_neg (by simpa using h)]
    simp[rr];omega
   have hc3:L[q]? = some 34\/(∃ c3,L[q]? = some c3/\c3≠34)\/L.length<=q:=by
    by_cases h:q<L.length
    ·by_cases h4:L[q]=34
     ·exact .inl (by rw[List.getElem?_eq_getElem h,h4])
     ·exact .inr (.inl ⟨_,List.getElem?_eq_getElem h,h4⟩)
    ·exact .inr (.inr (by omega))
   clear h3 hn hm hm1
   cases t with
   | nil=>
     have hW:=JF false [] k (by simp) (by omega)
     cases k with
     | nil=>
       have hB:=gr true [] 34 (by simp)
       rw[show (((34:UInt8).toNat:Nat):Int)=34 from rfl] at hB
       simp only[bB,aB,List.nil_append] at hW hB
       simp(maxSteps:=9^7) (disch:=try exact dI) only[hdQ,xB,List.take_length,push_cast,seval]
       refine ab.pure hI rfl ?_
       simp(maxSteps:=9^7) (disch:=try exact dI) only[etn,ek,push_cast,seval]
       refine ab.lentK hW [1] rfl qsZ qsZ ?_
       rcases hc3 with hc3 | ⟨c3,hc3,hc4⟩ | hc3
       ·have hlt:=(List.getElem?_eq_some_iff.1 hc3).1
        simp(maxSteps:=9^7) (disch:=try exact dI) only[ec,hc3,aq,push_cast,seval]
        refine ab.lentK hB [1] rfl qsZ qsZ ?_
        simp(maxSteps:=9^7) (disch:=try exact dI) only[push_cast,seval]
        exact⟨([34],q+1),aR (by simp(maxSteps:=9^7) (disch:=try exact dI) only[hdQ,xB,push_cast,seval]),⟨by omega,by simp only[List.length_cons,List.length_append,List.length_nil] at *;omega,by rw[hT1 hc3];simp⟩,by simp only;omega⟩
       ·have hlt:=(List.getElem?_eq_some_iff.1 hc3).1
        have hn4:=PA hc4
        simp(maxSteps:=9^7) (disch:=try exact dI) only[ec,hc3,aq,push_cast,seval]
        exact⟨([],q),aR (by simp(maxSteps:=9^7) (disch:=try exact dI) only[exQ,xB,push_cast,seval]),⟨by omega,by simp only[List.length_cons,List.length_append,List.length_nil] at *;omega,by rw[hT2 (by rw[hc3];simpa using hc4)];simp⟩⟩
       ·simp(maxSteps:=9^7) (disch:=try exact dI) only[ec,push_cast,seval]
        exact⟨([],q),aR (by simp(maxSteps:=9^7) (disch:=try exact dI) only[exQ,xB,push_cast,seval]),⟨by omega,by simp only[List.length_cons,List.length_append,List.length_nil] at *;omega,by rw[hT2 (by rw[List.getElem?_eq_none hc3];simp)];simp⟩⟩
     | cons c k=>
       have hB:=gr true (c::k) 34 (by simp at hkl ⊢;omega)
       rw[show (((34:UInt8).toNat:Nat):Int)=34 from rfl] at hB
       simp only[bB,aB,List.nil_append,List.cons_append] at hW hB
       simp(maxSteps:=9^7) (disch:=try exact dI) only[hdQ,xB,List.take_length,push_cast,seval]
       refine ab.pure hI rfl ?_
       simp(maxSteps:=9^7) (disch:=try exact dI) only[etn,ek,push_cast,seval]
       refine ab.lentK hW [1] rfl qsZ qsZ ?_
       rcases hc3 with hc3 | ⟨c3,hc3,hc4⟩ | hc3
       ·have hlt:=(List.getElem?_eq_some_iff.1 hc3).1
        simp(maxSteps:=9^7) (disch:=try exact dI) only[ec,hc3,aq,push_cast,seval]
        refine ab.lentK hB [1,9] rfl qsZ qsZ ?_
        simp(maxSteps:=9^7) (disch:=try exact dI) only[push_cast,seval]
        exact⟨(c::(k++[34]),q+1),aR (by simp(maxSteps:=9^7) (disch:=try exact dI) only[hdQ,xB,push_cast,seval]),⟨by omega,by simp only[List.length_cons,List.length_append,List.length_nil] at *;omega,by rw[hT1 hc3];simp⟩,by simp only;omega⟩
       ·have hlt:=(List.getElem?_eq_some_iff.1 hc3).1
        have hn4:=PA hc4
        simp(maxSteps:=9^7) (disch:=try exact dI) only[ec,hc3,aq,push_cast,seval]
        exact⟨(c::k,q),aR (by simp(maxSteps:=9^7) (disch:=try exact dI) only[exQ,xB,push_cast,seval]),⟨by omega,by simp only[List.length_cons,List.length_append,List.length_nil] at *;omega,by rw[hT2 (by rw[hc3];simpa using hc4)];simp⟩⟩
       ·simp(maxSteps:=9^7) (disch:=try exact dI) only[ec,push_cast,seval]
        exact⟨(c::k,q),aR (by simp(maxSteps:=9^7) (disch:=try exact dI) only[exQ,xB,push_cast,seval]),⟨by omega,by simp only[List.length_cons,List.length_append,List.length_nil] at *;omega,by rw[hT2 (by rw[List.getElem?_eq_none hc3];simp)];simp⟩⟩
   | cons b r=>
     have hW:=JF true (b::r) k (by simp at h2 ⊢;omega) (by omega)
     have hB:=gr true (b::(r++k)) 34 (by simp at h2 ⊢;omega)
     rw[show (((34:UInt8).toNat:Nat):Int)=34 from rfl] at hB
     simp only[bB,aB,List.nil_append,List.cons_append] at hW hB
     simp(maxSteps:=9^7) (disch:=try exact dI) only[hdQ,xB,List.take_length,push_cast,seval]
     refine ab.pure hI rfl ?_
     simp(maxSteps:=9^7) (disch:=try exact dI) only[etn,ek,push_cast,seval]
     refine ab.lentK hW [1,4] rfl qsZ qsZ ?_
     rcases hc3 with hc3 | ⟨c3,hc3,hc4⟩ | hc3
     ·have hlt:=(List.getElem?_eq_some_iff.1 hc3).1
      simp(maxSteps:=9^7) (disch:=try exact dI) only[ec,hc3,aq,push_cast,seval]
      refine ab.lentK hB [1,10] rfl qsZ qsZ ?_
      simp(maxSteps:=9^7) (disch:=try exact dI) only[push_cast,seval]
      exact⟨(b::(r++k++[34]),q+1),aR (by simp(maxSteps:=9^7) (disch:=try exact dI) only[hdQ,xB,push_cast,seval]),⟨by omega,by simp only[List.length_cons,List.length_append,List.length_nil] at *;omega,by rw[hT1 hc3];simp⟩,by simp only;omega⟩
     ·have hlt:=(List.getElem?_eq_some_iff.1 hc3).1
      have hn4:=PA hc4
      simp(maxSteps:=9^7) (disch:=try exact dI) only[ec,hc3,aq,push_cast,seval]
      exact⟨(b::(r++k),q),aR (by simp(maxSteps:=9^7) (disch:=try exact dI) only[exQ,xB,push_cast,seval]),⟨by omega,by simp only[List.length_cons,List.length_append,List.length_nil] at *;omega,by rw[hT2 (by rw[hc3];simpa using hc4)];simp⟩⟩
     ·simp(maxSteps:=9^7) (disch:=try exact dI) only[ec,push_cast,seval]
      exact⟨(b::(r++k),q),aR (by simp(maxSteps:=9^7) (disch:=try exact dI) only[exQ,xB,push_cast,seval]),⟨by omega,by simp only[List.length_cons,List.length_append,List.length_nil] at *;omega,by rw[hT2 (by rw[List.getElem?_eq_none hc3];simp)];simp⟩⟩
 ·rintro⟨t,a⟩ ⟨h1,h2,h3⟩
  simp only at h1 h2
  have hc3:(∃ c3,L[a]? = some c3/\True)\/L.length<=a:=by
   by_cases h:a<L.length
   ·exact .inl ⟨_,List.getElem?_eq_getElem h,trivial⟩
   ·exact .inr (by omega)
  have hS:=kg true t (by omega)
  cases t with
  | nil=>
    simp only[bB,aB,stB] at hS
    rcases hc3 with ⟨c3,hc3,hc4⟩ | hc3
    ·have hlt:=(List.getElem?_eq_some_iff.1 hc3).1
     by_cases hs:c3=sep
     ·subst hs
      have hp:bG L c3 T = .ok ([],true) a:=by rw[h3];simp[bG,hc3]
      rw[hp,kM]
      simp(maxSteps:=9^7) (disch:=try exact dI) only[exQ,xB,hc3,aq,push_cast,seval]
      refine du hS [1] rfl qsZ qsZ ?_
      simp(maxSteps:=9^7) (disch:=try exact dI) only[stB,push_cast,seval]
      exact aA [] (by simp(maxSteps:=9^7) (disch:=try exact dI) only[bR,jj,g9,List.map_append,push_cast,seval])
     ·have hne:¬ ((c3.toNat:Int)=(sep.toNat:Int)):=fun h=>hs ((u8n c3 sep).1 h)
      have hp:bG L sep T = .err a 13:=by rw[h3];simp[bG,hc3,hs]
      have hF:=lD L sep ⟨a,C,Pl,wr,er⟩ a 13
      rw[bX,eN] at hF
      rw[hp,kM]
      simp(maxSteps:=9^7) (disch:=try exact dI) only[exQ,xB,hc3,aq,push_cast,seval]
      refine ab.lentK hF [0,2,3] rfl qsZ qsZ ?_
      simp(maxSteps:=9^7) (disch:=try exact dI) only[bX,eM,push_cast,seval]
      exact aA [] (by simp(maxSteps:=9^7) (disch:=try exact dI) only[bR,push_cast,seval])
    ·have hge:L[a]? = none:=List.getElem?_eq_none hc3
     have hp:bG L sep T = .ok ([],true) a:=by rw[h3];simp[bG,hge]
     rw[hp,kM]
     simp(maxSteps:=9^7) (disch:=try exact dI) only[exQ,xB,push_cast,seval]
     refine du hS [1] rfl qsZ qsZ ?_
     simp(maxSteps:=9^7) (disch:=try exact dI) only[stB,push_cast,seval]
     exact aA [] (by simp(maxSteps:=9^7) (disch:=try exact dI) only[bR,jj,g9,List.map_append,push_cast,seval])
  | cons b r=>
    simp only[bB,aB,stB] at hS
    rcases hc3 with ⟨c3,hc3,hc4⟩ | hc3
    ·have hlt:=(List.getElem?_eq_some_iff.1 hc3).1
     by_cases hs:c3=sep
     ·subst hs
      have hp:bG L c3 T = .ok (b::r,true) a:=by rw[h3];simp[bG,hc3]
      rw[hp,kM]
      simp(maxSteps:=9^7) (disch:=try exact dI) only[exQ,xB,hc3,aq,push_cast,seval]
      refine du hS [1,4] rfl qsZ qsZ ?_
      simp(maxSteps:=9^7) (disch:=try exact dI) only[stB,push_cast,seval]
      exact aA [] (by simp(maxSteps:=9^7) (disch:=try exact dI) only[bR,jj,g9,List.map_append,push_cast,seval])
     ·have hne:¬ ((c3.toNat:Int)=(sep.toNat:Int)):=fun h=>hs ((u8n c3 sep).1 h)
      have hp:bG L sep T = .err a 13:=by rw[h3];simp[bG,hc3,hs]
      have hF:=lD L sep ⟨a,C,Pl,wr,er⟩ a 13
      rw[bX,eN] at hF
      rw[hp,kM]
      simp(maxSteps:=9^7) (disch:=try exact dI) only[exQ,xB,hc3,aq,push_cast,seval]
      refine ab.lentK hF [0,2,3] rfl qsZ qsZ ?_
      simp(maxSteps:=9^7) (disch:=try exact dI) only[bX,eM,push_cast,seval]
      exact aA [] (by simp(maxSteps:=9^7) (disch:=try exact dI) only[bR,push_cast,seval])
    ·have hge:L[a]? = none:=List.getElem?_eq_none hc3
     have hp:bG L sep T = .ok (b::r,true) a:=by rw[h3];simp[bG,hge]
     rw[hp,kM]
     simp(maxSteps:=9^7) (disch:=try exact dI) only[exQ,xB,push_cast,seval]
     refine du hS [1,4] rfl qsZ qsZ ?_
     simp(maxSteps:=9^7) (disch:=try exact dI) only[stB,push_cast,seval]
     exact aA [] (by simp(maxSteps:=9^7) (disch:=try exact dI) only[bR,jj,g9,List.map_append,push_cast,seval])
def ki (L:List UInt8)(sep:UInt8)(y:Nat×Sx):Nat×Sx:=
 if y.1=0 then AG L y.2 else if y.1=1 then kM y.2 (bP L sep y.2.pos) else if y.1=2 then kM y.2 (f9 L sep y.2.pos) else Ni L y.2
def CK (L:List UInt8)(sep:UInt8)(y:Nat×Sx):Res:=
 if y.1=0 then Ab.runN L sep y.2.pos y.2.cells y.2.places else if y.1=1 then lR L sep y.2.cells y.2.places (bP L sep y.2.pos)
 else if y.1=2 then lR L sep y.2.cells y.2.places (f9 L sep y.2.pos) else if y.1=3 then Nj L sep y.2.pos y.2.cells y.2.places
 else if y.2.e=0 then .ok y.2.cells y.2.places else .err y.2.wrong y.2.e
def vm (L:List UInt8)(y:Nat×Sx):Prop:=
 y.2.cells.length<=64/\y.2.places.length<=64 /\
 if y.1=0 then y.2.pos<=L.length/\y.2.e=0/\y.2.places.length=y.2.cells.length
 else if y.1=1\/y.1=2 then y.2.pos<=L.length/\y.2.e=0/\y.2.places.length=y.2.cells.length+1
 else if y.1=3 then y.2.pos<=L.length/\y.2.e=0/\y.2.places.length=y.2.cells.length
 else y.1=4
def muP (L:List UInt8)(y:Nat×Sx):Nat:=
 if y.1=4 then 0 else 4*(L.length+1 - y.2.pos)+(if y.1=0 then 3 else if y.1=3 then 1 else 2)
theorem xy {L:List UInt8}{sep:UInt8}{a o:Nat}{e:Int}(h:bP L sep a = .err o e):e≠0:=by
 unfold bP at h
 split at h<;>cases h
 decide
theorem Ct {L:List UInt8}{sep:UInt8}{a o:Nat}{e:Int}(h:f9 L sep a = .err o e):e≠0:=by
 unfold f9 at h
 cases hq:(bD (L.drop a)).map (rr [] a) with
 | none=>rw[hq] at h;cases h;decide
 | some p=>
   rw[hq] at h
   simp only[bG] at h
   split at h
   ·split at h<;>cases h
    decide
   ·cases h
theorem Gm {L:List UInt8}{sep:UInt8}{y:Nat×Sx}(h:vm L y)(h4:y.1<4):CK L sep (ki L sep y)=CK L sep y/\vm L (ki L sep y)/\muP L (ki L sep y)<muP L y:=by
 obtain⟨ph,p,C,Pl,wr,er⟩:=y
 obtain⟨hc,hp,h⟩:=h
 simp only at hc hp h h4
 have key:∀ o:Out,(∀ w e,o = .err w e->e≠0)->(∀ c a,o = .ok c a->p<=a/\a<=L.length)->er=0->p<=L.length->Pl.length=C.length+1 ->
   CK L sep (kM ⟨p,C,Pl,wr,er⟩ o)=lR L sep C Pl o/\vm L (kM ⟨p,C,Pl,wr,er⟩ o)/\muP L (kM ⟨p,C,Pl,wr,er⟩ o)<4*(L.length+1 - p)+2:=by
  intro o h1 h2 h3 h5 h6
  cases o with
  | err w e=>
    have:=h1 w e rfl
    simp[kM,CK,lR,vm,muP,this,hc,hp]
  | ok c a=>
    have:=h2 c a rfl
    simp[kM,CK,lR,vm,muP,hc,hp,h3]
    omega
 obtain rfl | rfl | rfl | rfl:ph=0\/ph=1\/ph=2\/ph=3:=by omega
 ·simp only[if_true] at h
  obtain⟨h1,h2,h3⟩:=h
  simp only[ki,CK,if_true,AG]
  rw[Ab.runN_eq h1]
  by_cases h64:C.length=64
  ·simp[h64,vm,muP];omega
  ·rw[if_neg h64,if_neg h64]
   unfold mp
   by_cases hq:L[p]? = some 34
   ·have hlt:=(List.getElem?_eq_some_iff.1 hq).1
    rw[if_pos hq,if_pos hq]
    simp[vm,muP,h2,h3];omega
   ·rw[if_neg hq,if_neg hq]
    simp[vm,muP,h2,h3];omega
 ·simp at h
  obtain⟨h1,h2,h3⟩:=h
  have:=key (bP L sep p) (fun w e=>xy) (fun c a hh=>⟨(kH h1 hh).1,(kH h1 hh).2.1⟩) h2 h1 h3
  simpa[ki,CK,muP] using this
 ·simp at h
  obtain⟨h1,h2,h3⟩:=h
  have:=key (f9 L sep p) (fun w e=>Ct) (fun c a hh=>⟨(nP h1 hh).1,(nP h1 hh).2.1⟩) h2 h1 h3
  simpa[ki,CK,muP] using this
 ·simp at h
  obtain⟨h1,h2,h3⟩:=h
  simp only[ki,CK,Ni,Nj,muP]
  by_cases hl:L.length<=p
  ·simp[hl,vm,h2,hc,hp]
  ·simp[hl,vm,h2,h3,hc,hp];omega
def fnP:Nat->Nat
 | 0=>108
 | 1=>161
 | 2=>160
 | _=>209
theorem Ld (L:List UInt8)(sep:UInt8)(y:Nat×Sx)(hL:L.length<=65536)(h:vm L y)(h4:y.1<4) :
  bk Tryz.prog au 1 (fnP y.1) [.ptr 0 0] (bX L sep y.1 y.2) (.pv (bR (ki L sep y).1)) (bX L sep (ki L sep y).1 (ki L sep y).2):=by
 obtain⟨ph,x⟩:=y
 obtain⟨hc,hp,h⟩:=h
 simp only at hc hp h h4
 obtain rfl | rfl | rfl | rfl:ph=0\/ph=1\/ph=2\/ph=3:=by omega
 ·simp only[if_true] at h
  exact I9 L sep x hL h.1 hc hp
 ·simp at h
  exact Hl L sep x hL h.1 hc
 ·simp at h
  exact Cs L sep x hL h.1 hc
 ·simp at h
  exact P2 L sep x hL h.1
theorem Mb (ph a:Nat):CA ph a = .any\/CA ph a = .pv (.int .i64 (a:Int)):=by
 unfold CA;split
 ·exact .inl rfl
 ·exact .inr rfl
theorem sA {ph a:Nat}(h:¬ ph=4):CA ph a = .pv (.int .i64 (a:Int)):=if_neg h
theorem DH {L:List UInt8}{y:Nat×Sx}(h:vm L y):y.1<=4:=by
 have:=h.2.2
 split at this
 ·omega
 ·split at this
  ·omega
  ·split at this
   ·omega
   ·omega
def resV:Res->PV
 | .err o e=>.tup [.nils,.nils,.int .i64 (o:Int),.int .i64 e]
 | .ok C Pl=>.tup [.list (C.map g9),.list (Pl.map oJ),.int .i64 0,.int .i64 0]
def dJ (L:List UInt8)(n:Int):Res:=
 if jx n=true then (if 65536<L.length then .err 0 5 else Ab.runN L n.toNat.toUInt8 0 [] []) else .err 0 2
theorem Lj (L:List UInt8)(n:Int):ae Tryz.prog au 57 [.str L,.int .i64 n] (resV (dJ L n)):=by
 have hs:=tt n
 rw[Bx] at hs
 unfold dJ
 generalize hb:jx n=b at *
 refine ae.intro Q57.2 (by simp[Q57]) ?_
 cases b with
 | false=>
   rw[if_neg (by simp)]
   simp(disch:=try exact dI) only[Q57,resV,push_cast,seval]
   refine ab.pure hs rfl ?_
   exact qsZ
 | true=>
   have hn:0<=n/\n<128:=by unfold jx at hb;simp at hb;omega
   have hw:=j4 hn.1 (by omega:n<=255)
   by_cases hL:65536<L.length
   ·simp only[if_true,hL]
    simp(disch:=try exact dI) only[Q57,resV,push_cast,seval]
    refine ab.pure hs rfl ?_
    exact qsZ
   ·simp only[if_true,hL,if_false]
    obtain⟨sep,hsep⟩:∃ sep,sep=n.toNat.toUInt8:=⟨_,rfl⟩
    have hse:n=(sep.toNat:Int):=by rw[hsep];simp;omega
    rw[<- hsep]
    rw[hse] at hw
    simp(disch:=try exact dI) only[Q57,hw,push_cast,seval]
    refine ab.pure hs rfl ?_
    simp(disch:=try exact dI) only[hse,hw,push_cast,seval]
    obtain⟨R,hR⟩:∃ R,R=Ab.runN L sep 0 [] []:=⟨_,rfl⟩
    rw[<- hR]
    refine aC ([(8,4,66,2),(8,5,3,1)]) (fun y:Nat×Sx=>[(9,.pv (bR y.1))]) (fun y=>[(0,.cells 158 true [.pv (.str L),.pv (.int .u8 (sep.toNat:Int)),CA y.1 y.2.pos,.olist 1 2 (y.2.cells.map g9),.olist 2 1 (y.2.places.map oJ),.pv (.int .i64 (y.2.wrong:Int)),.pv (.int .i64 y.2.e)])]) (fun y=>vm L y/\y.1<=4/\R=CK L sep y) (fun y=>muP L y) ((0,⟨0,[],[],0,0⟩)) ?_;intro e0 σ0 n0 h0;simp(disch:=try exact dI) only[push_cast,seval] at h0;obtain⟨rfl,rfl,rfl⟩:=h0;refine⟨?_,?_,?_⟩
    ·simp(disch:=try exact dI) only[bR,eN,push_cast,seval]
    ·exact⟨by simp[vm],by simp,by simp[CK,hR]⟩
    ·rintro⟨ph,x⟩ ⟨h1,h2,h3⟩
     simp only at h2
     by_cases h4:ph=4
     ·subst h4
      obtain⟨p,C,Pl,wr,er⟩:=x
      have:R=if er=0 then .ok C Pl else .err wr er:=h3
      by_cases h0:er=0
      ·subst h0
       rw[this,if_pos rfl]
       simp(disch:=try exact dI) only[bR,eM,resV,push_cast,seval]
      ·rw[this,if_neg h0]
       simp(disch:=try exact dI) only[bR,eM,resV,push_cast,seval]
     ·have hso:=Gm (sep:=sep) h1 (by simp only;omega)
      have hst:=Ld L sep (ph,x) (by omega) h1 (by simp only;omega)
      rw[<- hso.1] at h3
      replace hso:=hso.2
      generalize ki L sep (ph,x)=z at *
      obtain⟨ph',x'⟩:=z
      simp only at hst
      have hnx:∃ f,bR ph = .clo f [] []/\f=fnP ph:=by
       obtain rfl | rfl | rfl | rfl:ph=0\/ph=1\/ph=2\/ph=3:=by omega
       all_goals exact⟨_,rfl,rfl⟩
      obtain⟨f,hf1,hf2⟩:=hnx
      rw[<- hf2] at hst
      rw[bX,bX,sA h4] at hst
      rcases Mb ph' x'.pos with hz | hz
      ·rw[hz] at hst
       simp(disch:=try exact dI) only[hf1,sA h4,push_cast,seval]
       refine ab.lentK hst [0,1,2] rfl qsZ qsZ ?_
       refine zgZ ?_
       exact⟨(ph',x'),aR (by simp(disch:=try exact dI) only[hz,push_cast,seval]),⟨hso.1,DH hso.1,h3⟩,hso.2⟩
      ·rw[hz] at hst
       simp(disch:=try exact dI) only[hf1,sA h4,push_cast,seval]
       refine ab.lentK hst [0,1,2] rfl qsZ qsZ ?_
       refine zgZ ?_
       exact⟨(ph',x'),aR (by simp(disch:=try exact dI) only[hz,push_cast,seval]),⟨hso.1,DH hso.1,h3⟩,hso.2⟩
open Nat renaming reduceEqDiff->qa,reduceAdd->qb,reduceMul->qc,reduceLeDiff->qd,reduceLT->qe,reduceBEq->qf,reduceSub->qg
open Int renaming reduceToNat->qh,reduceNeg->qi
end Go.Proofs.YtbaaokocnegdoaaGreatDoor
