/- A part. -/
import Derived.Test.YtngchmkoadaecaaGreatDoorClJSi
set_option linter.unusedVariables false
set_option linter.unusedSimpArgs false
set_option maxHeartbeats 16000000
set_option maxRecDepth 100000
open List renaming mem_of_getElem?->Us,nil_append->UV,length_take->UJ,map_nil->Va,append_nil->UU,getElem?_eq_getElem->Uq,append_assoc->UB,take_of_length_le->Ux
namespace Go.Proofs.YtngchmkoadaecaaGreatDoor
open Go Go.Ab
noncomputable def fG (x:Sch):Bool:=!decide (Is x.name x.version x.typ=0)
theorem Cc {l:List Sch}{i:Nat}{nm:List UInt8}{v:Int}{t:Typ}(h:l[i]? = some (.mk nm v t)):max (cj (l.findIdx? (vsn nm v))) 0=cj (l.findIdx? (vsn nm v)):=by
 cases hf:l.findIdx? (vsn nm v) with
 | none=>
   rw[List.findIdx?_eq_none_iff] at hf
   have:=hf _ (Us h)
   simp[vsn,Sch.name,Sch.version] at this
 | some k=>simp only[cj];omega
theorem EA (p:Prg)(hok:p.ok)(hs1:p.schemas.length<=1000)(hs2:p.endpoints.length<=1000)(hs3:p.services.length<=1000) :
  bA Tryz.prog aB 2 28 [.ptr 0 0,.pv p.pv,.mp 1] [fD [] [] [] 2,.mp (mpS []),.tok 82 4] (.pv (.tup [])) [fD [] [] (thO aE fG p).1 2,.mp (mpS (thO aE fG p).2),.tok 82 4]:=by
 have h54:=fun nm v=>NJ p nm v hok
 have h55:=fun nm=>IJ p nm hok
 have hpo:=hok
 obtain⟨pv,ps,pe,pw,pr⟩:=p
 rw[T3] at hpo
 simp only[Prg.schemas,Prg.endpoints,Prg.services] at hs1 hs2 hs3 h54 h55
 have hV:=xQ pv 1 999
 unfold thO
 simp only[Prg.version,Prg.schemas,Prg.endpoints,Prg.services]
 have a0:=bp [] [] [] (!inR pv 1 999) 5 ec (by simp) (by simp)
 rw[UV] at a0
 have k0:=am [] [] (!inR pv 1 999) 5 ec
 generalize aL [] [] (!inR pv 1 999) 5 ec=A0 at *
 generalize inR pv 1 999=bV at *
 generalize hF:QZ aE fG ⟨pv,ps,pe,pw,pr⟩=F at *
 have hFl:∀ m,(aJ F (ps.take m)).length<=3000:=fun m=>by
  have:=bn F 3 (ps.take m) fun x _ i=>by rw[<- hF];exact aD (m:=1) (n:=2) (am _ _ _ _ _) (aD (m:=1) (n:=1) (am _ _ _ _ _) (am _ _ _ _ _))
  have h2:(ps.take m).length<=1000:=by rw[UJ];omega
  omega
 generalize hE:xS aE ⟨pv,ps,pe,pw,pr⟩=E at *
 have hEl:∀ m,(ixO E [] 0 (pe.take m)).1.length<=4000:=fun m=>by
  have:=dG E 4 (pe.take m) [] 0 fun x _ N i=>by rw[<- hE];exact aD (m:=1) (n:=3) (am _ _ _ _ _) (aD (m:=1) (n:=2) (am _ _ _ _ _) (aD (m:=1) (n:=1) (am _ _ _ _ _) (am _ _ _ _ _)))
  have h2:(pe.take m).length<=1000:=by rw[UJ];omega
  omega
 generalize hV2:D0 aE ⟨pv,ps,pe,pw,pr⟩=V at *
 have hVl:∀ N m,(ixO V N 0 (pw.take m)).1.length<=4000:=fun N m=>by
  have:=dG V 4 (pw.take m) N 0 fun x _ N i=>by rw[<- hV2];exact aD (m:=1) (n:=3) (am _ _ _ _ _) (aD (m:=1) (n:=2) (am _ _ _ _ _) (aD (m:=1) (n:=1) (am _ _ _ _ _) (am _ _ _ _ _)))
  have h2:(pw.take m).length<=1000:=by rw[UJ];omega
  omega
 simp only[fD,Va] at *
 refine bA.intro Q28.2 (by simp[Q28]) ?_
 simp(maxSteps:=9^7) (disch:=try exact dI) only[Q28,T4,push_cast,seval]
 refine ab.pure hV rfl ?_
 simp(maxSteps:=9^7) (disch:=try exact dI) only[ec,push_cast,seval]
 refine ab.lentK a0 [0,2] rfl (by simp(maxSteps:=9^7) (disch:=try exact dI) only[ec,push_cast,seval]) qsZ ?_
 simp(maxSteps:=9^7) (disch:=try exact dI) only[push_cast,seval]
 refine aw ([]) (fun m:Nat=>[(30,.pv (.int .i64 (m:Int)))]) (fun m=>[(0,.cells 85 true [.pv (.str []),.pv (.list []),.olist 2 4 ((A0++aJ F (ps.take m)).map Prb.pv)])]) (fun m=>m<=ps.length) (fun m=>ps.length - m) (0) ?_;intro e0 σ0 n0 h0;simp(maxSteps:=9^7) (disch:=try exact dI) only[push_cast,seval] at h0;obtain⟨rfl,rfl,rfl⟩:=h0;refine⟨?_,?_,?_⟩
 ·simp(maxSteps:=9^7) (disch:=try exact dI) only[bv,UU,push_cast,seval]
 ·omega
 intro m hm
 by_cases hlt:m<ps.length
 ·have hltI:(m:Int)<ps.length:=by omega
  obtain⟨x,hx⟩:∃ x,ps[m]? = some x:=⟨_,Uq hlt⟩
  have hsn:=bc F hx
  have hol:=hFl m
  have hFx:=congrFun (congrFun hF x) m
  have hxo:=hpo.2.2.1 x (Us hx)
  generalize hB2:aJ F (ps.take (m+1))=B2 at *
  generalize aJ F (ps.take m)=bo at *
  obtain⟨nm,ver,t⟩:=x
  have hfd:=Cc hx
  have hnB:=gz nm
  have hq1:=h54 nm ver
  rw[hfd] at hq1
  rw[Ua] at hxo
  have hck:=mI nm ver t hxo.2.2
  simp only[QZ,fG,Sch.name,Sch.version,Sch.typ,Prg.schemas] at hFx
  have e2:A0++B2=(((A0++bo)++aL [] [] (!aE nm) 1 nm)++aL [] [] (aE nm&&!decide (Is nm ver t=0)) 5 nm)++aL [] [] (decide (cj (ps.findIdx? (vsn nm ver))<(m:Int))) 2 nm:=by rw[hsn,<- hFx];simp only[UB];try rfl
  clear hsn hFx
  have z00:(A0++bo).length<=20000:=aD (m:=12000) (n:=8000) (by omega) (by omega)
  generalize A0++bo=o0 at *
  have z0:o0.length<=20000:=by (first | assumption | omega)
  have a1:=bp [] [] o0 (!aE nm) 1 nm (by simp) (by omega)
  have z1:=aD z0 (am [] [] (!aE nm) 1 nm)
  generalize ho1:o0++aL [] [] (!aE nm) 1 nm=o1 at *
  have a2:=bp [] [] o1 (aE nm&&!decide (Is nm ver t=0)) 5 nm (by simp) (by omega)
  have z2:=aD z1 (am [] [] (aE nm&&!decide (Is nm ver t=0)) 5 nm)
  generalize ho2:o1++aL [] [] (aE nm&&!decide (Is nm ver t=0)) 5 nm=o2 at *
  have a3:=bp [] [] o2 (decide (cj (ps.findIdx? (vsn nm ver))<(m:Int))) 2 nm (by simp) (by omega)
  have z3:=aD z2 (am [] [] (decide (cj (ps.findIdx? (vsn nm ver))<(m:Int))) 2 nm)
  generalize ho3:o2++aL [] [] (decide (cj (ps.findIdx? (vsn nm ver))<(m:Int))) 2 nm=o3 at *
  simp only[fD,Va] at a1 a2 a3
  generalize m7 ⟨pv,ps,pe,pw,pr⟩ nm ver=b1 at *
  generalize cj (ps.findIdx? (vsn nm ver))=ix at *
  generalize Is nm ver t=ze at *
  generalize hnb:aE nm=b0 at *
  simp only[T4] at hq1
  obtain⟨t1,t2,t3,t4,t5,t6,t7⟩:=t
  simp only[Ub,Um,ae,List.cons_append,UV] at hck
  simp(maxSteps:=9^7) (disch:=try exact dI) only[hx,Ub,Um,ae,push_cast,seval]
  refine ab.pure hnB rfl ?_
  simp(maxSteps:=9^7) (disch:=try exact dI) only[push_cast,seval]
  refine ab.pure hq1 rfl ?_
  simp(maxSteps:=9^7) (disch:=try exact dI) only[push_cast,seval]
  refine ab.lentK a1 [0,2] rfl qsZ qsZ ?_
  cases b0 with
  | false=>
    simp only[Bool.false_and,Bool.true_and] at a2
    simp(maxSteps:=9^7) (disch:=try exact dI) only[push_cast,seval]
    refine ab.lentK a2 [0,11] rfl qsZ qsZ ?_
    simp(maxSteps:=9^7) (disch:=try exact dI) only[push_cast,seval]
    refine ab.lentK a3 [0,13] rfl qsZ qsZ ?_
    simp(maxSteps:=9^7) (disch:=try exact dI) only[push_cast,seval]
    exact⟨m+1,aN (by simp(maxSteps:=9^7) (disch:=try exact dI) only[hB2,e2,push_cast,seval]),by omega,by omega⟩
  | true=>
    simp only[Bool.false_and,Bool.true_and] at a2
    simp(maxSteps:=9^7) (disch:=try exact dI) only[push_cast,seval]
    refine au hck rfl ?_
    simp(maxSteps:=9^7) (disch:=try exact dI) only[push_cast,seval]
    refine ab.lentK a2 [0,11] rfl qsZ qsZ ?_
    simp(maxSteps:=9^7) (disch:=try exact dI) only[push_cast,seval]
    refine ab.lentK a3 [0,14] rfl qsZ qsZ ?_
    simp(maxSteps:=9^7) (disch:=try exact dI) only[push_cast,seval]
    exact⟨m+1,aN (by simp(maxSteps:=9^7) (disch:=try exact dI) only[hB2,e2,push_cast,seval]),by omega,by omega⟩
 ·have hltI:¬ (m:Int)<ps.length:=by omega
  have hle:ps.take m=ps:=Ux (by omega)
  have hol:=hFl m
  rw[hle] at hol ⊢
  have hlB:(A0++aJ F ps).length<=4000:=aD (m:=1000) (n:=3000) (by omega) (by omega)
  generalize hoB:A0++aJ F ps=oB at *
  simp(maxSteps:=9^7) (disch:=try exact dI) only[push_cast,seval]
  refine aw ([]) (fun m:Nat=>[(74,.pv (.int .i64 (m:Int)))]) (fun m=>[(0,.cells 85 true [.pv (.str []),.pv (.list []),.olist 2 4 ((oB++(ixO E [] 0 (pe.take m)).1).map Prb.pv)]),(1,.mp (mpS (ixO E [] 0 (pe.take m)).2))]) (fun m=>m<=pe.length) (fun m=>pe.length - m) (0) ?_;intro e0 σ0 n0 h0;simp(maxSteps:=9^7) (disch:=try exact dI) only[push_cast,seval] at h0;obtain⟨rfl,rfl,rfl⟩:=h0;refine⟨?_,?_,?_⟩
  ·simp(maxSteps:=9^7) (disch:=try exact dI) only[cL,UU,push_cast,seval]
  ·omega
  intro m hm
  by_cases hlt:m<pe.length
  ·have hltI:(m:Int)<pe.length:=by omega
   obtain⟨x,hx⟩:∃ x,pe[m]? = some x:=⟨_,Uq hlt⟩
   have hsn:=bX E [] hx
   have hol:=hEl m
   have hEx:=congrFun (congrFun (congrFun hE (ixO E [] 0 (pe.take m)).2) x) m
   generalize hB2:ixO E [] 0 (pe.take (m+1))=B2 at *
   generalize ixO E [] 0 (pe.take m)=B at *
   obtain⟨bo,N1⟩:=B
   simp only at hsn hol hEx
   obtain⟨nm,kd,sc,ver,⟨fk,fs,fw⟩⟩:=x
   have hnB:=gz nm
   have hq1:=h54 sc ver
   have hi1:=xQ kd 1 3
   have hi2:=xQ fk 1 4
   simp only[xS,Enp.name,Enp.kind,Enp.format,Enp.schema,Enp.version,Fmt.kind] at hEx
   have e2:oB++B2.1=((((oB++bo)++aL [] [] (!aE nm) 1 nm)++aL [] [] (decide (nm∈N1)) 2 nm)++aL [] [] (!inR kd 1 3||!inR fk 1 4) 5 nm)++aL [] [] (!m7 ⟨pv,ps,pe,pw,pr⟩ sc ver) 3 sc:=by rw[hsn,<- hEx];simp only[UB];try rfl
   have e3:B2.2=ff N1 nm:=by rw[hsn,<- hEx]
   clear hsn hEx
   have z00:(oB++bo).length<=20000:=aD (m:=12000) (n:=8000) (by omega) (by omega)
   generalize oB++bo=o0 at *
   have z0:o0.length<=20000:=by (first | assumption | omega)
   have a1:=bp [] [] o0 (!aE nm) 1 nm (by simp) (by omega)
   have z1:=aD z0 (am [] [] (!aE nm) 1 nm)
   generalize ho1:o0++aL [] [] (!aE nm) 1 nm=o1 at *
   have a2:=bp [] [] o1 (decide (nm∈N1)) 2 nm (by simp) (by omega)
   have z2:=aD z1 (am [] [] (decide (nm∈N1)) 2 nm)
   generalize ho2:o1++aL [] [] (decide (nm∈N1)) 2 nm=o2 at *
   have a3:=bp [] [] o2 (!inR kd 1 3||!inR fk 1 4) 5 nm (by simp) (by omega)
   have z3:=aD z2 (am [] [] (!inR kd 1 3||!inR fk 1 4) 5 nm)
   generalize ho3:o2++aL [] [] (!inR kd 1 3||!inR fk 1 4) 5 nm=o3 at *
   have a4:=bp [] [] o3 (!m7 ⟨pv,ps,pe,pw,pr⟩ sc ver) 3 sc (by simp) (by omega)
   have z4:=aD z3 (am [] [] (!m7 ⟨pv,ps,pe,pw,pr⟩ sc ver) 3 sc)
   generalize ho4:o3++aL [] [] (!m7 ⟨pv,ps,pe,pw,pr⟩ sc ver) 3 sc=o4 at *
   simp only[fD,Va] at a1 a2 a3 a4
   generalize m7 ⟨pv,ps,pe,pw,pr⟩ sc ver=b1 at *
   generalize inR kd 1 3=b2 at *
   generalize inR fk 1 4=b3 at *
   generalize max (cj (ps.findIdx? (vsn sc ver))) 0=mx at *
   simp only[T4] at hq1
   simp(maxSteps:=9^7) (disch:=try exact dI) only[hx,TU,T1,ae,push_cast,seval]
   refine ab.pure hq1 rfl ?_
   simp(maxSteps:=9^7) (disch:=try exact dI) only[push_cast,seval]
   refine au hnB rfl ?_
   simp(maxSteps:=9^7) (disch:=try exact dI) only[push_cast,seval]
   refine ab.lentK a1 [0,2] rfl qsZ qsZ ?_
   simp(maxSteps:=9^7) (disch:=try exact dI) only[push_cast,seval]
   refine ab.lentK a2 [0,11] rfl qsZ qsZ ?_
   simp(maxSteps:=9^7) (disch:=try exact dI) only[push_cast,seval]
   refine au hi1 rfl ?_
   cases b2 with
   | false=>
     simp(maxSteps:=9^7) (disch:=try exact dI) only[push_cast,seval]
     simp only[Bool.not_true,Bool.not_false,Bool.true_or,Bool.false_or] at a3
     refine ab.lentK a3 [0,15] rfl qsZ qsZ ?_
     simp(maxSteps:=9^7) (disch:=try exact dI) only[push_cast,seval]
     refine ab.lentK a4 [0,18] rfl qsZ qsZ ?_
     simp(maxSteps:=9^7) (disch:=try exact dI) only[push_cast,seval]
     exact⟨m+1,aN (by simp(maxSteps:=9^7) (disch:=try exact dI) only[hB2,e2,e3,push_cast,seval]),by omega,by omega⟩
   | true=>
     simp(maxSteps:=9^7) (disch:=try exact dI) only[push_cast,seval]
     refine au hi2 rfl ?_
     simp(maxSteps:=9^7) (disch:=try exact dI) only[push_cast,seval]
     simp only[Bool.not_true,Bool.not_false,Bool.true_or,Bool.false_or] at a3
     refine ab.lentK a3 [0,15] rfl qsZ qsZ ?_
     simp(maxSteps:=9^7) (disch:=try exact dI) only[push_cast,seval]
     refine ab.lentK a4 [0,19] rfl qsZ qsZ ?_
     simp(maxSteps:=9^7) (disch:=try exact dI) only[push_cast,seval]
     exact⟨m+1,aN (by simp(maxSteps:=9^7) (disch:=try exact dI) only[hB2,e2,e3,push_cast,seval]),by omega,by omega⟩
  ·have hltI:¬ (m:Int)<pe.length:=by omega
   have hle:pe.take m=pe:=Ux (by omega)
   have hol:=hEl m
   rw[hle] at hol ⊢
   generalize hNC:(ixO E [] 0 pe).2=NC at *
   have hlC:(oB++(ixO E [] 0 pe).1).length<=8000:=aD (m:=4000) (n:=4000) (by omega) (by omega)
   have hfin:∀ w,A0++(aJ F ps++((ixO E [] 0 pe).1++w))=(oB++(ixO E [] 0 pe).1)++w:=fun w=>by rw[<- hoB];simp only[UB]
   generalize oB++(ixO E [] 0 pe).1=oC at *
   simp(maxSteps:=9^7) (disch:=try exact dI) only[push_cast,seval]
   refine aw ([]) (fun m:Nat=>[(131,.pv (.int .i64 (m:Int)))]) (fun m=>[(0,.cells 85 true [.pv (.str []),.pv (.list []),.olist 2 4 ((oC++(ixO V NC 0 (pw.take m)).1).map Prb.pv)]),(1,.mp (mpS (ixO V NC 0 (pw.take m)).2))]) (fun m=>m<=pw.length) (fun m=>pw.length - m) (0) ?_;intro e0 σ0 n0 h0;simp(maxSteps:=9^7) (disch:=try exact dI) only[push_cast,seval] at h0;obtain⟨rfl,rfl,rfl⟩:=h0;refine⟨?_,?_,?_⟩
   ·simp(maxSteps:=9^7) (disch:=try exact dI) only[cL,UU,push_cast,seval]
   ·omega
   intro m hm
   by_cases hlt:m<pw.length
   ·have hltI:(m:Int)<pw.length:=by omega
    obtain⟨x,hx⟩:∃ x,pw[m]? = some x:=⟨_,Uq hlt⟩
    have hsn:=bX V NC hx
    have hol:=hVl NC m
    have hVx:=congrFun (congrFun (congrFun hV2 (ixO V NC 0 (pw.take m)).2) x) m
    generalize hB2:ixO V NC 0 (pw.take (m+1))=B2 at *
    generalize ixO V NC 0 (pw.take m)=B at *
    obtain⟨bo,N1⟩:=B
    simp only at hsn hol hVx
    obtain⟨nm,rq,rp,ud⟩:=x
    have hnB:=gz nm
    have hq1:=h55 rq
    have hq2:=h55 rp
    simp only[D0,Svc.name,Svc.request,Svc.reply] at hVx
    have e2:oC++B2.1=((((oC++bo)++aL [] [] (!aE nm) 1 nm)++aL [] [] (decide (nm∈N1)) 2 nm)++aL [] [] (!dN ⟨pv,ps,pe,pw,pr⟩ rq) 3 rq)++aL [] [] (!dN ⟨pv,ps,pe,pw,pr⟩ rp) 3 rp:=by rw[hsn,<- hVx];simp only[UB];try rfl
    have e3:B2.2=ff N1 nm:=by rw[hsn,<- hVx]
    clear hsn hVx
    have z00:(oC++bo).length<=20000:=aD (m:=12000) (n:=8000) (by omega) (by omega)
    generalize oC++bo=o0 at *
    have z0:o0.length<=20000:=by (first | assumption | omega)
    have a1:=bp [] [] o0 (!aE nm) 1 nm (by simp) (by omega)
    have z1:=aD z0 (am [] [] (!aE nm) 1 nm)
    generalize ho1:o0++aL [] [] (!aE nm) 1 nm=o1 at *
    have a2:=bp [] [] o1 (decide (nm∈N1)) 2 nm (by simp) (by omega)
    have z2:=aD z1 (am [] [] (decide (nm∈N1)) 2 nm)
    generalize ho2:o1++aL [] [] (decide (nm∈N1)) 2 nm=o2 at *
    have a3:=bp [] [] o2 (!dN ⟨pv,ps,pe,pw,pr⟩ rq) 3 rq (by simp) (by omega)
    have z3:=aD z2 (am [] [] (!dN ⟨pv,ps,pe,pw,pr⟩ rq) 3 rq)
    generalize ho3:o2++aL [] [] (!dN ⟨pv,ps,pe,pw,pr⟩ rq) 3 rq=o3 at *
    have a4:=bp [] [] o3 (!dN ⟨pv,ps,pe,pw,pr⟩ rp) 3 rp (by simp) (by omega)
    have z4:=aD z3 (am [] [] (!dN ⟨pv,ps,pe,pw,pr⟩ rp) 3 rp)
    generalize ho4:o3++aL [] [] (!dN ⟨pv,ps,pe,pw,pr⟩ rp) 3 rp=o4 at *
    simp only[fD,Va] at a1 a2 a3 a4
    generalize dN ⟨pv,ps,pe,pw,pr⟩ rq=b1 at *
    generalize dN ⟨pv,ps,pe,pw,pr⟩ rp=b2 at *
    simp only[T4] at hq1 hq2
    simp(maxSteps:=9^7) (disch:=try exact dI) only[hx,Uf,push_cast,seval]
    refine ab.pure hq1 rfl ?_
    simp(maxSteps:=9^7) (disch:=try exact dI) only[push_cast,seval]
    refine ab.pure hq2 rfl ?_
    simp(maxSteps:=9^7) (disch:=try exact dI) only[push_cast,seval]
    refine au hnB rfl ?_
    simp(maxSteps:=9^7) (disch:=try exact dI) only[push_cast,seval]
    refine ab.lentK a1 [0,2] rfl qsZ qsZ ?_
    simp(maxSteps:=9^7) (disch:=try exact dI) only[push_cast,seval]
    refine ab.lentK a2 [0,12] rfl qsZ qsZ ?_
    simp(maxSteps:=9^7) (disch:=try exact dI) only[push_cast,seval]
    refine ab.lentK a3 [0,16] rfl qsZ qsZ ?_
    simp(maxSteps:=9^7) (disch:=try exact dI) only[push_cast,seval]
    refine ab.lentK a4 [0,18] rfl qsZ qsZ ?_
    simp(maxSteps:=9^7) (disch:=try exact dI) only[push_cast,seval]
    exact⟨m+1,aN (by simp(maxSteps:=9^7) (disch:=try exact dI) only[hB2,e2,e3,push_cast,seval]),by omega,by omega⟩
   ·have hltI:¬ (m:Int)<pw.length:=by omega
    have hle:pw.take m=pw:=Ux (by omega)
    rw[hle]
    simp(maxSteps:=9^7) (disch:=try exact dI) only[push_cast,seval]
    exact aI [] (by simp(maxSteps:=9^7) (disch:=try exact dI) only[hfin,push_cast,seval])
