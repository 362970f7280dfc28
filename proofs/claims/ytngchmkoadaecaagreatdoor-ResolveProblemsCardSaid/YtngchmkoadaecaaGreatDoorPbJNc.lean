/- A part. -/
import Derived.Test.YtngchmkoadaecaaGreatDoorPbJN8
import Derived.Test.YtngchmkoadaecaaGreatDoorPbJSg
set_option linter.unusedVariables false
set_option linter.unusedSimpArgs false
set_option maxHeartbeats 16000000
set_option maxRecDepth 100000
open List renaming mem_of_getElem?->WV,nil_append->Xl,length_take->Xf,map_nil->XT,append_nil->Xc,getElem?_eq_getElem->WT,append_assoc->W7,take_of_length_le->WY
open Bool renaming false_and->XR,true_and->Xv,true_or->X1,false_or->XQ
namespace Go.Proofs.YtngchmkoadaecaaGreatDoor
open Go Go.Ab
noncomputable def di (x:Sch):Bool:=!decide (wN x.name x.version x.typ=0)
theorem DG {l:List Sch}{i:Nat}{nm:List UInt8}{v:Int}{t:Typ}(h:l[i]? = some (.mk nm v t)):max (bL (l.findIdx? (vsn nm v))) 0=bL (l.findIdx? (vsn nm v)):=by
 cases hf:l.findIdx? (vsn nm v) with
 | none=>
   rw[List.findIdx?_eq_none_iff] at hf
   have:=hf _ (WV h)
   simp[vsn,Sch.name,Sch.version] at this
 | some k=>simp only[bL];omega
theorem Gw (p:Prg)(hok:p.ok)(hs1:p.schemas.length<=1000)(hs2:p.endpoints.length<=1000)(hs3:p.services.length<=1000) :
  bz Tryz.prog aC 2 28 [.ptr 0 0,.pv p.pv,.mp 1] [fU [] [] [] 2,.mp (mpS []),.tok 82 4] (.pv (.tup [])) [fU [] [] (thO az di p).1 2,.mp (mpS (thO az di p).2),.tok 82 4]:=by
 have h54:=fun nm v=>P3 p nm v hok
 have h55:=fun nm=>KJ p nm hok
 have hpo:=hok
 obtain⟨pv,ps,pe,pw,pr⟩:=p
 rw[Wu] at hpo
 simp only[Prg.schemas,Prg.endpoints,Prg.services] at hs1 hs2 hs3 h54 h55
 have hV:=Ar pv 1 999
 unfold thO
 simp only[Prg.version,Prg.schemas,Prg.endpoints,Prg.services]
 have a0:=bB [] [] [] (!inR pv 1 999) 5 cp (by simp) (by simp)
 rw[Xl] at a0
 have k0:=am [] [] (!inR pv 1 999) 5 cp
 generalize aG [] [] (!inR pv 1 999) 5 cp=A0 at *
 generalize inR pv 1 999=bV at *
 generalize hF:Px az di ⟨pv,ps,pe,pw,pr⟩=F at *
 have hFl:∀ m,(aF F (ps.take m)).length<=3000:=fun m=>by
  have:=bh F 3 (ps.take m) fun x _ i=>by rw[<- hF];exact aA (m:=1) (n:=2) (am _ _ _ _ _) (aA (m:=1) (n:=1) (am _ _ _ _ _) (am _ _ _ _ _))
  have h2:(ps.take m).length<=1000:=by rw[Xf];omega
  omega
 generalize hE:JF az ⟨pv,ps,pe,pw,pr⟩=E at *
 have hEl:∀ m,(ixO E [] 0 (pe.take m)).1.length<=4000:=fun m=>by
  have:=cH E 4 (pe.take m) [] 0 fun x _ N i=>by rw[<- hE];exact aA (m:=1) (n:=3) (am _ _ _ _ _) (aA (m:=1) (n:=2) (am _ _ _ _ _) (aA (m:=1) (n:=1) (am _ _ _ _ _) (am _ _ _ _ _)))
  have h2:(pe.take m).length<=1000:=by rw[Xf];omega
  omega
 generalize hV2:LK az ⟨pv,ps,pe,pw,pr⟩=V at *
 have hVl:∀ N m,(ixO V N 0 (pw.take m)).1.length<=4000:=fun N m=>by
  have:=cH V 4 (pw.take m) N 0 fun x _ N i=>by rw[<- hV2];exact aA (m:=1) (n:=3) (am _ _ _ _ _) (aA (m:=1) (n:=2) (am _ _ _ _ _) (aA (m:=1) (n:=1) (am _ _ _ _ _) (am _ _ _ _ _)))
  have h2:(pw.take m).length<=1000:=by rw[Xf];omega
  omega
 simp only[fU,XT] at *
 refine bz.intro Q28.2 (by simp[Q28]) ?_
 simp(maxSteps:=9^7) (disch:=try exact dI) only[Q28,Wv,push_cast,seval]
 refine ab.pure hV rfl ?_
 simp(maxSteps:=9^7) (disch:=try exact dI) only[cp,push_cast,seval]
 refine ab.lentK a0 [0,2] rfl (by simp(maxSteps:=9^7) (disch:=try exact dI) only[cp,push_cast,seval]) qsZ ?_
 simp(maxSteps:=9^7) (disch:=try exact dI) only[push_cast,seval]
 refine au ([]) (fun m:Nat=>[(30,.pv (.int .i64 (m:Int)))]) (fun m=>[(0,.cells 85 true [.pv (.str []),.pv (.list []),.olist 2 4 ((A0++aF F (ps.take m)).map Prb.pv)])]) (fun m=>m<=ps.length) (fun m=>ps.length - m) (0) ?_;intro e0 σ0 n0 h0;simp(maxSteps:=9^7) (disch:=try exact dI) only[push_cast,seval] at h0;obtain⟨rfl,rfl,rfl⟩:=h0;refine⟨?_,?_,?_⟩
 ·simp(maxSteps:=9^7) (disch:=try exact dI) only[aU,Xc,push_cast,seval]
 ·omega
 intro m hm
 by_cases hlt:m<ps.length
 ·have hltI:(m:Int)<ps.length:=by omega
  obtain⟨x,hx⟩:∃ x,ps[m]? = some x:=⟨_,WT hlt⟩
  have hsn:=aN F hx
  have hol:=hFl m
  have hFx:=congrFun (congrFun hF x) m
  have hxo:=hpo.2.2.1 x (WV hx)
  generalize hB2:aF F (ps.take (m+1))=B2 at *
  generalize aF F (ps.take m)=bo at *
  obtain⟨nm,ver,t⟩:=x
  have hfd:=DG hx
  have hnB:=cU nm
  have hq1:=h54 nm ver
  rw[hfd] at hq1
  rw[WC] at hxo
  have hck:=g7 nm ver t hxo.2.2
  simp only[Px,di,Sch.name,Sch.version,Sch.typ,Prg.schemas] at hFx
  have e2:A0++B2=(((A0++bo)++aG [] [] (!az nm) 1 nm)++aG [] [] (az nm&&!decide (wN nm ver t=0)) 5 nm)++aG [] [] (decide (bL (ps.findIdx? (vsn nm ver))<(m:Int))) 2 nm:=by rw[hsn,<- hFx];simp only[W7];try rfl
  clear hsn hFx
  have z00:(A0++bo).length<=20000:=aA (m:=12000) (n:=8000) (by omega) (by omega)
  generalize A0++bo=o0 at *
  have z0:o0.length<=20000:=by (first | assumption | omega)
  have a1:=bB [] [] o0 (!az nm) 1 nm (by simp) (by omega)
  have z1:=aA z0 (am [] [] (!az nm) 1 nm)
  generalize ho1:o0++aG [] [] (!az nm) 1 nm=o1 at *
  have a2:=bB [] [] o1 (az nm&&!decide (wN nm ver t=0)) 5 nm (by simp) (by omega)
  have z2:=aA z1 (am [] [] (az nm&&!decide (wN nm ver t=0)) 5 nm)
  generalize ho2:o1++aG [] [] (az nm&&!decide (wN nm ver t=0)) 5 nm=o2 at *
  have a3:=bB [] [] o2 (decide (bL (ps.findIdx? (vsn nm ver))<(m:Int))) 2 nm (by simp) (by omega)
  have z3:=aA z2 (am [] [] (decide (bL (ps.findIdx? (vsn nm ver))<(m:Int))) 2 nm)
  generalize ho3:o2++aG [] [] (decide (bL (ps.findIdx? (vsn nm ver))<(m:Int))) 2 nm=o3 at *
  simp only[fU,XT] at a1 a2 a3
  generalize ib ⟨pv,ps,pe,pw,pr⟩ nm ver=b1 at *
  generalize bL (ps.findIdx? (vsn nm ver))=ix at *
  generalize wN nm ver t=ze at *
  generalize hnb:az nm=b0 at *
  simp only[Wv] at hq1
  obtain⟨t1,t2,t3,t4,t5,t6,t7⟩:=t
  simp only[WD,WO,ae,List.cons_append,Xl] at hck
  simp(maxSteps:=9^7) (disch:=try exact dI) only[hx,WD,WO,ae,push_cast,seval]
  refine ab.pure hnB rfl ?_
  simp(maxSteps:=9^7) (disch:=try exact dI) only[push_cast,seval]
  refine ab.pure hq1 rfl ?_
  simp(maxSteps:=9^7) (disch:=try exact dI) only[push_cast,seval]
  refine ab.lentK a1 [0,2] rfl qsZ qsZ ?_
  cases b0 with
  | false=>
    simp only[XR,Xv] at a2
    simp(maxSteps:=9^7) (disch:=try exact dI) only[push_cast,seval]
    refine ab.lentK a2 [0,11] rfl qsZ qsZ ?_
    simp(maxSteps:=9^7) (disch:=try exact dI) only[push_cast,seval]
    refine ab.lentK a3 [0,13] rfl qsZ qsZ ?_
    simp(maxSteps:=9^7) (disch:=try exact dI) only[push_cast,seval]
    exact⟨m+1,aJ (by simp(maxSteps:=9^7) (disch:=try exact dI) only[hB2,e2,push_cast,seval]),by omega,by omega⟩
  | true=>
    simp only[XR,Xv] at a2
    simp(maxSteps:=9^7) (disch:=try exact dI) only[push_cast,seval]
    refine ag hck rfl ?_
    simp(maxSteps:=9^7) (disch:=try exact dI) only[push_cast,seval]
    refine ab.lentK a2 [0,11] rfl qsZ qsZ ?_
    simp(maxSteps:=9^7) (disch:=try exact dI) only[push_cast,seval]
    refine ab.lentK a3 [0,14] rfl qsZ qsZ ?_
    simp(maxSteps:=9^7) (disch:=try exact dI) only[push_cast,seval]
    exact⟨m+1,aJ (by simp(maxSteps:=9^7) (disch:=try exact dI) only[hB2,e2,push_cast,seval]),by omega,by omega⟩
 ·have hltI:¬ (m:Int)<ps.length:=by omega
  have hle:ps.take m=ps:=WY (by omega)
  have hol:=hFl m
  rw[hle] at hol ⊢
  have hlB:(A0++aF F ps).length<=4000:=aA (m:=1000) (n:=3000) (by omega) (by omega)
  generalize hoB:A0++aF F ps=oB at *
  simp(maxSteps:=9^7) (disch:=try exact dI) only[push_cast,seval]
  refine au ([]) (fun m:Nat=>[(74,.pv (.int .i64 (m:Int)))]) (fun m=>[(0,.cells 85 true [.pv (.str []),.pv (.list []),.olist 2 4 ((oB++(ixO E [] 0 (pe.take m)).1).map Prb.pv)]),(1,.mp (mpS (ixO E [] 0 (pe.take m)).2))]) (fun m=>m<=pe.length) (fun m=>pe.length - m) (0) ?_;intro e0 σ0 n0 h0;simp(maxSteps:=9^7) (disch:=try exact dI) only[push_cast,seval] at h0;obtain⟨rfl,rfl,rfl⟩:=h0;refine⟨?_,?_,?_⟩
  ·simp(maxSteps:=9^7) (disch:=try exact dI) only[cu,Xc,push_cast,seval]
  ·omega
  intro m hm
  by_cases hlt:m<pe.length
  ·have hltI:(m:Int)<pe.length:=by omega
   obtain⟨x,hx⟩:∃ x,pe[m]? = some x:=⟨_,WT hlt⟩
   have hsn:=bK E [] hx
   have hol:=hEl m
   have hEx:=congrFun (congrFun (congrFun hE (ixO E [] 0 (pe.take m)).2) x) m
   generalize hB2:ixO E [] 0 (pe.take (m+1))=B2 at *
   generalize ixO E [] 0 (pe.take m)=B at *
   obtain⟨bo,N1⟩:=B
   simp only at hsn hol hEx
   obtain⟨nm,kd,sc,ver,⟨fk,fs,fw⟩⟩:=x
   have hnB:=cU nm
   have hq1:=h54 sc ver
   have hi1:=Ar kd 1 3
   have hi2:=Ar fk 1 4
   simp only[JF,Enp.name,Enp.kind,Enp.format,Enp.schema,Enp.version,Fmt.kind] at hEx
   have e2:oB++B2.1=((((oB++bo)++aG [] [] (!az nm) 1 nm)++aG [] [] (decide (nm∈N1)) 2 nm)++aG [] [] (!inR kd 1 3||!inR fk 1 4) 5 nm)++aG [] [] (!ib ⟨pv,ps,pe,pw,pr⟩ sc ver) 3 sc:=by rw[hsn,<- hEx];simp only[W7];try rfl
   have e3:B2.2=Fo N1 nm:=by rw[hsn,<- hEx]
   clear hsn hEx
   have z00:(oB++bo).length<=20000:=aA (m:=12000) (n:=8000) (by omega) (by omega)
   generalize oB++bo=o0 at *
   have z0:o0.length<=20000:=by (first | assumption | omega)
   have a1:=bB [] [] o0 (!az nm) 1 nm (by simp) (by omega)
   have z1:=aA z0 (am [] [] (!az nm) 1 nm)
   generalize ho1:o0++aG [] [] (!az nm) 1 nm=o1 at *
   have a2:=bB [] [] o1 (decide (nm∈N1)) 2 nm (by simp) (by omega)
   have z2:=aA z1 (am [] [] (decide (nm∈N1)) 2 nm)
   generalize ho2:o1++aG [] [] (decide (nm∈N1)) 2 nm=o2 at *
   have a3:=bB [] [] o2 (!inR kd 1 3||!inR fk 1 4) 5 nm (by simp) (by omega)
   have z3:=aA z2 (am [] [] (!inR kd 1 3||!inR fk 1 4) 5 nm)
   generalize ho3:o2++aG [] [] (!inR kd 1 3||!inR fk 1 4) 5 nm=o3 at *
   have a4:=bB [] [] o3 (!ib ⟨pv,ps,pe,pw,pr⟩ sc ver) 3 sc (by simp) (by omega)
   have z4:=aA z3 (am [] [] (!ib ⟨pv,ps,pe,pw,pr⟩ sc ver) 3 sc)
   generalize ho4:o3++aG [] [] (!ib ⟨pv,ps,pe,pw,pr⟩ sc ver) 3 sc=o4 at *
   simp only[fU,XT] at a1 a2 a3 a4
   generalize ib ⟨pv,ps,pe,pw,pr⟩ sc ver=b1 at *
   generalize inR kd 1 3=b2 at *
   generalize inR fk 1 4=b3 at *
   generalize max (bL (ps.findIdx? (vsn sc ver))) 0=mx at *
   simp only[Wv] at hq1
   simp(maxSteps:=9^7) (disch:=try exact dI) only[hx,Wm,Ws,ae,push_cast,seval]
   refine ab.pure hq1 rfl ?_
   simp(maxSteps:=9^7) (disch:=try exact dI) only[push_cast,seval]
   refine ag hnB rfl ?_
   simp(maxSteps:=9^7) (disch:=try exact dI) only[push_cast,seval]
   refine ab.lentK a1 [0,2] rfl qsZ qsZ ?_
   simp(maxSteps:=9^7) (disch:=try exact dI) only[push_cast,seval]
   refine ab.lentK a2 [0,11] rfl qsZ qsZ ?_
   simp(maxSteps:=9^7) (disch:=try exact dI) only[push_cast,seval]
   refine ag hi1 rfl ?_
   cases b2 with
   | false=>
     simp(maxSteps:=9^7) (disch:=try exact dI) only[push_cast,seval]
     simp only[Bool.not_true,Bool.not_false,X1,XQ] at a3
     refine ab.lentK a3 [0,15] rfl qsZ qsZ ?_
     simp(maxSteps:=9^7) (disch:=try exact dI) only[push_cast,seval]
     refine ab.lentK a4 [0,18] rfl qsZ qsZ ?_
     simp(maxSteps:=9^7) (disch:=try exact dI) only[push_cast,seval]
     exact⟨m+1,aJ (by simp(maxSteps:=9^7) (disch:=try exact dI) only[hB2,e2,e3,push_cast,seval]),by omega,by omega⟩
   | true=>
     simp(maxSteps:=9^7) (disch:=try exact dI) only[push_cast,seval]
     refine ag hi2 rfl ?_
     simp(maxSteps:=9^7) (disch:=try exact dI) only[push_cast,seval]
     simp only[Bool.not_true,Bool.not_false,X1,XQ] at a3
     refine ab.lentK a3 [0,15] rfl qsZ qsZ ?_
     simp(maxSteps:=9^7) (disch:=try exact dI) only[push_cast,seval]
     refine ab.lentK a4 [0,19] rfl qsZ qsZ ?_
     simp(maxSteps:=9^7) (disch:=try exact dI) only[push_cast,seval]
     exact⟨m+1,aJ (by simp(maxSteps:=9^7) (disch:=try exact dI) only[hB2,e2,e3,push_cast,seval]),by omega,by omega⟩
  ·have hltI:¬ (m:Int)<pe.length:=by omega
   have hle:pe.take m=pe:=WY (by omega)
   have hol:=hEl m
   rw[hle] at hol ⊢
   generalize hNC:(ixO E [] 0 pe).2=NC at *
   have hlC:(oB++(ixO E [] 0 pe).1).length<=8000:=aA (m:=4000) (n:=4000) (by omega) (by omega)
   have hfin:∀ w,A0++(aF F ps++((ixO E [] 0 pe).1++w))=(oB++(ixO E [] 0 pe).1)++w:=fun w=>by rw[<- hoB];simp only[W7]
   generalize oB++(ixO E [] 0 pe).1=oC at *
   simp(maxSteps:=9^7) (disch:=try exact dI) only[push_cast,seval]
   refine au ([]) (fun m:Nat=>[(131,.pv (.int .i64 (m:Int)))]) (fun m=>[(0,.cells 85 true [.pv (.str []),.pv (.list []),.olist 2 4 ((oC++(ixO V NC 0 (pw.take m)).1).map Prb.pv)]),(1,.mp (mpS (ixO V NC 0 (pw.take m)).2))]) (fun m=>m<=pw.length) (fun m=>pw.length - m) (0) ?_;intro e0 σ0 n0 h0;simp(maxSteps:=9^7) (disch:=try exact dI) only[push_cast,seval] at h0;obtain⟨rfl,rfl,rfl⟩:=h0;refine⟨?_,?_,?_⟩
   ·simp(maxSteps:=9^7) (disch:=try exact dI) only[cu,Xc,push_cast,seval]
   ·omega
   intro m hm
   by_cases hlt:m<pw.length
   ·have hltI:(m:Int)<pw.length:=by omega
    obtain⟨x,hx⟩:∃ x,pw[m]? = some x:=⟨_,WT hlt⟩
    have hsn:=bK V NC hx
    have hol:=hVl NC m
    have hVx:=congrFun (congrFun (congrFun hV2 (ixO V NC 0 (pw.take m)).2) x) m
    generalize hB2:ixO V NC 0 (pw.take (m+1))=B2 at *
    generalize ixO V NC 0 (pw.take m)=B at *
    obtain⟨bo,N1⟩:=B
    simp only at hsn hol hVx
    obtain⟨nm,rq,rp,ud⟩:=x
    have hnB:=cU nm
    have hq1:=h55 rq
    have hq2:=h55 rp
    simp only[LK,Svc.name,Svc.request,Svc.reply] at hVx
    have e2:oC++B2.1=((((oC++bo)++aG [] [] (!az nm) 1 nm)++aG [] [] (decide (nm∈N1)) 2 nm)++aG [] [] (!bw ⟨pv,ps,pe,pw,pr⟩ rq) 3 rq)++aG [] [] (!bw ⟨pv,ps,pe,pw,pr⟩ rp) 3 rp:=by rw[hsn,<- hVx];simp only[W7];try rfl
    have e3:B2.2=Fo N1 nm:=by rw[hsn,<- hVx]
    clear hsn hVx
    have z00:(oC++bo).length<=20000:=aA (m:=12000) (n:=8000) (by omega) (by omega)
    generalize oC++bo=o0 at *
    have z0:o0.length<=20000:=by (first | assumption | omega)
    have a1:=bB [] [] o0 (!az nm) 1 nm (by simp) (by omega)
    have z1:=aA z0 (am [] [] (!az nm) 1 nm)
    generalize ho1:o0++aG [] [] (!az nm) 1 nm=o1 at *
    have a2:=bB [] [] o1 (decide (nm∈N1)) 2 nm (by simp) (by omega)
    have z2:=aA z1 (am [] [] (decide (nm∈N1)) 2 nm)
    generalize ho2:o1++aG [] [] (decide (nm∈N1)) 2 nm=o2 at *
    have a3:=bB [] [] o2 (!bw ⟨pv,ps,pe,pw,pr⟩ rq) 3 rq (by simp) (by omega)
    have z3:=aA z2 (am [] [] (!bw ⟨pv,ps,pe,pw,pr⟩ rq) 3 rq)
    generalize ho3:o2++aG [] [] (!bw ⟨pv,ps,pe,pw,pr⟩ rq) 3 rq=o3 at *
    have a4:=bB [] [] o3 (!bw ⟨pv,ps,pe,pw,pr⟩ rp) 3 rp (by simp) (by omega)
    have z4:=aA z3 (am [] [] (!bw ⟨pv,ps,pe,pw,pr⟩ rp) 3 rp)
    generalize ho4:o3++aG [] [] (!bw ⟨pv,ps,pe,pw,pr⟩ rp) 3 rp=o4 at *
    simp only[fU,XT] at a1 a2 a3 a4
    generalize bw ⟨pv,ps,pe,pw,pr⟩ rq=b1 at *
    generalize bw ⟨pv,ps,pe,pw,pr⟩ rp=b2 at *
    simp only[Wv] at hq1 hq2
    simp(maxSteps:=9^7) (disch:=try exact dI) only[hx,WH,push_cast,seval]
    refine ab.pure hq1 rfl ?_
    simp(maxSteps:=9^7) (disch:=try exact dI) only[push_cast,seval]
    refine ab.pure hq2 rfl ?_
    simp(maxSteps:=9^7) (disch:=try exact dI) only[push_cast,seval]
    refine ag hnB rfl ?_
    simp(maxSteps:=9^7) (disch:=try exact dI) only[push_cast,seval]
    refine ab.lentK a1 [0,2] rfl qsZ qsZ ?_
    simp(maxSteps:=9^7) (disch:=try exact dI) only[push_cast,seval]
    refine ab.lentK a2 [0,12] rfl qsZ qsZ ?_
    simp(maxSteps:=9^7) (disch:=try exact dI) only[push_cast,seval]
    refine ab.lentK a3 [0,16] rfl qsZ qsZ ?_
    simp(maxSteps:=9^7) (disch:=try exact dI) only[push_cast,seval]
    refine ab.lentK a4 [0,18] rfl qsZ qsZ ?_
    simp(maxSteps:=9^7) (disch:=try exact dI) only[push_cast,seval]
    exact⟨m+1,aJ (by simp(maxSteps:=9^7) (disch:=try exact dI) only[hB2,e2,e3,push_cast,seval]),by omega,by omega⟩
   ·have hltI:¬ (m:Int)<pw.length:=by omega
    have hle:pw.take m=pw:=WY (by omega)
    rw[hle]
    simp(maxSteps:=9^7) (disch:=try exact dI) only[push_cast,seval]
    exact aH [] (by simp(maxSteps:=9^7) (disch:=try exact dI) only[hfin,push_cast,seval])
