/- A part. -/
import Derived.Test.YtngchmkoadaecaaGreatDoorPbJMi
set_option linter.unusedVariables false
set_option linter.unusedSimpArgs false
set_option maxHeartbeats 16000000
set_option maxRecDepth 100000
open List renaming length_take->Xf,nil_append->Xl,append_nil->Xc,getElem?_eq_getElem->WT,mem_of_getElem?->WV,append_assoc->W7,take_of_length_le->WY
open Bool renaming false_and->XR,true_and->Xv,true_or->X1,false_or->XQ
namespace Go.Proofs.YtngchmkoadaecaaGreatDoor
open Go Go.Ab
theorem No (l:List Prb):(l.all fun x=>x.pv.cells.length == 4)=true:=by simp[Prb.cells_len]
theorem xv (n:Nat)(hn:n<=400)(hcn:cnt n<=20000000)(p:Prg)(hp:okW n p)(hcal:∀ r∈p.routes,F4 n r.steps)(hok:p.ok)(hs1:p.schemas.length<=1000)(hs2:p.endpoints.length<=1000)(hs3:p.services.length<=1000) :
  ap Tryz.prog aC 10 [p.pv] (.list ((lm az di p n).map Prb.pv)):=by
 have hL:=Db n hn (by omega) p hp hok (by omega)
 have hLl:=iD p (cW n p)
 have hRt:=fun ri hri r hr N=>MB n hn hcn p hok hp hcal ri hri r hr N
 have h41:=fun nm v=>qV p nm v hok
 have h14:=fun nm=>na p nm hok
 unfold lm BE
 generalize hRf:G3 az p n=Rf at *
 have hRfl:∀ N m,m<=p.routes.length->(ixO Rf N 0 (p.routes.take m)).1.length<=6*(6+42*cnt n):=fun N m hm=>by
  have hp6:=hp.1
  have:=cH Rf (6+42*cnt n) (p.routes.take m) N 0 fun x hx N i=>by
   have hx2:=List.mem_of_mem_take hx
   rw[<- hRf]
   exact aA (mP az p x i) (cN az p i x.name n [] x.steps N (hp.2 x hx2).1 (hcal x hx2))
  have h2:(p.routes.take m).length<=6:=by rw[Xf];omega
  exact Nat.le_trans this (Nat.mul_le_mul_right _ h2)
 generalize Dc p (cW n p)=LO at *
 have hpo:=hok
 have hp6:=hp.1
 obtain⟨pv,ps,pe,pw,pr⟩:=p
 rw[Wu] at hpo
 simp only[Prg.schemas,Prg.endpoints,Prg.services,Prg.routes] at hs1 hs2 hs3 h41 h14 hRfl hRt hp6
 simp only[Wv] at hL hRt h41 h14
 unfold thO
 simp only[Prg.version,Prg.schemas,Prg.endpoints,Prg.services,Prg.routes]
 have hV:=lj pv 1 999
 have a0:=jp [] (!inR pv 1 999) 5 cp (by simp)
 rw[Xl] at a0
 have k0:=am [] [] (!inR pv 1 999) 5 cp
 generalize aG [] [] (!inR pv 1 999) 5 cp=A0 at *
 generalize inR pv 1 999=bV at *
 generalize hF:Px az di ⟨pv,ps,pe,pw,pr⟩=F at *
 have hFl:∀ m,(aF F (ps.take m)).length<=3000:=fun m=>by
  have:=bh F 3 (ps.take m) fun x _ i=>by rw[<- hF];exact aA (m:=1) (n:=2) (am _ _ _ _ _) (aA (m:=1) (n:=1) (am _ _ _ _ _) (am _ _ _ _ _))
  have h2:(ps.take m).length<=1000:=by rw[Xf];omega
  omega
 generalize hE:JF az ⟨pv,ps,pe,pw,pr⟩=E at *
 have hEl:∀ m,(ixO E [] 0 (pe.take m)).1.length<=4000:=fun m=>by
  have:=cH E 4 (pe.take m) [] 0 fun x _ N i=>by rw[<- hE];exact aA (m:=1) (n:=3) (am _ _ _ _ _) (aA (m:=1) (n:=2) (am _ _ _ _ _) (aA (m:=1) (n:=1) (am _ _ _ _ _) (am _ _ _ _ _)))
  have h2:(pe.take m).length<=1000:=by rw[Xf];omega
  omega
 generalize hV2:LK az ⟨pv,ps,pe,pw,pr⟩=V at *
 have hVl:∀ N m,(ixO V N 0 (pw.take m)).1.length<=4000:=fun N m=>by
  have:=cH V 4 (pw.take m) N 0 fun x _ N i=>by rw[<- hV2];exact aA (m:=1) (n:=3) (am _ _ _ _ _) (aA (m:=1) (n:=2) (am _ _ _ _ _) (aA (m:=1) (n:=1) (am _ _ _ _ _) (am _ _ _ _ _)))
  have h2:(pw.take m).length<=1000:=by rw[Xf];omega
  omega
 have hRr:=fun (m:Nat) (r:Rou) (hr:pr[m]? = some r) (N:NS)=>hRt m (by have:=(List.getElem?_eq_some_iff.1 hr).1;omega) r hr N
 clear hRt
 refine ap.intro Q10.2 (by simp[Q10]) ?_
 simp(maxSteps:=9^7) (disch:=try exact dI) only[Q10,Wv,push_cast,seval]
 refine ab.lentK hL [] rfl qsZ qsZ ?_
 by_cases hLO:LO=[]
 ·subst hLO
  rw[if_pos rfl]
  simp(maxSteps:=9^7) (disch:=try exact dI) only[push_cast,seval]
  refine ab.pure hV rfl ?_
  simp(maxSteps:=9^7) (disch:=try exact dI) only[cp,push_cast,seval]
  refine ab.lentK a0 [3,2] rfl (by simp(maxSteps:=9^7) (disch:=try exact dI) only[cp,push_cast,seval]) qsZ ?_
  simp(maxSteps:=9^7) (disch:=try exact dI) only[push_cast,seval]
  refine au ([]) (fun m:Nat=>[(5,.pv (.int .i64 (m:Int)))]) (fun m=>[(0,.cells 32 true [.olist 1 4 ((A0++aF F (ps.take m)).map Prb.pv)])]) (fun m=>m<=ps.length) (fun m=>ps.length - m) (0) ?_;intro e0 σ0 n0 h0;simp(maxSteps:=9^7) (disch:=try exact dI) only[push_cast,seval] at h0;obtain⟨rfl,rfl,rfl⟩:=h0;refine⟨?_,?_,?_⟩
  ·simp(maxSteps:=9^7) (disch:=try exact dI) only[aU,Xc,push_cast,seval]
  ·omega
  intro m hm
  by_cases hlt:m<ps.length
  ·have hltI:(m:Int)<ps.length:=by omega
   obtain⟨x,hx⟩:∃ x,ps[m]? = some x:=⟨_,WT hlt⟩
   have hsn:=aN F hx
   have hol:=hFl m
   have hFx:=congrFun (congrFun hF x) m
   have hxo:=hpo.2.2.1 x (WV hx)
   generalize hB2:aF F (ps.take (m+1))=B2 at *
   generalize aF F (ps.take m)=bo at *
   obtain⟨nm,ver,t⟩:=x
   have hnB:=cU nm
   have hq1:=h41 nm ver
   rw[WC] at hxo
   have hck:=g7 nm ver t hxo.2.2
   simp only[Px,di,Sch.name,Sch.version,Sch.typ,Prg.schemas] at hFx
   have e2:A0++B2=(((A0++bo)++aG [] [] (!az nm) 1 nm)++aG [] [] (az nm&&!decide (wN nm ver t=0)) 5 nm)++aG [] [] (decide (bL (ps.findIdx? (vsn nm ver))<(m:Int))) 2 nm:=by rw[hsn,<- hFx];simp only[W7];try rfl
   clear hsn hFx
   have z00:(A0++bo).length<=20000:=aA (m:=12000) (n:=8000) (by omega) (by omega)
   generalize A0++bo=o0 at *
   have z0:o0.length<=20000:=by (first | assumption | omega)
   have a1:=jp o0 (!az nm) 1 nm (by omega)
   have z1:=aA z0 (am [] [] (!az nm) 1 nm)
   generalize ho1:o0++aG [] [] (!az nm) 1 nm=o1 at *
   have a2:=jp o1 (az nm&&!decide (wN nm ver t=0)) 5 nm (by omega)
   have z2:=aA z1 (am [] [] (az nm&&!decide (wN nm ver t=0)) 5 nm)
   generalize ho2:o1++aG [] [] (az nm&&!decide (wN nm ver t=0)) 5 nm=o2 at *
   have a3:=jp o2 (decide (bL (ps.findIdx? (vsn nm ver))<(m:Int))) 2 nm (by omega)
   have z3:=aA z2 (am [] [] (decide (bL (ps.findIdx? (vsn nm ver))<(m:Int))) 2 nm)
   generalize ho3:o2++aG [] [] (decide (bL (ps.findIdx? (vsn nm ver))<(m:Int))) 2 nm=o3 at *
   generalize bL (ps.findIdx? (vsn nm ver))=ix at *
   generalize wN nm ver t=ze at *
   generalize hnb:az nm=b0 at *
   obtain⟨t1,t2,t3,t4,t5,t6,t7⟩:=t
   simp only[WD,WO,ae,List.cons_append,Xl] at hck
   simp(maxSteps:=9^7) (disch:=try exact dI) only[hx,WD,WO,ae,push_cast,seval]
   refine ag hnB rfl ?_
   simp(maxSteps:=9^7) (disch:=try exact dI) only[push_cast,seval]
   refine ab.lentK a1 [0,1] rfl qsZ qsZ ?_
   cases b0 with
   | false=>
     simp only[XR,Xv] at a2
     simp(maxSteps:=9^7) (disch:=try exact dI) only[push_cast,seval]
     refine ag hnB rfl ?_
     simp(maxSteps:=9^7) (disch:=try exact dI) only[push_cast,seval]
     refine ab.lentK a2 [0,9] rfl qsZ qsZ ?_
     simp(maxSteps:=9^7) (disch:=try exact dI) only[push_cast,seval]
     refine ag hq1 rfl ?_
     simp(maxSteps:=9^7) (disch:=try exact dI) only[push_cast,seval]
     refine ab.lentK a3 [0,12] rfl qsZ qsZ ?_
     simp(maxSteps:=9^7) (disch:=try exact dI) only[push_cast,seval]
     exact⟨m+1,aJ (by simp(maxSteps:=9^7) (disch:=try exact dI) only[hB2,e2,push_cast,seval]),by omega,by omega⟩
   | true=>
     simp only[XR,Xv] at a2
     simp(maxSteps:=9^7) (disch:=try exact dI) only[push_cast,seval]
     refine ag hnB rfl ?_
     simp(maxSteps:=9^7) (disch:=try exact dI) only[push_cast,seval]
     refine ag hck rfl ?_
     simp(maxSteps:=9^7) (disch:=try exact dI) only[push_cast,seval]
     refine ab.lentK a2 [0,9] rfl qsZ qsZ ?_
     simp(maxSteps:=9^7) (disch:=try exact dI) only[push_cast,seval]
     refine ag hq1 rfl ?_
     simp(maxSteps:=9^7) (disch:=try exact dI) only[push_cast,seval]
     refine ab.lentK a3 [0,13] rfl qsZ qsZ ?_
     simp(maxSteps:=9^7) (disch:=try exact dI) only[push_cast,seval]
     exact⟨m+1,aJ (by simp(maxSteps:=9^7) (disch:=try exact dI) only[hB2,e2,push_cast,seval]),by omega,by omega⟩
  ·have hltI:¬ (m:Int)<ps.length:=by omega
   have hle:ps.take m=ps:=WY (by omega)
   have hol:=hFl m
   rw[hle] at hol ⊢
   have hlB:(A0++aF F ps).length<=4000:=aA (m:=1000) (n:=3000) (by omega) (by omega)
   generalize hoB:A0++aF F ps=oB at *
   simp(maxSteps:=9^7) (disch:=try exact dI) only[push_cast,seval]
   refine au ([]) (fun m:Nat=>[(8,.pv (.int .i64 (m:Int)))]) (fun m=>[(0,.cells 32 true [.olist 2 4 ((oB++(ixO E [] 0 (pe.take m)).1).map Prb.pv)]),(1,.mp (mpS (ixO E [] 0 (pe.take m)).2))]) (fun m=>m<=pe.length) (fun m=>pe.length - m) (0) ?_;intro e0 σ0 n0 h0;simp(maxSteps:=9^7) (disch:=try exact dI) only[push_cast,seval] at h0;obtain⟨rfl,rfl,rfl⟩:=h0;refine⟨?_,?_,?_⟩
   ·simp(maxSteps:=9^7) (disch:=try exact dI) only[cu,Xc,CU,push_cast,seval]
   ·omega
   intro m hm
   by_cases hlt:m<pe.length
   ·have hltI:(m:Int)<pe.length:=by omega
    obtain⟨x,hx⟩:∃ x,pe[m]? = some x:=⟨_,WT hlt⟩
    have hsn:=bK E [] hx
    have hol:=hEl m
    have hEx:=congrFun (congrFun (congrFun hE (ixO E [] 0 (pe.take m)).2) x) m
    generalize hB2:ixO E [] 0 (pe.take (m+1))=B2 at *
    generalize ixO E [] 0 (pe.take m)=B at *
    obtain⟨bo,N1⟩:=B
    simp only at hsn hol hEx
    obtain⟨nm,kd,sc,ver,⟨fk,fs,fw⟩⟩:=x
    have hnB:=cU nm
    have hq1:=h41 sc ver
    have hi1:=lj kd 1 3
    have hi2:=lj fk 1 4
    simp only[JF,Enp.name,Enp.kind,Enp.format,Enp.schema,Enp.version,Fmt.kind] at hEx
    have e2:oB++B2.1=((((oB++bo)++aG [] [] (!az nm) 1 nm)++aG [] [] (decide (nm∈N1)) 2 nm)++aG [] [] (!inR kd 1 3||!inR fk 1 4) 5 nm)++aG [] [] (!ib ⟨pv,ps,pe,pw,pr⟩ sc ver) 3 sc:=by rw[hsn,<- hEx];simp only[W7];try rfl
    have e3:B2.2=Fo N1 nm:=by rw[hsn,<- hEx]
    clear hsn hEx
    have f1:decide (bL (ps.findIdx? (vsn sc ver))<0)=!ib ⟨pv,ps,pe,pw,pr⟩ sc ver:=iF _
    have z00:(oB++bo).length<=20000:=aA (m:=12000) (n:=8000) (by omega) (by omega)
    generalize oB++bo=o0 at *
    have z0:o0.length<=20000:=by (first | assumption | omega)
    have a1:=jp o0 (!az nm) 1 nm (by omega)
    have z1:=aA z0 (am [] [] (!az nm) 1 nm)
    generalize ho1:o0++aG [] [] (!az nm) 1 nm=o1 at *
    have a2:=jp o1 (decide (nm∈N1)) 2 nm (by omega)
    have z2:=aA z1 (am [] [] (decide (nm∈N1)) 2 nm)
    generalize ho2:o1++aG [] [] (decide (nm∈N1)) 2 nm=o2 at *
    have a3:=jp o2 (!inR kd 1 3||!inR fk 1 4) 5 nm (by omega)
    have z3:=aA z2 (am [] [] (!inR kd 1 3||!inR fk 1 4) 5 nm)
    generalize ho3:o2++aG [] [] (!inR kd 1 3||!inR fk 1 4) 5 nm=o3 at *
    have a4:=jp o3 (!ib ⟨pv,ps,pe,pw,pr⟩ sc ver) 3 sc (by omega)
    have z4:=aA z3 (am [] [] (!ib ⟨pv,ps,pe,pw,pr⟩ sc ver) 3 sc)
    generalize ho4:o3++aG [] [] (!ib ⟨pv,ps,pe,pw,pr⟩ sc ver) 3 sc=o4 at *
    rw[<- f1] at a4
    generalize bL (ps.findIdx? (vsn sc ver))=ix at *
    generalize inR kd 1 3=b2 at *
    generalize inR fk 1 4=b3 at *
    simp(maxSteps:=9^7) (disch:=try exact dI) only[hx,Wm,Ws,ae,push_cast,seval]
    refine ag hnB rfl ?_
    simp(maxSteps:=9^7) (disch:=try exact dI) only[push_cast,seval]
    refine ab.lentK a1 [0,2] rfl qsZ qsZ ?_
    simp(maxSteps:=9^7) (disch:=try exact dI) only[push_cast,seval]
    refine ab.lentK a2 [0,10] rfl qsZ qsZ ?_
    simp(maxSteps:=9^7) (disch:=try exact dI) only[push_cast,seval]
    refine ag hi1 rfl ?_
    cases b2 with
    | false=>
      simp(maxSteps:=9^7) (disch:=try exact dI) only[push_cast,seval]
      simp only[Bool.not_true,Bool.not_false,X1,XQ] at a3
      refine ab.lentK a3 [0,14] rfl qsZ qsZ ?_
      simp(maxSteps:=9^7) (disch:=try exact dI) only[push_cast,seval]
      refine ag hq1 rfl ?_
      simp(maxSteps:=9^7) (disch:=try exact dI) only[push_cast,seval]
      refine ab.lentK a4 [0,17] rfl qsZ qsZ ?_
      simp(maxSteps:=9^7) (disch:=try exact dI) only[push_cast,seval]
      exact⟨m+1,aJ (by simp(maxSteps:=9^7) (disch:=try exact dI) only[hB2,e2,e3,push_cast,seval]),by omega,by omega⟩
    | true=>
      simp(maxSteps:=9^7) (disch:=try exact dI) only[push_cast,seval]
      refine ag hi2 rfl ?_
      simp(maxSteps:=9^7) (disch:=try exact dI) only[push_cast,seval]
      simp only[Bool.not_true,Bool.not_false,X1,XQ] at a3
      refine ab.lentK a3 [0,14] rfl qsZ qsZ ?_
      simp(maxSteps:=9^7) (disch:=try exact dI) only[push_cast,seval]
      refine ag hq1 rfl ?_
      simp(maxSteps:=9^7) (disch:=try exact dI) only[push_cast,seval]
      refine ab.lentK a4 [0,18] rfl qsZ qsZ ?_
      simp(maxSteps:=9^7) (disch:=try exact dI) only[push_cast,seval]
      exact⟨m+1,aJ (by simp(maxSteps:=9^7) (disch:=try exact dI) only[hB2,e2,e3,push_cast,seval]),by omega,by omega⟩
   ·have hltI:¬ (m:Int)<pe.length:=by omega
    have hle:pe.take m=pe:=WY (by omega)
    have hol:=hEl m
    rw[hle] at hol ⊢
    generalize hNC:(ixO E [] 0 pe).2=NC at *
    have hlC:(oB++(ixO E [] 0 pe).1).length<=8000:=aA (m:=4000) (n:=4000) (by omega) (by omega)
    have hfin:∀ w,A0++(aF F ps++((ixO E [] 0 pe).1++w))=(oB++(ixO E [] 0 pe).1)++w:=fun w=>by rw[<- hoB];simp only[W7]
    generalize oB++(ixO E [] 0 pe).1=oC at *
    simp(maxSteps:=9^7) (disch:=try exact dI) only[push_cast,seval]
    refine au ([]) (fun m:Nat=>[(10,.pv (.int .i64 (m:Int)))]) (fun m=>[(0,.cells 32 true [.olist 2 4 ((oC++(ixO V NC 0 (pw.take m)).1).map Prb.pv)]),(1,.mp (mpS (ixO V NC 0 (pw.take m)).2))]) (fun m=>m<=pw.length) (fun m=>pw.length - m) (0) ?_;intro e0 σ0 n0 h0;simp(maxSteps:=9^7) (disch:=try exact dI) only[push_cast,seval] at h0;obtain⟨rfl,rfl,rfl⟩:=h0;refine⟨?_,?_,?_⟩
    ·simp(maxSteps:=9^7) (disch:=try exact dI) only[cu,Xc,push_cast,seval]
    ·omega
    intro m hm
    by_cases hlt:m<pw.length
    ·have hltI:(m:Int)<pw.length:=by omega
     obtain⟨x,hx⟩:∃ x,pw[m]? = some x:=⟨_,WT hlt⟩
     have hsn:=bK V NC hx
     have hol:=hVl NC m
     have hVx:=congrFun (congrFun (congrFun hV2 (ixO V NC 0 (pw.take m)).2) x) m
     generalize hB2:ixO V NC 0 (pw.take (m+1))=B2 at *
     generalize ixO V NC 0 (pw.take m)=B at *
     obtain⟨bo,N1⟩:=B
     simp only at hsn hol hVx
     obtain⟨nm,rq,rp,ud⟩:=x
     have hnB:=cU nm
     have hq1:=h14 rq
     have hq2:=h14 rp
     simp only[LK,Svc.name,Svc.request,Svc.reply] at hVx
     have e2:oC++B2.1=((((oC++bo)++aG [] [] (!az nm) 1 nm)++aG [] [] (decide (nm∈N1)) 2 nm)++aG [] [] (!bw ⟨pv,ps,pe,pw,pr⟩ rq) 3 rq)++aG [] [] (!bw ⟨pv,ps,pe,pw,pr⟩ rp) 3 rp:=by rw[hsn,<- hVx];simp only[W7];try rfl
     have e3:B2.2=Fo N1 nm:=by rw[hsn,<- hVx]
     clear hsn hVx
     have f1:decide (bL (ec ps rq ps.length)<0)=!bw ⟨pv,ps,pe,pw,pr⟩ rq:=iF _
     have f2:decide (bL (ec ps rp ps.length)<0)=!bw ⟨pv,ps,pe,pw,pr⟩ rp:=iF _
     have z00:(oC++bo).length<=20000:=aA (m:=12000) (n:=8000) (by omega) (by omega)
     generalize oC++bo=o0 at *
     have z0:o0.length<=20000:=by (first | assumption | omega)
     have a1:=jp o0 (!az nm) 1 nm (by omega)
     have z1:=aA z0 (am [] [] (!az nm) 1 nm)
     generalize ho1:o0++aG [] [] (!az nm) 1 nm=o1 at *
     have a2:=jp o1 (decide (nm∈N1)) 2 nm (by omega)
     have z2:=aA z1 (am [] [] (decide (nm∈N1)) 2 nm)
     generalize ho2:o1++aG [] [] (decide (nm∈N1)) 2 nm=o2 at *
     have a3:=jp o2 (!bw ⟨pv,ps,pe,pw,pr⟩ rq) 3 rq (by omega)
     have z3:=aA z2 (am [] [] (!bw ⟨pv,ps,pe,pw,pr⟩ rq) 3 rq)
     generalize ho3:o2++aG [] [] (!bw ⟨pv,ps,pe,pw,pr⟩ rq) 3 rq=o3 at *
     have a4:=jp o3 (!bw ⟨pv,ps,pe,pw,pr⟩ rp) 3 rp (by omega)
     have z4:=aA z3 (am [] [] (!bw ⟨pv,ps,pe,pw,pr⟩ rp) 3 rp)
     generalize ho4:o3++aG [] [] (!bw ⟨pv,ps,pe,pw,pr⟩ rp) 3 rp=o4 at *
     rw[<- f1] at a3
     rw[<- f2] at a4
     generalize bL (ec ps rq ps.length)=i1 at *
     generalize bL (ec ps rp ps.length)=i2 at *
     simp(maxSteps:=9^7) (disch:=try exact dI) only[hx,WH,push_cast,seval]
     refine ag hnB rfl ?_
     simp(maxSteps:=9^7) (disch:=try exact dI) only[push_cast,seval]
     refine ab.lentK a1 [0,2] rfl qsZ qsZ ?_
     simp(maxSteps:=9^7) (disch:=try exact dI) only[push_cast,seval]
     refine ab.lentK a2 [0,10] rfl qsZ qsZ ?_
     simp(maxSteps:=9^7) (disch:=try exact dI) only[push_cast,seval]
     refine ag hq1 rfl ?_
     simp(maxSteps:=9^7) (disch:=try exact dI) only[push_cast,seval]
     refine ab.lentK a3 [0,14] rfl qsZ qsZ ?_
     simp(maxSteps:=9^7) (disch:=try exact dI) only[push_cast,seval]
     refine ag hq2 rfl ?_
     simp(maxSteps:=9^7) (disch:=try exact dI) only[push_cast,seval]
     refine ab.lentK a4 [0,18] rfl qsZ qsZ ?_
     simp(maxSteps:=9^7) (disch:=try exact dI) only[push_cast,seval]
     exact⟨m+1,aJ (by simp(maxSteps:=9^7) (disch:=try exact dI) only[hB2,e2,e3,push_cast,seval]),by omega,by omega⟩
    ·have hltI:¬ (m:Int)<pw.length:=by omega
     have hle:pw.take m=pw:=WY (by omega)
     have hol:=hVl NC m
     rw[hle] at hol ⊢
     generalize hND:(ixO V NC 0 pw).2=ND at *
     have hlD:(oC++(ixO V NC 0 pw).1).length<=100000:=aA (m:=50000) (n:=50000) (by omega) (by omega)
     have hfin2:A0++(aF F ps++((ixO E [] 0 pe).1++((ixO V NC 0 pw).1++(ixO Rf ND 0 pr).1)))=(oC++(ixO V NC 0 pw).1)++(ixO Rf ND 0 pr).1:=by rw[hfin,W7]
     generalize oC++(ixO V NC 0 pw).1=oD at *
     simp(maxSteps:=9^7) (disch:=try exact dI) only[push_cast,seval]
     refine au ([]) (fun m:Nat=>[(12,.pv (.int .i64 (m:Int)))]) (fun m=>[(0,.cells 32 true [.olist 2 4 ((oD++(ixO Rf ND 0 (pr.take m)).1).map Prb.pv)]),(1,.mp (mpS (ixO Rf ND 0 (pr.take m)).2))]) (fun m=>m<=pr.length) (fun m=>pr.length - m) (0) ?_;intro e0 σ0 n0 h0;simp(maxSteps:=9^7) (disch:=try exact dI) only[push_cast,seval] at h0;obtain⟨rfl,rfl,rfl⟩:=h0;refine⟨?_,?_,?_⟩
     ·simp(maxSteps:=9^7) (disch:=try exact dI) only[cu,Xc,push_cast,seval]
     ·omega
     intro m hm
     by_cases hlt:m<pr.length
     ·have hltI:(m:Int)<pr.length:=by omega
      obtain⟨x,hx⟩:∃ x,pr[m]? = some x:=⟨_,WT hlt⟩
      have hsn:=bK Rf ND hx
      have hol:=hRfl ND m (by omega)
      have hol1:=hRfl ND (m+1) (by omega)
      have hcall:=hRr m x hx (ixO Rf ND 0 (pr.take m)).2
      generalize hB2:ixO Rf ND 0 (pr.take (m+1))=B2 at *
      generalize ixO Rf ND 0 (pr.take m)=B at *
      obtain⟨bo,N1⟩:=B
      simp only at hsn hol hcall
      have e2:oD++B2.1=(oD++bo)++(Rf N1 x m).1:=by rw[hsn];simp only[W7]
      have e3:B2.2=(Rf N1 x m).2:=by rw[hsn]
      have hrl:(Rf N1 x m).1.length<=6000000000:=by rw[hsn] at hol1;simp only[List.length_append] at hol1;omega
      have z00:(oD++bo).length<=7000000000:=aA (m:=100000) (n:=6999900000) (by omega) (by omega)
      clear hsn
      generalize oD++bo=o0 at *
      generalize Rf N1 x m=Rx at *
      obtain⟨rx,nx⟩:=Rx
      simp only at hcall hrl e2 e3
      simp(maxSteps:=9^7) (disch:=try exact dI) only[hx,push_cast,seval]
      refine ja hcall [1] rfl qsZ qsZ ?_
      simp(maxSteps:=9^7) (disch:=try exact dI) only[No,push_cast,seval]
      exact⟨m+1,aJ (by simp(maxSteps:=9^7) (disch:=try exact dI) only[hB2,e2,e3,List.map_append,push_cast,seval]),by omega,by omega⟩
     ·have hltI:¬ (m:Int)<pr.length:=by omega
      have hle:pr.take m=pr:=WY (by omega)
      rw[hle]
      simp(maxSteps:=9^7) (disch:=try exact dI) only[hfin2,push_cast,seval]
 ·rw[if_neg hLO]
  have h0:(0:Int)<LO.length:=by have:=List.length_pos_iff.2 hLO;omega
  simp(maxSteps:=9^7) (disch:=try exact dI) only[push_cast,seval]
def Pl (k:Nat)(l:List Prb):Prop:=∀ x∈l,x.place.length<=k
theorem vA (k:Nat):Pl k []:=fun x hx=>by simp at hx
theorem bi {k:Nat}{a b:List Prb}(h1:Pl k a)(h2:Pl k b):Pl k (a++b):=fun x hx=>by
 rcases List.mem_append.1 hx with h | h
 ·exact h1 x h
 ·exact h2 x h
theorem gd {k:Nat}(r:List UInt8){pl:List Int}(b:Bool)(c:Int)(nm:List UInt8)(h:pl.length<=k):Pl k (aG r pl b c nm):=by
 cases b with
 | false=>exact vA k
 | true=>intro x hx;rw[oF,List.mem_singleton] at hx;subst hx;exact h
theorem Te {α:Type}{k:Nat}(F:α->Nat->List Prb)(l:List α)(h:∀ x i,Pl k (F x i)):Pl k (aF F l):=fun y hy=>by
 obtain⟨i,x,_,hx⟩:=cj hy
 exact h x i y hx
theorem mE {α:Type}{k:Nat}(F:NS->α->Nat->List Prb×NS):∀ (l:List α) (N:NS) (i:Nat),(∀ N x j,j<i+l.length->Pl k (F N x j).1)->Pl k (ixO F N i l).1
 | [],N,i,h=>vA k
 | x::r,N,i,h=>by
   rw[ixO]
   exact bi (h N x i (by simp)) (mE F r _ (i+1) fun N x j hj=>h N x j (by simp only[List.length_cons];omega))
theorem Tc {k:Nat}(p:Prg)(rn:List UInt8){pl:List Int}(s:Stp)(h:pl.length<=k):Pl k (FW p rn pl s):=by
 unfold FW Pw toO
 refine bi ?_ (bi (gd _ _ _ _ h) (Te _ _ fun c i=>bi (gd _ _ _ _ h) (gd _ _ _ _ h)))
 split
 ·exact bi (gd _ _ _ _ h) (gd _ _ _ _ h)
 ·exact vA k
theorem Td {k:Nat}(isN:List UInt8->Bool)(p:Prg)(route:Int)(rn:List UInt8)(N:NS)(s:Stp){pl:List Int}{beh:List Prb}(h:pl.length<=k)(hb:Pl k beh):Pl k (stO isN p route rn N s pl beh).1:=by
 simp only[stO,stF]
 refine bi (gd _ _ _ _ h) (bi (gd _ _ _ _ h) (bi hb ?_))
 split
 ·exact Tc p rn s h
 ·exact gd _ _ _ _ h
theorem vz (isN:List UInt8->Bool)(p:Prg)(route:Int)(rn:List UInt8):∀ (n:Nat) (pl:List Int) (l:List Stp) (N:NS) (k:Nat),pl.length+2*n<=k->Pl k (bC isN p route rn n pl l N).1
 | 0,pl,l,N,k,h=>vA k
 | n+1,pl,l,N,k,h=>by
   rw[bC]
   refine mE _ l N 0 fun N s i _=>bi (Td isN p route rn N s (by simp;omega) (gd _ _ _ _ (by simp;omega))) (mE _ s.branches _ 0 fun N b j _=>vz isN p route rn n _ _ N k (by simp;omega))
theorem Pp (isN:List UInt8->Bool)(chk:Sch->Bool)(p:Prg)(n:Nat):Pl (2*n) (lm isN chk p n):=by
 have a:∀ (r:List UInt8) (b:Bool) (c:Int) (nm:List UInt8),Pl (2*n) (aG r [] b c nm):=fun r b c nm=>gd r b c nm (by simp)
 unfold lm
 split
 ·unfold BE
  refine bi ?_ (mE _ p.routes _ 0 fun N r i _=>?_)
  ·simp only[thO]
   exact bi (a _ _ _ _) (bi (Te _ _ fun x i=>bi (a _ _ _ _) (bi (a _ _ _ _) (a _ _ _ _))) (bi (mE _ _ _ 0 fun N x j _=>bi (a _ _ _ _) (bi (a _ _ _ _) (bi (a _ _ _ _) (a _ _ _ _))))
    (mE _ _ _ 0 fun N x j _=>bi (a _ _ _ _) (bi (a _ _ _ _) (bi (a _ _ _ _) (a _ _ _ _))))))
  ·simp only[G3]
   exact bi (bi (a _ _ _ _) (bi (a _ _ _ _) (bi (a _ _ _ _) (bi (a _ _ _ _) (bi (a _ _ _ _) (a _ _ _ _)))))) (vz isN p i r.name n [] r.steps N _ (by simp))
 ·exact bi (a _ _ _ _) (bi (a _ _ _ _) (bi (a _ _ _ _) (bi (a _ _ _ _) (bi (a _ _ _ _) (bi (a _ _ _ _) (a _ _ _ _))))))
theorem TW (b:List Prb)(hb:b.length<=9000000000000)(hp:∀ x∈b,x.place.length<=1000000):ap Tryz.prog aC 8 [.list ((b.take 200).map Prb.pv),.list (b.map Prb.pv)] (.bool true):=by
 have hlen:(((b.take 200).length:Nat):Int)=min (b.length:Int) 200:=by rw[Xf];omega
 have hl2:(b.take 200).length<=b.length:=by rw[Xf];omega
 have hget:∀ i x,(b.take 200)[i]? = some x->b[i]? = some x:=fun i x h=>by rw[List.getElem?_take] at h;split at h<;>first | exact h | cases h
 generalize b.take 200=a at *
 refine ap.intro VH (by simp[F8]) ?_
 simp(maxSteps:=9^7) (disch:=try exact dI) only[F8,hlen,push_cast,seval]
 refine au ([]) (fun m:Nat=>[(5,.pv (.int .i64 (m:Int)))]) (fun _=>[]) (fun m=>m<=a.length) (fun m=>a.length - m) (0) ?_;intro e0 σ0 n0 h0;simp(maxSteps:=9^7) (disch:=try exact dI) only[push_cast,seval] at h0;obtain⟨rfl,rfl,rfl⟩:=h0;refine⟨?_,?_,?_⟩
 ·simp(maxSteps:=9^7) (disch:=try exact dI) only[push_cast,seval]
 ·omega
 intro m hm
 by_cases hlt:m<a.length
 ·have hltI:(m:Int)<a.length:=by omega
  obtain⟨x,hx⟩:∃ x,a[m]? = some x:=⟨_,WT hlt⟩
  have hx2:=hget m x hx
  have hpl:=Np x.place x.place (hp x (WV hx2)) (by have:=hp x (WV hx2);omega)
  rw[decide_eq_true rfl] at hpl
  obtain⟨x1,x2,x3,x4⟩:=x
  simp only[Prb.place] at hpl
  simp(maxSteps:=9^7) (disch:=try exact dI) only[hx,hx2,Wt,hltI,push_cast,seval]
  refine ab.pure hpl rfl ?_
  simp(maxSteps:=9^7) (disch:=try exact dI) only[push_cast,seval]
  exact⟨m+1,aJ qsZ,by omega,by omega⟩
 ·have hltI:¬ (m:Int)<a.length:=by omega
  simp(maxSteps:=9^7) (disch:=try exact dI) only[hltI,push_cast,seval]
