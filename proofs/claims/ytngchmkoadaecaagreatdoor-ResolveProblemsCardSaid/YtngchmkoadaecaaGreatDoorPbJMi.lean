/- A part. -/
import Derived.Test.YtngchmkoadaecaaGreatDoorPbJMs
set_option linter.unusedVariables false
set_option linter.unusedSimpArgs false
set_option maxHeartbeats 16000000
set_option maxRecDepth 100000
open List renaming length_append->W0,mem_of_getElem?->WV,length_nil->Xn,append_assoc->W7,nil_append->Xl,take_zero->Xy,getElem?_eq_getElem->WT,append_nil->Xc,take_of_length_le->WY
namespace Go.Proofs.YtngchmkoadaecaaGreatDoor
open Go Go.Ab
theorem K3 (isN:List UInt8->Bool)(p:Prg)(route:Int)(rn:List UInt8)(N:NS){ws:List Wkd}{m:Nat}{x:Wkd}(hx:ws[m]? = some x):(ed rn (ws.take m) x.place).length<=(mO isN p route rn N [] (ws.take (m+1))).1.length:=by
 rw[sI isN p route rn N hx]
 simp only[stO,stF,W0]
 omega
theorem MB (n:Nat)(hn:n<=400)(hcn:cnt n<=20000000)(p:Prg)(hok:p.ok)(hp:okW n p)(hcal:∀ r∈p.routes,F4 n r.steps)(ri:Nat)(hri:ri<10)(r:Rou)(hr:p.routes[ri]? = some r)(N:NS) :
  bz Tryz.prog aC 1 42 [.pv p.pv,.pv (.int .i64 (ri:Int)),.mp 0] [.mp (mpS N)] (.pv (.list ((G3 az p n N r ri).1.map Prb.pv))) [.mp (mpS (G3 az p n N r ri).2)]:=by
 have hrm:=WV hr
 have hrB:=hp.2 r hrm
 have hrC:=hcal r hrm
 have hen:=fun nm=>KT p nm hok
 have hse:=fun nm=>Kr p nm hok
 have hlt:=fun nm=>na p nm hok
 have hst:=Bh (ri:Int) n [] r.steps hrB.1 (by simp only[Xn];omega) (by omega)
 have hst:ap Tryz.prog aC 43 [.int .i64 (ri:Int),.nils,.list (r.steps.map Stp.pv)] (.list ((aL (ri:Int) n [] r.steps).map Wkd.pv)):=hst.nz (.cons _ _ _ _ (.refl _) (.cons _ _ _ _ .nils (.cons _ _ _ _ (.refl _) .nil)))
 have hfin:=yN r.steps hrB.2
 have hnB:=cU r.name
 have hwA:=fun w hw=>lJ (ri:Int) n [] r.steps w hrB.1 hrB.2 hrC (by simp) hw
 have hwL:=fun w hw=>gn (ri:Int) n [] r.steps w hw
 have hwl:=bd (ri:Int) n [] r.steps hrB.1
 have hmS:=uz az p (ri:Int) r.name n [] r.steps [] N (by simp)
 have hmT:∀ m,(mO az p (ri:Int) r.name N [] ((aL (ri:Int) n [] r.steps).take m)).1.length<=42*cnt n:=fun m=>by
  refine Nat.le_trans (NQ az p (ri:Int) r.name N _ m) ?_
  rw[hmS]
  exact cN az p (ri:Int) r.name n [] r.steps N hrB.1 hrC
 unfold G3
 simp only
 rw[<- hmS]
 clear hmS hrB hrC
 generalize aL (ri:Int) n [] r.steps=ws at *
 have hp6:=hp.1
 have hri6:ri<p.routes.length:=(List.getElem?_eq_some_iff.1 hr).1
 obtain⟨pv,ps,pe,pw,pr⟩:=p
 have hpo:=hok
 rw[Wu] at hpo
 obtain⟨rnm,rsrc,rst⟩:=r
 simp only[Prg.routes,Rou.name,Rou.src,Rou.steps] at *
 simp only[Wv] at hen hse hlt
 simp only[Prg.schemas] at hlt
 obtain⟨RA,hRA⟩:∃ RA,RA=Qx az ⟨pv,ps,pe,pw,pr⟩ ⟨rnm,rsrc,rst⟩ ri:=⟨_,rfl⟩
 rw[<- hRA]
 have hRA:RA=(((((aG rnm [] (!az rnm) 1 rnm++aG rnm [] ((pr.take ri).any fun x=>decide (x.name=rnm)) 2 rnm)++aG rnm [] (!dH ⟨pv,ps,pe,pw,pr⟩ rsrc) 3 rsrc)++aG rnm [] (lx ⟨pv,ps,pe,pw,pr⟩ rsrc 2) 4 rsrc)++aG rnm [] ((pr.take ri).any fun x=>decide (x.src=rsrc)) 2 rsrc)++aG rnm [] (!d8 rst) 6 []):=by rw[hRA];simp only[Qx,Prg.routes,Rou.name,Rou.src,Rou.steps,W7];rfl
 have a1:=fV rnm rsrc (rst.map Stp.pv) [] [] (!az rnm) 1 rnm (by simp)
 rw[Xl] at a1
 have z1:=am rnm [] (!az rnm) 1 rnm
 generalize aG rnm [] (!az rnm) 1 rnm=o1 at *
 have a2:=fV rnm rsrc (rst.map Stp.pv) [] o1 ((pr.take ri).any fun x=>decide (x.name=rnm)) 2 rnm (by omega)
 have z2:=aA z1 (am rnm [] ((pr.take ri).any fun x=>decide (x.name=rnm)) 2 rnm)
 generalize o1++aG rnm [] ((pr.take ri).any fun x=>decide (x.name=rnm)) 2 rnm=o2 at *
 have a3:=fV rnm rsrc (rst.map Stp.pv) [] o2 (!dH ⟨pv,ps,pe,pw,pr⟩ rsrc) 3 rsrc (by omega)
 have z3:=aA z2 (am rnm [] (!dH ⟨pv,ps,pe,pw,pr⟩ rsrc) 3 rsrc)
 generalize o2++aG rnm [] (!dH ⟨pv,ps,pe,pw,pr⟩ rsrc) 3 rsrc=o3 at *
 have a4:=fV rnm rsrc (rst.map Stp.pv) [] o3 (lx ⟨pv,ps,pe,pw,pr⟩ rsrc 2) 4 rsrc (by omega)
 have z4:=aA z3 (am rnm [] (lx ⟨pv,ps,pe,pw,pr⟩ rsrc 2) 4 rsrc)
 generalize o3++aG rnm [] (lx ⟨pv,ps,pe,pw,pr⟩ rsrc 2) 4 rsrc=o4 at *
 have a5:=fV rnm rsrc (rst.map Stp.pv) [] o4 ((pr.take ri).any fun x=>decide (x.src=rsrc)) 2 rsrc (by omega)
 have z5:=aA z4 (am rnm [] ((pr.take ri).any fun x=>decide (x.src=rsrc)) 2 rsrc)
 generalize o4++aG rnm [] ((pr.take ri).any fun x=>decide (x.src=rsrc)) 2 rsrc=o5 at *
 have a6:=fV rnm rsrc (rst.map Stp.pv) [] o5 (!d8 rst) 6 [] (by omega)
 have z6:=aA z5 (am rnm [] (!d8 rst) 6 [])
 generalize o5++aG rnm [] (!d8 rst) 6 []=o6 at *
 subst hRA
 have hen1:=hen rsrc
 refine bz.intro Ts (by simp[F42]) ?_
 simp(maxSteps:=9^7) (disch:=try exact dI) only[F42,V3,Tq,Tp,To,Tn,Tm,Th,Wv,hr,Wy,push_cast,seval]
 refine ag hnB rfl ?_
 simp(maxSteps:=9^7) (disch:=try exact dI) only[push_cast,seval]
 refine ab.nilB 6 0 82 4 qsZ ?_
 simp(maxSteps:=9^7) (disch:=try exact dI) only[push_cast,seval]
 simp only[List.map_nil] at a1 a2 a3 a4 a5 a6
 refine ab.lentK a1 [6,4,9] rfl qsZ qsZ ?_
 simp(maxSteps:=9^7) (disch:=try exact dI) only[Tl,Tk,push_cast,seval]
 refine au ([]) (fun k:Nat=>[(10,.pv (.bool ((pr.take k).any fun x=>decide (x.name=rnm)))),(11,.pv (.bool ((pr.take k).any fun x=>decide (x.src=rsrc)))),(12,.pv (.int .i64 (k:Int)))]) (fun k=>[]) (fun k=>k<=ri) (fun k=>ri - k) (0) ?_;intro e0 σ0 n0 h0;simp(maxSteps:=9^7) (disch:=try exact dI) only[push_cast,seval] at h0;obtain⟨rfl,rfl,rfl⟩:=h0;refine⟨?_,?_,?_⟩
 ·simp(maxSteps:=9^7) (disch:=try exact dI) only[Xy,List.any_nil,push_cast,seval]
 ·omega
 intro k hk
 by_cases hlk:k<ri
 ·have hlkI:(k:Int)<(ri:Int):=by omega
  obtain⟨y,hy⟩:∃ y,pr[k]? = some y:=⟨_,WT (by omega)⟩
  have hs1:=nG (q:=fun (x:Rou)=>decide (x.name=rnm)) hy
  have hs2:=nG (q:=fun (x:Rou)=>decide (x.src=rsrc)) hy
  generalize hT2:((pr.take (k+1)).any fun x=>decide (x.name=rnm))=T2 at *
  generalize hS2:((pr.take (k+1)).any fun x=>decide (x.src=rsrc))=S2 at *
  generalize ((pr.take k).any fun x=>decide (x.name=rnm))=T1 at *
  generalize ((pr.take k).any fun x=>decide (x.src=rsrc))=S1 at *
  obtain⟨y1,y2,y3⟩:=y
  have hs1':T2=(T1||decide (y1=rnm)):=hs1
  have hs2':S2=(S1||decide (y2=rsrc)):=hs2
  cases T1<;>cases S1
  all_goals
   simp(maxSteps:=9^7) (disch:=try exact dI) only[FJ,Pr,Tj,Tg,Ti,hy,Wy,push_cast,seval]
   exact⟨k+1,aJ (by simp(maxSteps:=9^7) (disch:=try exact dI) only[hT2,hS2,hs1',hs2',Bool.true_or,Bool.false_or,push_cast,seval]),by omega,by omega⟩
 ·have hlkI:¬ (k:Int)<(ri:Int):=by omega
  obtain rfl:k=ri:=by omega
  generalize ((pr.take k).any fun x=>decide (x.name=rnm))=q1 at *
  generalize ((pr.take k).any fun x=>decide (x.src=rsrc))=q2 at *
  simp(maxSteps:=9^7) (disch:=try exact dI) only[FJ,Pr,Le,push_cast,seval]
  refine ab.lentK a2 [2,1,3] rfl qsZ qsZ ?_
  simp(maxSteps:=9^7) (disch:=try exact dI) only[Ld,push_cast,seval]
  generalize hso:epO ⟨pv,ps,pe,pw,pr⟩ rsrc=so at *
  cases so with
  | none=>
    rw[nt hso] at a3
    rw[uP hso] at a4
    rw[epR] at hen1
    refine ab.pure hen1 rfl ?_
    simp(maxSteps:=9^7) (disch:=try exact dI) only[FH,push_cast,seval]
    refine ab.lentK a3 [2,1,5] rfl qsZ qsZ ?_
    simp(maxSteps:=9^7) (disch:=try exact dI) only[FG,push_cast,seval]
    refine ab.lentK a4 [2,1,11] rfl qsZ qsZ ?_
    simp(maxSteps:=9^7) (disch:=try exact dI) only[FF,push_cast,seval]
    refine ab.lentK a5 [2,1,13] rfl qsZ qsZ ?_
    simp(maxSteps:=9^7) (disch:=try exact dI) only[qG,push_cast,seval]
    refine ab.pure hfin rfl ?_
    simp(maxSteps:=9^7) (disch:=try exact dI) only[qG,push_cast,seval]
    refine ab.lentK a6 [2,1,15] rfl qsZ qsZ ?_
    simp(maxSteps:=9^7) (disch:=try exact dI) only[FE,push_cast,seval]
    refine ab.pure hst rfl ?_
    simp(maxSteps:=9^7) (disch:=try exact dI) only[FD,push_cast,seval]
    refine au ([]) (fun m:Nat=>[(16,.pv (.int .i64 (m:Int)))]) (fun m=>[(0,.mp (mpS (mO az ⟨pv,ps,pe,pw,pr⟩ (k:Int) rnm N [] (ws.take m)).2)),(1,.cells 32 true [.olist 3 4 ((RA++(mO az ⟨pv,ps,pe,pw,pr⟩ (k:Int) rnm N [] (ws.take m)).1).map Prb.pv)])]) (fun m=>m<=ws.length) (fun m=>ws.length - m) (0) ?_;intro e0 σ0 n0 h0;simp(maxSteps:=9^7) (disch:=try exact dI) only[push_cast,seval] at h0;obtain⟨rfl,rfl,rfl⟩:=h0;refine⟨?_,?_,?_⟩
    ·simp(maxSteps:=9^7) (disch:=try exact dI) only[Xy,mO,Xc,push_cast,seval]
    ·omega
    intro m hm
    by_cases hlm:m<ws.length
    ·obtain⟨x,hx⟩:∃ x,ws[m]? = some x:=⟨_,WT hlm⟩
     have hxm:=WV hx
     obtain⟨v1,v2,v3,⟨q,z0,hq⟩,v5⟩:=hwA x hxm
     have hml:=hwL x hxm
     have hsn:=sI az ⟨pv,ps,pe,pw,pr⟩ (k:Int) rnm N hx
     have hbt:=K3 az ⟨pv,ps,pe,pw,pr⟩ (k:Int) rnm N hx
     have hm1:=hmT (m+1)
     have hm0:=hmT m
     have e2:(RA++(mO az ⟨pv,ps,pe,pw,pr⟩ (k:Int) rnm N [] (ws.take m)).1)++(stO az ⟨pv,ps,pe,pw,pr⟩ (k:Int) rnm (mO az ⟨pv,ps,pe,pw,pr⟩ (k:Int) rnm N [] (ws.take m)).2 x.step x.place (ed rnm (ws.take m) x.place)).1=RA++(mO az ⟨pv,ps,pe,pw,pr⟩ (k:Int) rnm N [] (ws.take (m+1))).1:=by rw[hsn,W7]
     have e3:(stO az ⟨pv,ps,pe,pw,pr⟩ (k:Int) rnm (mO az ⟨pv,ps,pe,pw,pr⟩ (k:Int) rnm N [] (ws.take m)).2 x.step x.place (ed rnm (ws.take m) x.place)).2=(mO az ⟨pv,ps,pe,pw,pr⟩ (k:Int) rnm N [] (ws.take (m+1))).2:=by rw[hsn]
     have hmr:=fun Q hQ=>lY Q ⟨pv,ps,pe,pw,pr⟩ hok (k:Int) ws m x hx hlm (by omega) (mO az ⟨pv,ps,pe,pw,pr⟩ (k:Int) rnm N [] (ws.take m)).2 (RA++(mO az ⟨pv,ps,pe,pw,pr⟩ (k:Int) rnm N [] (ws.take m)).1) rnm rsrc (rst.map Stp.pv) (by rw[W0];omega) v1 (by unfold I64;omega) (by simp only[Xn] at hml;omega) v5 v2 v3 q z0 hq (fun w hw=>⟨(hwA w hw).2.1,by have:=hwL w hw;simp only[Xn] at this;omega⟩) (by omega) hQ
     rw[e2,e3] at hmr
     simp only[uQ,tU,Wv] at hmr
     simp(maxSteps:=9^7) (disch:=try exact dI) only[push_cast,seval]
     refine hmr _ fun s hs=>⟨m+1,hs,by show m+1<=ws.length;omega,by show ws.length - (m+1)<ws.length - m;omega⟩
    ·have hltI:¬ (m:Int)<(ws.length:Int):=by omega
     have hle:ws.take m=ws:=WY (by omega)
     rw[hle]
     simp(maxSteps:=9^7) (disch:=try exact dI) only[ia,mG,FB,push_cast,seval]
     exact sK [] (.pv (.list ((RA++(mO az ⟨pv,ps,pe,pw,pr⟩ (k:Int) rnm N [] ws).1).map Prb.pv))) (.list _ _ _ _ (NzL.refl _)) qsZ
  | some x=>
    rw[nr hso] at a3
    obtain⟨x1,x2,x3,x4,⟨y1,y2,y3⟩⟩:=x
    rw[show lx ⟨pv,ps,pe,pw,pr⟩ rsrc 2=decide (x2=2) from (uO hso 2).trans rfl] at a4
    rw[epR,Wm,Ws] at hen1
    simp only[ae,List.cons_append,Xl] at hen1
    refine ab.pure hen1 rfl ?_
    simp(maxSteps:=9^7) (disch:=try exact dI) only[FH,push_cast,seval]
    refine ab.lentK a3 [2,1,5] rfl qsZ qsZ ?_
    simp(maxSteps:=9^7) (disch:=try exact dI) only[FG,push_cast,seval]
    refine ab.lentK a4 [2,1,11] rfl qsZ qsZ ?_
    simp(maxSteps:=9^7) (disch:=try exact dI) only[FF,push_cast,seval]
    refine ab.lentK a5 [2,1,14] rfl qsZ qsZ ?_
    simp(maxSteps:=9^7) (disch:=try exact dI) only[qG,push_cast,seval]
    refine ab.pure hfin rfl ?_
    simp(maxSteps:=9^7) (disch:=try exact dI) only[qG,push_cast,seval]
    refine ab.lentK a6 [2,1,16] rfl qsZ qsZ ?_
    simp(maxSteps:=9^7) (disch:=try exact dI) only[FE,push_cast,seval]
    refine ab.pure hst rfl ?_
    simp(maxSteps:=9^7) (disch:=try exact dI) only[FD,push_cast,seval]
    refine au ([]) (fun m:Nat=>[(16,.pv (.int .i64 (m:Int)))]) (fun m=>[(0,.mp (mpS (mO az ⟨pv,ps,pe,pw,pr⟩ (k:Int) rnm N [] (ws.take m)).2)),(1,.cells 32 true [.olist 3 4 ((RA++(mO az ⟨pv,ps,pe,pw,pr⟩ (k:Int) rnm N [] (ws.take m)).1).map Prb.pv)])]) (fun m=>m<=ws.length) (fun m=>ws.length - m) (0) ?_;intro e0 σ0 n0 h0;simp(maxSteps:=9^7) (disch:=try exact dI) only[push_cast,seval] at h0;obtain⟨rfl,rfl,rfl⟩:=h0;refine⟨?_,?_,?_⟩
    ·simp(maxSteps:=9^7) (disch:=try exact dI) only[Xy,mO,Xc,push_cast,seval]
    ·omega
    intro m hm
    by_cases hlm:m<ws.length
    ·obtain⟨x,hx⟩:∃ x,ws[m]? = some x:=⟨_,WT hlm⟩
     have hxm:=WV hx
     obtain⟨v1,v2,v3,⟨q,z0,hq⟩,v5⟩:=hwA x hxm
     have hml:=hwL x hxm
     have hsn:=sI az ⟨pv,ps,pe,pw,pr⟩ (k:Int) rnm N hx
     have hbt:=K3 az ⟨pv,ps,pe,pw,pr⟩ (k:Int) rnm N hx
     have hm1:=hmT (m+1)
     have hm0:=hmT m
     have e2:(RA++(mO az ⟨pv,ps,pe,pw,pr⟩ (k:Int) rnm N [] (ws.take m)).1)++(stO az ⟨pv,ps,pe,pw,pr⟩ (k:Int) rnm (mO az ⟨pv,ps,pe,pw,pr⟩ (k:Int) rnm N [] (ws.take m)).2 x.step x.place (ed rnm (ws.take m) x.place)).1=RA++(mO az ⟨pv,ps,pe,pw,pr⟩ (k:Int) rnm N [] (ws.take (m+1))).1:=by rw[hsn,W7]
     have e3:(stO az ⟨pv,ps,pe,pw,pr⟩ (k:Int) rnm (mO az ⟨pv,ps,pe,pw,pr⟩ (k:Int) rnm N [] (ws.take m)).2 x.step x.place (ed rnm (ws.take m) x.place)).2=(mO az ⟨pv,ps,pe,pw,pr⟩ (k:Int) rnm N [] (ws.take (m+1))).2:=by rw[hsn]
     have hmr:=fun Q hQ=>lY Q ⟨pv,ps,pe,pw,pr⟩ hok (k:Int) ws m x hx hlm (by omega) (mO az ⟨pv,ps,pe,pw,pr⟩ (k:Int) rnm N [] (ws.take m)).2 (RA++(mO az ⟨pv,ps,pe,pw,pr⟩ (k:Int) rnm N [] (ws.take m)).1) rnm rsrc (rst.map Stp.pv) (by rw[W0];omega) v1 (by unfold I64;omega) (by simp only[Xn] at hml;omega) v5 v2 v3 q z0 hq (fun w hw=>⟨(hwA w hw).2.1,by have:=hwL w hw;simp only[Xn] at this;omega⟩) (by omega) hQ
     rw[e2,e3] at hmr
     simp only[uQ,tU,Wv] at hmr
     simp(maxSteps:=9^7) (disch:=try exact dI) only[push_cast,seval]
     refine hmr _ fun s hs=>⟨m+1,hs,by show m+1<=ws.length;omega,by show ws.length - (m+1)<ws.length - m;omega⟩
    ·have hltI:¬ (m:Int)<(ws.length:Int):=by omega
     have hle:ws.take m=ws:=WY (by omega)
     rw[hle]
     simp(maxSteps:=9^7) (disch:=try exact dI) only[ia,mG,FB,push_cast,seval]
     exact sK [] (.pv (.list ((RA++(mO az ⟨pv,ps,pe,pw,pr⟩ (k:Int) rnm N [] ws).1).map Prb.pv))) (.list _ _ _ _ (NzL.refl _)) qsZ
