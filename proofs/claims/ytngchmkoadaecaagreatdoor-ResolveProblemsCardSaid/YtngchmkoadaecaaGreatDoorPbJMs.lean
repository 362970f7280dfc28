/- A part. -/
import Derived.Test.YtngchmkoadaecaaGreatDoorPbJMr
set_option linter.unusedVariables false
set_option linter.unusedSimpArgs false
set_option maxHeartbeats 16000000
set_option maxRecDepth 100000
open List renaming length_append->W0,append_assoc->W7,take_zero->Xy,append_nil->Xc,getElem?_eq_getElem->WT,mem_of_getElem?->WV,flatMap_cons->X4
namespace Go.Proofs.YtngchmkoadaecaaGreatDoor
open Go Go.Ab
theorem lY (Q:AExit->St->Prop)(p:Prg)(hok:p.ok)(route:Int)(ws:List Wkd)(m:Nat)(x:Wkd)(hx:ws[m]? = some x)(hm:m<ws.length)(hwl:ws.length<=1000000000)(N:NS)(out:List Prb)(rnm rsrc:List UInt8)(rst:List PV)(ho:out.length<=1000000000)
  (hxr:x.route=route) (hr:I64 route) (hpl:x.place.length<=900) (hpI:∀ y∈x.place,I64 y) (hso:x.step.ok) (hsc:x.step.calls.length<=18) (q:List Int) (z0:Nat) (hq:x.place=q++[(z0:Int)]) (hwA:∀ w∈ws,w.step.ok/\w.place.length<=1000) (hbeh:(ed rnm (ws.take m) x.place).length<=900000000)
  (hQ:∀ s,Hd [] 1 [2,3,8,9,15,16] s ⟨uQ (.eptr [p.pv] 0 0) ws (m+1),tU (stO az p route rnm N x.step x.place (ed rnm (ws.take m) x.place)).2 (out++(stO az p route rnm N x.step x.place (ed rnm (ws.take m) x.place)).1) rnm rsrc rst,4⟩->Q .norm s) :
  vc Tryz.prog aC 1 FI Q ⟨uQ (.eptr [p.pv] 0 0) ws m,tU N out rnm rsrc rst,4⟩:=by
 have hltI:(m:Int)<ws.length:=by omega
 have hnm:=In x (by rw[hxr];exact hr) hpl hpI
 have hnB:=cU x.step.name
 rw[hxr] at hnm
 simp only[stO] at hQ
 generalize nmW route x.place x.step=nm at *
 obtain⟨x1,pl,⟨s1,s2,s3,s4,s5,s6,s7,s8,s9,sa,sb⟩⟩:=x
 simp only[Wkd.place,Wkd.step,Stp.name,Stp.calls] at hq hpl hpI hbeh hQ hnB hso hsc hnm
 generalize hz:(z0:Int)=z at *
 have hz0:0<=z:=by omega
 clear hz
 have hqz:z∈q++[z]:=by simp
 subst hq
 have hz:=hpI z hqz
 unfold I64 at hz
 rw[W0,List.length_singleton] at hpl
 have hfl:cw ((q++[z]).map (PV.int .i64))=((q++[z]).map (PV.int .i64)).map .pv:=pA _
 have hix:((((q++[z]).length:Nat):Int) - 1).toNat*1=q.length:=by simp
 have hget:(((q++[z]).map (PV.int .i64)).map AV.pv)[q.length]? = some (.pv (.int .i64 z)):=by simp
 have htk:(q++[z]).take q.length=q:=by simp
 have hdr:(q++[z]).drop (q.length+1)=[]:=by simp
 have hcat:(q.map (PV.int .i64)).map AV.pv++[AV.pv (.int .i64 (z - 1))]=((q++[z - 1]).map (PV.int .i64)).map AV.pv:=by simp
 have hln:(q++[z]).length=(q++[z - 1]).length:=by simp
 have a1:=fV rnm rsrc rst (q++[z]) out (!decide (s1=[])&&!az s1) 1 s1 (by omega)
 have a2:=fV rnm rsrc rst (q++[z]) (out++aG rnm (q++[z]) (!decide (s1=[])&&!az s1) 1 s1) (decide (nm∈N)) 2 nm (by have:=am rnm (q++[z]) (!decide (s1=[])&&!az s1) 1 s1;rw[W0];omega)
 have hl2:((out++aG rnm (q++[z]) (!decide (s1=[])&&!az s1) 1 s1)++aG rnm (q++[z]) (decide (nm∈N)) 2 nm).length<=1000000002:=aA (m:=1000000001) (n:=1) (aA (m:=1000000000) (n:=1) ho (am _ _ _ _ _)) (am _ _ _ _ _)
 simp only[stF,<- W7] at hQ
 generalize hA2:aG rnm (q++[z]) (decide (nm∈N)) 2 nm=A2 at *
 clear hA2
 generalize hA1:aG rnm (q++[z]) (!decide (s1=[])&&!az s1) 1 s1=A1 at *
 clear hA1
 generalize out++A1=o1 at *
 generalize o1++A2=o2 at *
 generalize hN2:Fo N nm=N2 at *
 simp only[WR,WF,ae,List.cons_append,List.nil_append] at hnm
 by_cases hn0:s1=[]
 ·subst hn0
  have e1:(!decide (([]:List UInt8)=[])&&!az [])=false:=by simp
  rw[e1] at a1
  simp(maxSteps:=9^7) (disch:=try exact dI) only[ia,uQ,tU,mG,vO,vE,vN,vD,hx,WR,WF,ae,push_cast,seval]
  refine ab.lentK a1 [1,2,3] rfl qsZ qsZ ?_
  simp(maxSteps:=9^7) (disch:=try exact dI) only[R22,vM,vC,hx,WR,WF,ae,push_cast,seval]
  refine ag hnm rfl ?_
  simp(maxSteps:=9^7) (disch:=try exact dI) only[hx,WR,WF,ae,push_cast,seval]
  refine ag hnm rfl ?_
  simp(maxSteps:=9^7) (disch:=try exact dI) only[hx,WR,WF,ae,push_cast,seval]
  refine ab.lentK a2 [1,2,10] rfl qsZ qsZ ?_
  simp(maxSteps:=9^7) (disch:=try exact dI) only[vL,hx,WR,WF,ae,push_cast,seval]
  refine ab.pure hnm rfl ?_
  simp(maxSteps:=9^7) (disch:=try exact dI) only[hN2,vK,vJ,vI,hfl,hix,hget,htk,hdr,hcat,push_cast,seval]
  have hb0:ed rnm [] (q++[z])=[]:=rfl
  refine au ([]) (fun k:Nat=>[(20,.pv (.int .i64 (k:Int)))]) (fun k=>[(1,.cells 32 true [.olist 5 4 ((o2++ed rnm (ws.take k) (q++[z])).map Prb.pv)])]) (fun k=>k<=m) (fun k=>m - k) (0) ?_;intro e0 σ0 n0 h0;simp(maxSteps:=9^7) (disch:=try exact dI) only[push_cast,seval] at h0;obtain⟨rfl,rfl,rfl⟩:=h0;refine⟨?_,?_,?_⟩
  ·simp(maxSteps:=9^7) (disch:=try exact dI) only[Xy,hb0,Xc,push_cast,seval]
  ·omega
  intro k hk
  by_cases hlk:k<m
  ·have hlkI:(k:Int)<(m:Int):=by omega
   obtain⟨y,hy⟩:∃ y,ws[k]? = some y:=⟨_,WT (by omega)⟩
   obtain⟨hyo,hyp⟩:=hwA y (WV hy)
   have hbl:=p6 rnm ws (q++[z]) (show k<=m by omega)
   have hpc:=uf y.place (q++[z - 1]) (by omega) (by simp;omega) (by simp)
   obtain⟨db,hdb⟩:∃ db,db=decide (y.place=q++[z - 1]):=⟨_,rfl⟩
   have hsn:o2++ed rnm (ws.take (k+1)) (q++[z])=(o2++ed rnm (ws.take k) (q++[z]))++aG rnm (q++[z]) (db&&de y.step) 7 []:=by rw[hdb,p7 rnm _ hy,hU,W7]
   rw[<- hdb] at hpc
   have hen:=Em y.step hyo
   have a3:=fV rnm rsrc rst (q++[z]) (o2++ed rnm (ws.take k) (q++[z])) (db&&de y.step) 7 [] (by rw[W0];omega)
   rw[<- hsn] at a3
   rw[<- hln] at hpc
   clear hsn hdb
   generalize ho4:o2++ed rnm (ws.take (k+1)) (q++[z])=o4 at *
   generalize o2++ed rnm (ws.take k) (q++[z])=o3 at *
   obtain⟨y1,yp,⟨t1,t2,t3,t4,t5,t6,t7,t8,t9,ta,tb⟩⟩:=y
   simp only[Wkd.place,Wkd.step] at hpc hen a3 hyp
   generalize de (.mk t1 t2 t3 t4 t5 t6 t7 t8 t9 ta tb)=eb at *
   rw[WF] at hen
   cases db with
   | false=>
     rw[Bool.false_and] at a3
     simp(maxSteps:=9^7) (disch:=try exact dI) only[jf,ld,qF,qE,hy,WR,WF,ae,push_cast,seval]
     refine ab.lentK hpc [4] rfl qsZ qsZ ?_
     simp(maxSteps:=9^7) (disch:=try exact dI) only[hy,WR,WF,ae,push_cast,seval]
     refine ab.lentK a3 [1,2,5] rfl qsZ qsZ ?_
     simp(maxSteps:=9^7) (disch:=try exact dI) only[push_cast,seval]
     exact⟨k+1,aJ (by simp(maxSteps:=9^7) (disch:=try exact dI) only[ho4,push_cast,seval]),by omega,by omega⟩
   | true=>
     rw[Bool.true_and] at a3
     simp(maxSteps:=9^7) (disch:=try exact dI) only[jf,ld,qF,qE,hy,WR,WF,ae,push_cast,seval]
     refine ab.lentK hpc [4] rfl qsZ qsZ ?_
     simp(maxSteps:=9^7) (disch:=try exact dI) only[hy,WR,WF,ae,push_cast,seval]
     refine ab.pure hen rfl ?_
     simp(maxSteps:=9^7) (disch:=try exact dI) only[hy,WR,WF,ae,push_cast,seval]
     refine ab.lentK a3 [1,2,5] rfl qsZ qsZ ?_
     simp(maxSteps:=9^7) (disch:=try exact dI) only[push_cast,seval]
     exact⟨k+1,aJ (by simp(maxSteps:=9^7) (disch:=try exact dI) only[ho4,push_cast,seval]),by omega,by omega⟩
  ·have hlkI:¬ (k:Int)<(m:Int):=by omega
   obtain rfl:k=m:=by omega
   simp(maxSteps:=9^7) (disch:=try exact dI) only[jf,ld,push_cast,seval]
   have hr:=r31 Q p hok ws k hm hwl (q++[z]) (q++[z - 1]) (q++[z]).length N2 (o2++ed rnm (ws.take k) (q++[z])) rnm rsrc rst (by rw[W0];omega) [] s2 s3 s4 s5 s6 s7 s8 s9 sa sb hso hsc hQ
   simp only[OA,LM,aY] at hr
   exact hr
 ·have e1:(!decide (s1=[])&&!az s1)=!az s1:=by rw[decide_eq_false hn0];simp
  rw[e1] at a1
  simp(maxSteps:=9^7) (disch:=try exact dI) only[ia,uQ,tU,mG,vO,vE,vN,vD,hx,WR,WF,ae,hn0,push_cast,seval]
  refine ag hnB rfl ?_
  simp(maxSteps:=9^7) (disch:=try exact dI) only[hx,WR,WF,ae,hn0,push_cast,seval]
  refine ab.lentK a1 [1,2,3] rfl (by simp(maxSteps:=9^7) (disch:=try exact dI) only[hn0,push_cast,seval]) qsZ ?_
  simp(maxSteps:=9^7) (disch:=try exact dI) only[R22,vM,vC,hx,WR,WF,ae,hn0,push_cast,seval]
  refine ag hnm rfl ?_
  simp(maxSteps:=9^7) (disch:=try exact dI) only[hx,WR,WF,ae,hn0,push_cast,seval]
  refine ag hnm rfl ?_
  simp(maxSteps:=9^7) (disch:=try exact dI) only[hx,WR,WF,ae,hn0,push_cast,seval]
  refine ab.lentK a2 [1,2,11] rfl qsZ qsZ ?_
  simp(maxSteps:=9^7) (disch:=try exact dI) only[vL,hx,WR,WF,ae,hn0,push_cast,seval]
  refine ab.pure hnm rfl ?_
  simp(maxSteps:=9^7) (disch:=try exact dI) only[hN2,vK,vJ,vI,hfl,hix,hget,htk,hdr,hcat,push_cast,seval]
  have hb0:ed rnm [] (q++[z])=[]:=rfl
  refine au ([]) (fun k:Nat=>[(20,.pv (.int .i64 (k:Int)))]) (fun k=>[(1,.cells 32 true [.olist 5 4 ((o2++ed rnm (ws.take k) (q++[z])).map Prb.pv)])]) (fun k=>k<=m) (fun k=>m - k) (0) ?_;intro e0 σ0 n0 h0;simp(maxSteps:=9^7) (disch:=try exact dI) only[push_cast,seval] at h0;obtain⟨rfl,rfl,rfl⟩:=h0;refine⟨?_,?_,?_⟩
  ·simp(maxSteps:=9^7) (disch:=try exact dI) only[Xy,hb0,Xc,push_cast,seval]
  ·omega
  intro k hk
  by_cases hlk:k<m
  ·have hlkI:(k:Int)<(m:Int):=by omega
   obtain⟨y,hy⟩:∃ y,ws[k]? = some y:=⟨_,WT (by omega)⟩
   obtain⟨hyo,hyp⟩:=hwA y (WV hy)
   have hbl:=p6 rnm ws (q++[z]) (show k<=m by omega)
   have hpc:=uf y.place (q++[z - 1]) (by omega) (by simp;omega) (by simp)
   obtain⟨db,hdb⟩:∃ db,db=decide (y.place=q++[z - 1]):=⟨_,rfl⟩
   have hsn:o2++ed rnm (ws.take (k+1)) (q++[z])=(o2++ed rnm (ws.take k) (q++[z]))++aG rnm (q++[z]) (db&&de y.step) 7 []:=by rw[hdb,p7 rnm _ hy,hU,W7]
   rw[<- hdb] at hpc
   have hen:=Em y.step hyo
   have a3:=fV rnm rsrc rst (q++[z]) (o2++ed rnm (ws.take k) (q++[z])) (db&&de y.step) 7 [] (by rw[W0];omega)
   rw[<- hsn] at a3
   rw[<- hln] at hpc
   clear hsn hdb
   generalize ho4:o2++ed rnm (ws.take (k+1)) (q++[z])=o4 at *
   generalize o2++ed rnm (ws.take k) (q++[z])=o3 at *
   obtain⟨y1,yp,⟨t1,t2,t3,t4,t5,t6,t7,t8,t9,ta,tb⟩⟩:=y
   simp only[Wkd.place,Wkd.step] at hpc hen a3 hyp
   generalize de (.mk t1 t2 t3 t4 t5 t6 t7 t8 t9 ta tb)=eb at *
   rw[WF] at hen
   cases db with
   | false=>
     rw[Bool.false_and] at a3
     simp(maxSteps:=9^7) (disch:=try exact dI) only[jf,ld,qF,qE,hy,WR,WF,ae,push_cast,seval]
     refine ab.lentK hpc [4] rfl qsZ qsZ ?_
     simp(maxSteps:=9^7) (disch:=try exact dI) only[hy,WR,WF,ae,push_cast,seval]
     refine ab.lentK a3 [1,2,5] rfl qsZ qsZ ?_
     simp(maxSteps:=9^7) (disch:=try exact dI) only[push_cast,seval]
     exact⟨k+1,aJ (by simp(maxSteps:=9^7) (disch:=try exact dI) only[ho4,push_cast,seval]),by omega,by omega⟩
   | true=>
     rw[Bool.true_and] at a3
     simp(maxSteps:=9^7) (disch:=try exact dI) only[jf,ld,qF,qE,hy,WR,WF,ae,push_cast,seval]
     refine ab.lentK hpc [4] rfl qsZ qsZ ?_
     simp(maxSteps:=9^7) (disch:=try exact dI) only[hy,WR,WF,ae,push_cast,seval]
     refine ab.pure hen rfl ?_
     simp(maxSteps:=9^7) (disch:=try exact dI) only[hy,WR,WF,ae,push_cast,seval]
     refine ab.lentK a3 [1,2,5] rfl qsZ qsZ ?_
     simp(maxSteps:=9^7) (disch:=try exact dI) only[push_cast,seval]
     exact⟨k+1,aJ (by simp(maxSteps:=9^7) (disch:=try exact dI) only[ho4,push_cast,seval]),by omega,by omega⟩
  ·have hlkI:¬ (k:Int)<(m:Int):=by omega
   obtain rfl:k=m:=by omega
   simp(maxSteps:=9^7) (disch:=try exact dI) only[jf,ld,push_cast,seval]
   have hr:=r31 Q p hok ws k hm hwl (q++[z]) (q++[z - 1]) (q++[z]).length N2 (o2++ed rnm (ws.take k) (q++[z])) rnm rsrc rst (by rw[W0];omega) s1 s2 s3 s4 s5 s6 s7 s8 s9 sa sb hso hsc hQ
   simp only[OA,LM,aY] at hr
   exact hr
@[irreducible] def NZ:List (List UInt8):=[[115,99,104,101,109,97,115],[101,110,100,112,111,105,110,116,115],[115,101,114,118,105,99,101,115],[114,111,117,116,101,115],[115,116,101,112,115],[108,101,118,101,108,115],[110,111,100,101,115]]
@[irreducible] def N3 (a b c d e f g:Bool):List Bool:=[a,b,c,d,e,f,g]
theorem UY:mV 1 7 [.pv (.str [115,99,104,101,109,97,115]),.pv (.str [101,110,100,112,111,105,110,116,115]),.pv (.str [115,101,114,118,105,99,101,115]),.pv (.str [114,111,117,116,101,115]),.pv (.str [115,116,101,112,115]),.pv (.str [108,101,118,101,108,115]),.pv (.str [110,111,100,101,115])]=some (.pv (.list (NZ.map PV.str)),[]):=by
 rw[NZ];rfl
theorem UZ (a b c d e f g:Bool):mV 1 7 [.pv (.bool a),.pv (.bool b),.pv (.bool c),.pv (.bool d),.pv (.bool e),.pv (.bool f),.pv (.bool g)]=some (.pv (.list ((N3 a b c d e f g).map PV.bool)),[]):=by
 rw[N3];rfl
def Ap (ns:List (List UInt8))(bs:List Bool)(i:Nat):List Prb:=((ns.zip bs).take i).flatMap fun q=>aG [] [] q.2 16 q.1
theorem Dd (ns:List (List UInt8))(bs:List Bool):Ap ns bs 0=[]:=by simp[Ap]
theorem De {ns:List (List UInt8)}{bs:List Bool}{i:Nat}{x:List UInt8}{b:Bool}(h1:ns[i]? = some x)(h2:bs[i]? = some b):Ap ns bs (i+1)=Ap ns bs i++aG [] [] b 16 x:=by
 have h:(ns.zip bs)[i]? = some (x,b):=by rw[List.getElem?_zip_eq_some];exact⟨h1,h2⟩
 unfold Ap
 rw[aE h];simp
theorem IA (ns:List (List UInt8))(bs:List Bool)(i:Nat):(Ap ns bs i).length<=i:=by
 unfold Ap
 have:∀ l:List (List UInt8×Bool),(l.flatMap fun q=>aG [] [] q.2 16 q.1).length<=l.length:=by
  intro l
  induction l with
  | nil=>simp
  | cons q r ih=>
    have:=am [] [] q.2 16 q.1
    simp only[X4,W0,List.length_cons];omega
 exact Nat.le_trans (this _) (by rw[List.length_take];omega)
theorem nG {α:Type}{l:List α}{q:α->Bool}{i:Nat}{x:α}(h:l[i]? = some x):(l.take (i+1)).any q=((l.take i).any q||q x):=by
 rw[aE h];simp
theorem Db (n:Nat)(hn:n<=400)(hc:cnt n<=100000000)(p:Prg)(hp:okW n p)(hok:p.ok)(hsz:p.endpoints.length<=1000000/\p.services.length<=1000000) :
  bz Tryz.prog aC 0 37 [.pv p.pv] [] (.olist 0 4 ((Dc p (cW n p)).map Prb.pv)) [.tok 82 4]:=by
 have hw:=Km n hn hc p hp
 have hwl:(cW n p).length<=6*cnt n:=Nat.le_trans (bh _ (cnt n) _ fun r hr i=>bd _ n _ _ (hp.2 r hr).1) (Nat.mul_le_mul_right _ hp.1)
 have hwm:∀ w∈cW n p,w.place.length<=1000:=fun w hw=>by have:=(jI hw).2;omega
 generalize cW n p=ws at *
 obtain⟨v,s,e,w,rs⟩:=p
 rw[Wu] at hok
 simp only[Prg.endpoints,Prg.services] at hsz
 have hL:Dc ⟨v,s,e,w,rs⟩ ws=Ap NZ (N3 (decide ((64:Int)<(s.length:Int))) (decide ((64:Int)<(e.length:Int))) (decide ((64:Int)<(w.length:Int))) (decide ((64:Int)<(rs.length:Int))) (decide ((64:Int)<(ws.length:Int))) (tf ws) (decide ((128:Int)<(e.length:Int)+(w.length:Int)+(ws.length:Int)))) 7:=by
  rw[Ap,NZ,N3]
  simp only[Dc,Prg.endpoints,Prg.services,Prg.schemas,Prg.routes,List.zip_cons_cons,List.zip_nil_right,List.take_succ_cons,Xy,X4,List.flatMap_nil,Xc,dR,cC,cZ,fj,iP,fl,jU]
  rfl
 rw[hL]
 clear hL
 have hNl:NZ.length=7:=by rw[NZ];rfl
 have hBl:∀ a b c d e f g,(N3 a b c d e f g).length=7:=fun a b c d e f g=>by rw[N3];rfl
 rw[Wv] at hw
 refine bz.intro Kk (by simp[Ps]) ?_
 simp(maxSteps:=9^7) (disch:=try exact dI) only[FT,FS,FQ,FP,FO,FN,FM,FL,FU,FK,vV,vU,vT,vS,vR,vQ,vW,vP,Lj,Ps,Wv,push_cast,seval]
 refine ab.pure hw rfl ?_
 simp(maxSteps:=9^7) (disch:=try exact dI) only[push_cast,seval]
 refine au ([]) (fun i:Nat=>[(5,.pv (.bool ((ws.take i).any fun w=>decide (7<w.place.length)))),(6,.pv (.int .i64 (i:Int)))]) (fun _=>[]) (fun i=>i<=ws.length) (fun i=>ws.length - i) (0) ?_;intro e0 σ0 n0 h0;simp(maxSteps:=9^7) (disch:=try exact dI) only[push_cast,seval] at h0;obtain⟨rfl,rfl,rfl⟩:=h0;refine⟨?_,?_,?_⟩
 ·simp(maxSteps:=9^7) (disch:=try exact dI) only[Xy,List.any_nil,push_cast,seval]
 ·omega
 intro i hi
 by_cases hlt:i<ws.length
 ·have hltI:(i:Int)<ws.length:=by omega
  obtain⟨x,hx⟩:∃ x,ws[i]? = some x:=⟨_,WT hlt⟩
  have hxp:=hwm x (WV hx)
  have hsn:=nG (q:=fun (w:Wkd)=>decide (7<w.place.length)) hx
  generalize hB2:((ws.take (i+1)).any fun w=>decide (7<w.place.length))=B2 at *
  generalize ((ws.take i).any fun w=>decide (7<w.place.length))=B at *
  obtain⟨x1,x2,⟨s1,s2,s3,s4,s5,s6,s7,s8,s9,sa,sb⟩⟩:=x
  simp only[Wkd.place] at hxp
  cases B with
  | true=>
    rw[Bool.true_or] at hsn
    simp(maxSteps:=9^7) (disch:=try exact dI) only[hx,push_cast,seval]
    exact⟨i+1,aJ (by simp(maxSteps:=9^7) (disch:=try exact dI) only[hB2,hsn,push_cast,seval]),by omega,by omega⟩
  | false=>
    rw[Bool.false_or] at hsn
    have hI:((7:Int)<(x2.length:Int))=(7<x2.length):=propext ⟨fun h=>by omega,fun h=>by omega⟩
    have hsn2:B2=decide (7<x2.length):=hsn
    simp(maxSteps:=9^7) (disch:=try exact dI) only[hx,WR,WF,ae,push_cast,seval]
    exact⟨i+1,aJ (by simp(maxSteps:=9^7) (disch:=try exact dI) only[hB2,hsn2,hI,push_cast,seval]),by omega,by omega⟩
 ·have hltI:¬ (i:Int)<ws.length:=by omega
  have hle:ws.take i=ws:=List.take_of_length_le (by omega)
  rw[hle]
  have hdp:(ws.any fun w=>decide (7<w.place.length))=tf ws:=rfl
  rw[hdp]
  generalize tf ws=dp at *
  generalize hbs:N3 (decide ((64:Int)<(s.length:Int))) (decide ((64:Int)<(e.length:Int))) (decide ((64:Int)<(w.length:Int))) (decide ((64:Int)<(rs.length:Int))) (decide ((64:Int)<(ws.length:Int))) dp (decide ((128:Int)<(e.length:Int)+(w.length:Int)+(ws.length:Int)))=bs at *
  have hb7:bs.length=7:=by rw[<- hbs];exact hBl _ _ _ _ _ _ _
  have hn7:=hNl
  simp(maxSteps:=9^7) (disch:=try exact dI) only[UY,UZ,hbs,push_cast,seval]
  generalize NZ=ns at *
  clear hbs hBl
  refine au ([(3,0,82,4)]) (fun i:Nat=>[(3,.olist 0 4 ((Ap ns bs i).map Prb.pv)),(9,.pv (.int .i64 (i:Int)))]) (fun _=>[]) (fun i=>i<=7) (fun i=>7 - i) (0) ?_;intro e0 σ0 n0 h0;simp(maxSteps:=9^7) (disch:=try exact dI) only[push_cast,seval] at h0;obtain⟨rfl,rfl,rfl⟩:=h0;refine⟨?_,?_,?_⟩
  ·simp(maxSteps:=9^7) (disch:=try exact dI) only[Dd,push_cast,seval]
  ·omega
  intro i hi
  by_cases hlt:i<7
  ·obtain⟨x,hx⟩:∃ x,ns[i]? = some x:=⟨_,WT (by omega)⟩
   obtain⟨b,hb⟩:∃ b,bs[i]? = some b:=⟨_,WT (by omega)⟩
   have hsn:=De hx hb
   have hll:=IA ns bs i
   have h7I:(ns.length:Int)=7:=by omega
   have hltI:(i:Int)<7:=by omega
   generalize hL2:Ap ns bs (i+1)=L2 at *
   generalize Ap ns bs i=L1 at *
   cases b with
   | false=>
     rw[uh,Xc] at hsn
     simp(maxSteps:=9^7) (disch:=try exact dI) only[hx,hb,h7I,hltI,push_cast,seval]
     exact⟨i+1,aJ (by simp(maxSteps:=9^7) (disch:=try exact dI) only[hL2,hsn,push_cast,seval]),by omega,by omega⟩
   | true=>
     rw[oF] at hsn
     simp(maxSteps:=9^7) (disch:=try exact dI) only[hx,hb,h7I,hltI,push_cast,seval]
     exact⟨i+1,aJ (by simp(maxSteps:=9^7) (disch:=try exact dI) only[hL2,hsn,List.map_append,Wt,QN,push_cast,seval]),by omega,by omega⟩
  ·have h7I:(ns.length:Int)=7:=by omega
   have hltI:¬ (i:Int)<7:=by omega
   obtain rfl:i=7:=by omega
   simp(maxSteps:=9^7) (disch:=try exact dI) only[h7I,push_cast,seval]
   exact aH [] qsZ
