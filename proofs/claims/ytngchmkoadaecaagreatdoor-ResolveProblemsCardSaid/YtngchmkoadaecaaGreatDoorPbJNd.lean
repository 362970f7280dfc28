/- A part. -/
import Derived.Test.YtngchmkoadaecaaGreatDoorPbJNb
import Derived.Test.YtngchmkoadaecaaGreatDoorPbJNc
import Derived.Test.YtngchmkoadaecaaGreatDoorPbJN7
set_option linter.unusedVariables false
set_option linter.unusedSimpArgs false
set_option maxHeartbeats 16000000
set_option maxRecDepth 100000
open List renaming getElem?_eq_getElem->WT,mem_of_getElem?->WV,length_take->Xf,map_nil->XT,take_of_length_le->WY
namespace Go.Proofs.YtngchmkoadaecaaGreatDoor
open Go Go.Ab
theorem q0 {P:Program}{G:Nat->List PV}{f:Nat}{args:List AV}{σ σ':List (Nat×Blk)}{n top:Nat}{v:AV}(h:cn P G f args σ n (fun v' s n'=>v'=v/\s=σ'/\n'=top))(he:∀ r,lookB r σ'=lookB r σ) :
  cn P G f args σ n (fun v' s n'=>v'=v/\s=jJ σ []/\n'=top):=by
 refine⟨h.1,fun κ vals h1 h2 h3 h4=>(h.2 κ vals h1 h2 h3 h4).mono ?_⟩
 rintro e w' ⟨u,v',κ',sto',next',q1,q2,q3,q4,q5,q6,q7,rfl,rfl,rfl⟩
 refine⟨u,v',κ',σ,next',q1,q2,q3,q4,q5,?_,q7,rfl,by simp[ig],rfl⟩
 exact (congrArg (fun τ=>SRel (cJ κ (fun r=>lookB r σ) G) κ' τ) (funext he)).mp q6
theorem g8 {P:Program}{G:Nat->List PV}{F:List (List Nat×List Nat)->St->Prop}{T:List (List Nat×List Nat)}{e:List (Nat×AV)}{σ:List (Nat×Blk)}{next d:Nat}{a b args:List AV}
  {k f:Nat} {args0:List AV} {bs:List Blk} {v:AV} {bs':List Blk} (h:bz P G k f args0 bs v bs') (rs:List Nat)
  (hok:l7 k rs bs bs' next=true) (hargs:AVzL (a++args++b) (AV.renL (gSo next rs) args0)) (hbs:fD σ (gSo next rs) rs bs)
  (hsame:∀ r,lookB r (mW (gSo next (rs.take k)) bs' 0 (gIn next (rs.take k))++(eJ (rs.drop k)++σ))=lookB r σ)
  (hk:F (T++[eX 2 [] (σ.map (·.1))]) ⟨(d,v.ren (gSo next (rs.take k)))::e,σ,next+(bs'.length - k)⟩):g9 P G F T ⟨e,σ,next⟩ (some d) args (f,a,b):=by
 simp only[l7,Bool.and_eq_true,decide_eq_true_eq,List.all_eq_true] at hok
 obtain⟨⟨⟨⟨h1,h2⟩,h3⟩,h4⟩,h5⟩:=hok
 have hf:=h.frame hargs hbs h5 h4 h1 h2 (fun b hb e=>by
  have:=h3 b hb
  subst e;cases this)
 exact kR (δ:=[]) (top:=next+(bs'.length - k)) (q0 hf hsame) (by omega) (by rw[show aZ ([]:List (Nat×Blk))=[] from rfl];simpa[ig] using hk)
abbrev wQ (a b:List UInt8)(c:List PV):Blk:=.cells 64 true [.pv (.str a),.pv (.str b),.pv (.list c)]
theorem IJ (l:List Rou)(g:Nat)(a b:List UInt8)(c:List PV)(q:Rou->Bool)(hq:∀ x∈l,bz Tryz.prog aC 1 g [.pv x.pv,.ptr 0 0] [wQ a b c] (.pv (.bool (q x))) [wQ a b c])(hm:l.length<=9000000000000) :
  bz Tryz.prog aC 1 86 [.pv (.list (l.map Rou.pv)),.clo g [] [.ptr 0 0]] [wQ a b c] (.pv (.int .i64 (bL (l.findIdx? q)))) [wQ a b c]:=by
 refine bz.intro Q86.2 (by simp[Q86]) ?_
 simp(maxSteps:=9^7) (disch:=try exact dI) only[Q86,push_cast,seval]
 refine au ([]) (fun i:Nat=>[(8,.pv (.int .i64 (i:Int)))]) (fun _=>[]) (fun i=>i<=l.length/\∀ j x,j<i->l[j]? = some x->q x=false) (fun i=>l.length - i) (0) ?_;intro e0 σ0 n0 h0;simp(maxSteps:=9^7) (disch:=try exact dI) only[push_cast,seval] at h0;obtain⟨rfl,rfl,rfl⟩:=h0;refine⟨?_,?_,?_⟩
 ·simp(maxSteps:=9^7) (disch:=try exact dI) only[push_cast,seval]
 ·exact⟨Nat.zero_le _,by omega⟩
 rintro i ⟨hi,hpre⟩
 by_cases hlt:i<l.length
 ·have hltI:(i:Int)<l.length:=by omega
  obtain⟨x,hx⟩:∃ x,l[i]? = some x:=⟨l[i],WT hlt⟩
  have hcall:=hq x (WV hx)
  have hfs:=fun h=>dD (q:=q) hx h hpre
  have hnx:q x=false->∀ j y,j<i+1->l[j]? = some y->q y=false:=fun hqx j y hj hjy=>by
   rcases Nat.lt_or_ge j i with h | h
   ·exact hpre j y h hjy
   ·have:j=i:=by omega
    subst this
    rw[hx] at hjy;cases hjy;exact hqx
  generalize q x=qx at *
  simp(maxSteps:=9^7) (disch:=try exact dI) only[hx,Rou.cells_len,Rou.isAgg,push_cast,seval]
  refine ab.lentK hcall [0] rfl qsZ qsZ ?_
  cases qx with
  | true=>
    simp(maxSteps:=9^7) (disch:=try exact dI) only[push_cast,seval]
    rw[hfs rfl]
    exact aH [] (by simp(maxSteps:=9^7) (disch:=try exact dI) only[bL,push_cast,seval])
  | false=>
    simp(maxSteps:=9^7) (disch:=try exact dI) only[push_cast,seval]
    exact⟨i+1,aJ qsZ,⟨by omega,hnx rfl⟩,by omega⟩
 ·have hltI:¬ (i:Int)<l.length:=by omega
  simp(maxSteps:=9^7) (disch:=try exact dI) only[push_cast,seval]
  rw[dE (fun j x hj hjx=>hpre j x (by omega) hjx)]
  exact aH [] (by simp(maxSteps:=9^7) (disch:=try exact dI) only[bL,push_cast,seval])
theorem Pa {α:Type}(l:List α)(q:α->Bool):decide ((0:Int)<=bL (l.findIdx? q))=l.any q:=by
 cases h:l.findIdx? q with
 | none=>
   rw[List.findIdx?_eq_none_iff] at h
   have:l.any q=false:=by
    rw[List.any_eq_false]
    intro x hx;simpa using h x hx
   rw[this];simp[bL]
 | some i=>
   rw[List.findIdx?_eq_some_iff_getElem] at h
   obtain⟨hlt,hqi,_⟩:=h
   have:l.any q=true:=List.any_eq_true.2 ⟨_,List.getElem_mem hlt,hqi⟩
   rw[this]
   exact decide_eq_true (by simp only[bL];omega)
theorem kH (l:List Rou)(g:Nat)(a b:List UInt8)(c:List PV)(q:Rou->Bool)(hq:∀ x∈l,bz Tryz.prog aC 1 g [.pv x.pv,.ptr 0 0] [wQ a b c] (.pv (.bool (q x))) [wQ a b c])(hm:l.length<=9000000000000) :
  bz Tryz.prog aC 1 33 [.pv (.list (l.map Rou.pv)),.clo g [] [.ptr 0 0]] [wQ a b c] (.pv (.bool (l.any q))) [wQ a b c]:=by
 have h:=IJ l g a b c q hq hm
 rw[<- Pa]
 generalize bL (l.findIdx? q)=ix at *
 refine bz.intro Q33.2 (by simp[Q33]) ?_
 simp(maxSteps:=9^7) (disch:=try exact dI) only[Q33,push_cast,seval]
 refine ab.lentK h [0] rfl qsZ qsZ ?_
 simp(maxSteps:=9^7) (disch:=try exact dI) only[push_cast,seval]
 exact aH [] qsZ
theorem UN (x:Rou)(a b:List UInt8)(c:List PV):bz Tryz.prog aC 1 34 [.pv x.pv,.ptr 0 0] [wQ a b c] (.pv (.bool (decide (x.name=a)))) [wQ a b c]:=by
 obtain⟨x1,x2,x3⟩:=x
 have e:decide ((Rou.mk x1 x2 x3).name=a)=decide (x1=a):=rfl
 rw[e]
 refine bz.intro Q34.2 (by simp[Q34]) ?_
 simp(maxSteps:=9^7) (disch:=try exact dI) only[Q34,Wy,push_cast,seval]
 exact aH [] qsZ
theorem UM (x:Rou)(a b:List UInt8)(c:List PV):bz Tryz.prog aC 1 35 [.pv x.pv,.ptr 0 0] [wQ a b c] (.pv (.bool (decide (x.src=b)))) [wQ a b c]:=by
 obtain⟨x1,x2,x3⟩:=x
 have e:decide ((Rou.mk x1 x2 x3).src=b)=decide (x2=b):=rfl
 rw[e]
 refine bz.intro Q35.2 (by simp[Q35]) ?_
 simp(maxSteps:=9^7) (disch:=try exact dI) only[Q35,Wy,push_cast,seval]
 exact aH [] qsZ
theorem mP (isN:List UInt8->Bool)(p:Prg)(r:Rou)(i:Nat):(Qx isN p r i).length<=6:=
 aA (m:=1) (n:=5) (am _ _ _ _ _) (aA (m:=1) (n:=4) (am _ _ _ _ _) (aA (m:=1) (n:=3) (am _ _ _ _ _) (aA (m:=1) (n:=2) (am _ _ _ _ _) (aA (m:=1) (n:=1) (am _ _ _ _ _) (am _ _ _ _ _)))))
theorem A4 (p:Prg)(hs1:p.schemas.length<=1000)(hs2:p.endpoints.length<=1000)(hs3:p.services.length<=1000):(thO az di p).1.length<=20000:=by
 have h1:=bh (Px az di p) 3 p.schemas fun x _ i=>aA (m:=1) (n:=2) (am _ _ _ _ _) (aA (m:=1) (n:=1) (am _ _ _ _ _) (am _ _ _ _ _))
 have h2:=cH (JF az p) 4 p.endpoints [] 0 fun x _ N i=>aA (m:=1) (n:=3) (am _ _ _ _ _) (aA (m:=1) (n:=2) (am _ _ _ _ _) (aA (m:=1) (n:=1) (am _ _ _ _ _) (am _ _ _ _ _)))
 have h3:=cH (LK az p) 4 p.services (ixO (JF az p) [] 0 p.endpoints).2 0 fun x _ N i=>aA (m:=1) (n:=3) (am _ _ _ _ _) (aA (m:=1) (n:=2) (am _ _ _ _ _) (aA (m:=1) (n:=1) (am _ _ _ _ _) (am _ _ _ _ _)))
 have h0:=am [] [] (!inR p.version 1 999) 5 cp
 unfold thO
 simp only[List.length_append]
 omega
theorem iD (p:Prg)(ws:List Wkd):(Dc p ws).length<=7:=
 aA (m:=1) (n:=6) (am _ _ _ _ _) (aA (m:=1) (n:=5) (am _ _ _ _ _) (aA (m:=1) (n:=4) (am _ _ _ _ _) (aA (m:=1) (n:=3) (am _ _ _ _ _) (aA (m:=1) (n:=2) (am _ _ _ _ _) (aA (m:=1) (n:=1) (am _ _ _ _ _) (am _ _ _ _ _))))))
theorem CU:mpS []=[]:=rfl
theorem Cq (n:Nat)(hn:n<=400)(hcn:cnt n<=20000000)(p:Prg)(hp:okW n p)(hcal:∀ r∈p.routes,F4 n r.steps)(hok:p.ok)(hs1:p.schemas.length<=1000)(hs2:p.endpoints.length<=1000)(hs3:p.services.length<=1000) :
  ap Tryz.prog aC 9 [p.pv] (.list (((lm az di p n).take 200).map Prb.pv)):=by
 have hL:=Iz n hn (by omega) p hp hok (by omega) [] (by simp)
 rw[List.nil_append] at hL
 have hLl:=iD p (cW n p)
 have hT:=Gw p hok hs1 hs2 hs3
 have hTl:=A4 p hs1 hs2 hs3
 have hR:=Mj
 have hS:=fun (r:Rou) (hr:r∈p.routes) (i:Nat) (hi:i<10) (N:NS) (out:List Prb) (ho:out.length<=8000000000)=>LN p hok (i:Int) (by unfold I64;omega) r.name n [] r.steps N out (hp.2 r hr).1 (hcal r hr) (hp.2 r hr).2 (by simp only[List.length_nil];omega) (by simp) (by omega)
 have hep:=fun nm=>KS p nm hok
 unfold lm BE
 generalize hRf:G3 az p n=Rf at *
 have hRfl:∀ N m,m<=p.routes.length->(ixO Rf N 0 (p.routes.take m)).1.length<=6*(6+42*cnt n):=fun N m hm=>by
  have hp6:=hp.1
  have:=cH Rf (6+42*cnt n) (p.routes.take m) N 0 fun x hx N i=>by
   have hx2:=List.mem_of_mem_take hx
   rw[<- hRf]
   exact aA (mP az p x i) (cN az p i x.name n [] x.steps N (hp.2 x hx2).1 (hcal x hx2))
  have h2:(p.routes.take m).length<=6:=by rw[Xf];omega
  exact Nat.le_trans this (Nat.mul_le_mul_right _ h2)
 generalize Dc p (cW n p)=LO at *
 generalize hTO:thO az di p=TO at *
 obtain⟨th,N0⟩:=TO
 simp only at hTl hT ⊢
 have hpp:=hok
 have hp6:=hp.1
 obtain⟨pv,ps,pe,pw,pr⟩:=p
 rw[Wu] at hpp
 simp only[Prg.routes,Prg.endpoints] at hep hS hRfl hp6 hp hcal ⊢
 simp only[Wv] at hL hT hS hep
 generalize aX=RL at *
 simp only[fU,XT] at hL hT hS
 refine ap.intro Q9.2 (by simp[Q9]) ?_
 simp(maxSteps:=9^7) (disch:=try exact dI) only[Q9,Wv,push_cast,seval]
 refine ab.nilB 1 2 82 4 qsZ ?_
 simp(maxSteps:=9^7) (disch:=try exact dI) only[push_cast,seval]
 refine ab.lentK hL [1,3] rfl qsZ qsZ ?_
 by_cases hLO:LO=[]
 ·subst hLO
  rw[if_pos rfl]
  simp(maxSteps:=9^7) (disch:=try exact dI) only[push_cast,seval]
  refine ab.lentK hT [1,6,4] rfl qsZ (by simp(maxSteps:=9^7) (disch:=try exact dI) only[CU,push_cast,seval]) ?_
  simp(maxSteps:=9^7) (disch:=try exact dI) only[push_cast,seval]
  refine ab.lentK hR [] rfl qsZ qsZ ?_
  simp(maxSteps:=9^7) (disch:=try exact dI) only[push_cast,seval]
  refine au ([]) (fun m:Nat=>[(34,.pv (.int .i64 (m:Int)))]) (fun m=>[(0,.cells 85 true [.any,.any,.olist 3 4 ((th++(ixO Rf N0 0 (pr.take m)).1).map Prb.pv)]),(1,.mp (mpS (ixO Rf N0 0 (pr.take m)).2))]) (fun m=>m<=pr.length) (fun m=>pr.length - m) (0) ?_;intro e0 σ0 n0 h0;simp(maxSteps:=9^7) (disch:=try exact dI) only[push_cast,seval] at h0;obtain⟨rfl,rfl,rfl⟩:=h0;refine⟨?_,?_,?_⟩
  ·simp(maxSteps:=9^7) (disch:=try exact dI) only[cu,List.append_nil,push_cast,seval]
  ·omega
  intro m hm
  by_cases hlt:m<pr.length
  ·have hltI:(m:Int)<pr.length:=by omega
   obtain⟨x,hx⟩:∃ x,pr[m]? = some x:=⟨_,WT hlt⟩
   have hxm:=WV hx
   have hsn:=bK Rf N0 hx
   have hol:=hRfl N0 m (by omega)
   have hRx:=congrFun (congrFun (congrFun hRf (ixO Rf N0 0 (pr.take m)).2) x) m
   have hxo:=hpp.2.2.2.2.2.2.2.2 x hxm
   generalize hB2:ixO Rf N0 0 (pr.take (m+1))=B2 at *
   generalize ixO Rf N0 0 (pr.take m)=B at *
   obtain⟨bo,N1⟩:=B
   simp only at hsn hol hRx
   have hcall:=hS x hxm m (by omega) N1
   generalize hST:bC az ⟨pv,ps,pe,pw,pr⟩ (m:Int) x.name n [] x.steps N1=ST at *
   obtain⟨so,sN⟩:=ST
   have hfin:=yK x.steps (by obtain⟨a,b,c⟩:=x;rw[Ww] at hxo;exact⟨hxo.2.2.1,hxo.2.2.2⟩)
   have hep1:=hep x.src
   have hnB:=cU x.name
   obtain⟨rnm,rsrc,rst⟩:=x
   have hc1:=kH (pr.take m) 34 rnm rsrc (rst.map Stp.pv) (fun x=>decide (x.name=rnm)) (fun x _=>UN x _ _ _) (by rw[Xf];omega)
   have hc2:=kH (pr.take m) 35 rnm rsrc (rst.map Stp.pv) (fun x=>decide (x.src=rsrc)) (fun x _=>UM x _ _ _) (by rw[Xf];omega)
   simp only[Rou.name,Rou.src,Rou.steps] at hcall hfin hep1 hnB hST
   have hRx2:((aG rnm [] (!az rnm) 1 rnm++(aG rnm [] ((pr.take m).any fun x=>decide (x.name=rnm)) 2 rnm++(aG rnm [] (!dH ⟨pv,ps,pe,pw,pr⟩ rsrc) 3 rsrc++(aG rnm [] (lx ⟨pv,ps,pe,pw,pr⟩ rsrc 2) 4 rsrc++(aG rnm [] ((pr.take m).any fun x=>decide (x.src=rsrc)) 2 rsrc++aG rnm [] (!d8 rst) 6 [])))))++so,sN)=Rf N1 (.mk rnm rsrc rst) m:=by rw[<- hRx];simp only[G3,Qx,Rou.name,Rou.src,Rou.steps,Prg.routes,hST];try rfl
   have z0:(th++bo).length<=7900000000:=aA (m:=20000) (n:=7899980000) (by omega) (by omega)
   have e3:B2.2=sN:=by rw[hsn,<- hRx2]
   have e2:th++B2.1=(((((((th++bo)++aG rnm [] (!az rnm) 1 rnm)++aG rnm [] ((pr.take m).any fun x=>decide (x.name=rnm)) 2 rnm)++aG rnm [] (!dH ⟨pv,ps,pe,pw,pr⟩ rsrc) 3 rsrc)++aG rnm [] (lx ⟨pv,ps,pe,pw,pr⟩ rsrc 2) 4 rsrc)++aG rnm [] ((pr.take m).any fun x=>decide (x.src=rsrc)) 2 rsrc)++aG rnm [] (!d8 rst) 6 [])++so:=by rw[hsn,<- hRx2];simp only[List.append_assoc]
   clear hsn hRx hRx2
   generalize th++bo=o0 at *
   have a1:=bB rnm [] o0 (!az rnm) 1 rnm (by simp) (by omega)
   have z1:=aA z0 (am rnm [] (!az rnm) 1 rnm)
   generalize o0++aG rnm [] (!az rnm) 1 rnm=o1 at *
   have a2:=bB rnm [] o1 ((pr.take m).any fun x=>decide (x.name=rnm)) 2 rnm (by simp) (by omega)
   have z2:=aA z1 (am rnm [] ((pr.take m).any fun x=>decide (x.name=rnm)) 2 rnm)
   generalize o1++aG rnm [] ((pr.take m).any fun x=>decide (x.name=rnm)) 2 rnm=o2 at *
   have a3:=bB rnm [] o2 (!dH ⟨pv,ps,pe,pw,pr⟩ rsrc) 3 rsrc (by simp) (by omega)
   have z3:=aA z2 (am rnm [] (!dH ⟨pv,ps,pe,pw,pr⟩ rsrc) 3 rsrc)
   generalize o2++aG rnm [] (!dH ⟨pv,ps,pe,pw,pr⟩ rsrc) 3 rsrc=o3 at *
   have a4:=bB rnm [] o3 (lx ⟨pv,ps,pe,pw,pr⟩ rsrc 2) 4 rsrc (by simp) (by omega)
   have z4:=aA z3 (am rnm [] (lx ⟨pv,ps,pe,pw,pr⟩ rsrc 2) 4 rsrc)
   generalize o3++aG rnm [] (lx ⟨pv,ps,pe,pw,pr⟩ rsrc 2) 4 rsrc=o4 at *
   have a5:=bB rnm [] o4 ((pr.take m).any fun x=>decide (x.src=rsrc)) 2 rsrc (by simp) (by omega)
   have z5:=aA z4 (am rnm [] ((pr.take m).any fun x=>decide (x.src=rsrc)) 2 rsrc)
   generalize o4++aG rnm [] ((pr.take m).any fun x=>decide (x.src=rsrc)) 2 rsrc=o5 at *
   have a6:=bB rnm [] o5 (!d8 rst) 6 [] (by simp) (by omega)
   have z6:=aA z5 (am rnm [] (!d8 rst) 6 [])
   generalize o5++aG rnm [] (!d8 rst) 6 []=o6 at *
   have hst:=hcall o6 (by omega)
   simp only[fU,XT] at a1 a2 a3 a4 a5 a6
   generalize ((pr.take m).any fun x=>decide (x.name=rnm))=q1 at *
   generalize ((pr.take m).any fun x=>decide (x.src=rsrc))=q2 at *
   generalize az rnm=q3 at *
   generalize d8 rst=q4 at *
   rw[List.map_take] at hc1 hc2
   simp only[wQ] at hc1 hc2
   rcases hep1 with ⟨j,x,hj,hj2,hep1⟩ | ⟨hj2,hep1⟩
   ·rw[nr hj2] at a3
    obtain⟨x1,x2,x3,x4,⟨y1,y2,y3⟩⟩:=x
    rw[show lx ⟨pv,ps,pe,pw,pr⟩ rsrc 2=decide (x2=2) from (uO hj2 2).trans rfl] at a4
    simp(maxSteps:=9^7) (disch:=try exact dI) only[hx,Wy,push_cast,seval]
    refine ab.pure hep1 rfl ?_
    simp(maxSteps:=9^7) (disch:=try exact dI) only[hx,hj,Wm,Ws,ae,push_cast,seval]
    refine ag hnB rfl ?_
    simp(maxSteps:=9^7) (disch:=try exact dI) only[hx,hj,Wm,Ws,ae,push_cast,seval]
    refine ab.lentK a1 [0,3] rfl qsZ qsZ ?_
    simp(maxSteps:=9^7) (disch:=try exact dI) only[hx,hj,Wm,Ws,ae,push_cast,seval]
    refine g8 hc1 [5] rfl (by simp(maxSteps:=9^7) (disch:=try exact dI) only[hx,hj,Wm,Ws,ae,push_cast,seval]) qsZ (fun r=>?_) ?_
    ·by_cases hr5:5=r
     ·subst hr5
      simp(maxSteps:=9^7) (disch:=try exact dI) only[push_cast,seval]
     ·simp(maxSteps:=9^7) (disch:=try exact dI) only[hr5,push_cast,seval]
    simp(maxSteps:=9^7) (disch:=try exact dI) only[hx,hj,Wm,Ws,ae,push_cast,seval]
    refine ab.lentK a2 [0,14] rfl qsZ qsZ ?_
    simp(maxSteps:=9^7) (disch:=try exact dI) only[hx,hj,Wm,Ws,ae,push_cast,seval]
    refine ab.lentK a3 [0,17] rfl qsZ qsZ ?_
    simp(maxSteps:=9^7) (disch:=try exact dI) only[hx,hj,Wm,Ws,ae,push_cast,seval]
    refine ab.lentK a4 [0,19] rfl qsZ qsZ ?_
    simp(maxSteps:=9^7) (disch:=try exact dI) only[hx,hj,Wm,Ws,ae,push_cast,seval]
    refine g8 hc2 [5] rfl (by simp(maxSteps:=9^7) (disch:=try exact dI) only[hx,hj,Wm,Ws,ae,push_cast,seval]) qsZ (fun r=>?_) ?_
    ·by_cases hr5:5=r
     ·subst hr5
      simp(maxSteps:=9^7) (disch:=try exact dI) only[push_cast,seval]
     ·simp(maxSteps:=9^7) (disch:=try exact dI) only[hr5,push_cast,seval]
    simp(maxSteps:=9^7) (disch:=try exact dI) only[hx,hj,Wm,Ws,ae,push_cast,seval]
    refine ab.lentK a5 [0,23] rfl qsZ qsZ ?_
    simp(maxSteps:=9^7) (disch:=try exact dI) only[hx,hj,Wm,Ws,ae,push_cast,seval]
    refine ab.pure hfin rfl ?_
    simp(maxSteps:=9^7) (disch:=try exact dI) only[hx,hj,Wm,Ws,ae,push_cast,seval]
    refine ab.lentK a6 [0,26] rfl qsZ qsZ ?_
    simp(maxSteps:=9^7) (disch:=try exact dI) only[hx,hj,Wm,Ws,ae,push_cast,seval]
    refine ab.lentK hst [0,1,2,28] rfl qsZ qsZ ?_
    simp(maxSteps:=9^7) (disch:=try exact dI) only[push_cast,seval]
    exact⟨m+1,aJ (by simp(maxSteps:=9^7) (disch:=try exact dI) only[hB2,e2,e3,push_cast,seval]),by omega,by omega⟩
   ·rw[nt hj2] at a3
    rw[uP hj2] at a4
    simp(maxSteps:=9^7) (disch:=try exact dI) only[hx,Wy,push_cast,seval]
    refine ab.pure hep1 rfl ?_
    simp(maxSteps:=9^7) (disch:=try exact dI) only[hx,push_cast,seval]
    refine ag hnB rfl ?_
    simp(maxSteps:=9^7) (disch:=try exact dI) only[hx,push_cast,seval]
    refine ab.lentK a1 [0,3] rfl qsZ qsZ ?_
    simp(maxSteps:=9^7) (disch:=try exact dI) only[hx,push_cast,seval]
    refine g8 hc1 [5] rfl (by simp(maxSteps:=9^7) (disch:=try exact dI) only[hx,push_cast,seval]) qsZ (fun r=>?_) ?_
    ·by_cases hr5:5=r
     ·subst hr5
      simp(maxSteps:=9^7) (disch:=try exact dI) only[push_cast,seval]
     ·simp(maxSteps:=9^7) (disch:=try exact dI) only[hr5,push_cast,seval]
    simp(maxSteps:=9^7) (disch:=try exact dI) only[hx,push_cast,seval]
    refine ab.lentK a2 [0,14] rfl qsZ qsZ ?_
    simp(maxSteps:=9^7) (disch:=try exact dI) only[hx,push_cast,seval]
    refine ab.lentK a3 [0,17] rfl qsZ qsZ ?_
    simp(maxSteps:=9^7) (disch:=try exact dI) only[hx,push_cast,seval]
    refine ab.lentK a4 [0,19] rfl qsZ qsZ ?_
    simp(maxSteps:=9^7) (disch:=try exact dI) only[hx,push_cast,seval]
    refine g8 hc2 [5] rfl (by simp(maxSteps:=9^7) (disch:=try exact dI) only[hx,push_cast,seval]) qsZ (fun r=>?_) ?_
    ·by_cases hr5:5=r
     ·subst hr5
      simp(maxSteps:=9^7) (disch:=try exact dI) only[push_cast,seval]
     ·simp(maxSteps:=9^7) (disch:=try exact dI) only[hr5,push_cast,seval]
    simp(maxSteps:=9^7) (disch:=try exact dI) only[hx,push_cast,seval]
    refine ab.lentK a5 [0,21] rfl qsZ qsZ ?_
    simp(maxSteps:=9^7) (disch:=try exact dI) only[hx,push_cast,seval]
    refine ab.pure hfin rfl ?_
    simp(maxSteps:=9^7) (disch:=try exact dI) only[hx,push_cast,seval]
    refine ab.lentK a6 [0,24] rfl qsZ qsZ ?_
    simp(maxSteps:=9^7) (disch:=try exact dI) only[hx,push_cast,seval]
    refine ab.lentK hst [0,1,2,26] rfl qsZ qsZ ?_
    simp(maxSteps:=9^7) (disch:=try exact dI) only[push_cast,seval]
    exact⟨m+1,aJ (by simp(maxSteps:=9^7) (disch:=try exact dI) only[hB2,e2,e3,push_cast,seval]),by omega,by omega⟩
  ·have hltI:¬ (m:Int)<pr.length:=by omega
   have hle:pr.take m=pr:=WY (by omega)
   have hol:=hRfl N0 m (by omega)
   rw[hle] at hol ⊢
   have hl0:(th++(ixO Rf N0 0 pr).1).length<=7900000000:=aA (m:=20000) (n:=7899980000) (by omega) (by omega)
   generalize th++(ixO Rf N0 0 pr).1=oz at *
   simp(maxSteps:=9^7) (disch:=try exact dI) only[push_cast,seval]
 ·rw[if_neg hLO]
  have h0:(0:Int)<LO.length:=by have:=List.length_pos_iff.2 hLO;omega
  rw[show LO.take 200=LO from WY (by omega)]
  simp(maxSteps:=9^7) (disch:=try exact dI) only[push_cast,seval]
theorem uf (a b:List Int)(ha:a.length<=1000000)(hb:b.length<=1000000)(hb0:0<b.length) :
  bz Tryz.prog aC 1 23 [.pv (.list (a.map (PV.int .i64))),.row 0 1 0 b.length] [.cells 3 false ((b.map (PV.int .i64)).map .pv)] (.pv (.bool (decide (a=b)))) [.cells 3 false ((b.map (PV.int .i64)).map .pv)]:=by
 refine bz.intro Q23.2 (by simp[Q23]) ?_
 by_cases hab:a.length=b.length
 ·have habI:(a.length:Int)=b.length:=by omega
  simp(maxSteps:=9^7) (disch:=try exact dI) only[Q23,habI,push_cast,seval]
  refine au ([]) (fun m:Nat=>[(5,.pv (.int .i64 (m:Int)))]) (fun m=>[]) (fun m=>m<=a.length/\a.take m=b.take m) (fun m=>a.length - m) (0) ?_;intro e0 σ0 n0 h0;simp(maxSteps:=9^7) (disch:=try exact dI) only[push_cast,seval] at h0;obtain⟨rfl,rfl,rfl⟩:=h0;refine⟨?_,?_,?_⟩
  ·simp(maxSteps:=9^7) (disch:=try exact dI) only[push_cast,seval]
  ·exact⟨by omega,rfl⟩
  ·rintro m ⟨hm,he⟩
   by_cases hlt:m<a.length
   ·have hltI:(m:Int)<b.length:=by omega
    obtain⟨x,hx⟩:∃ x,a[m]? = some x:=⟨_,WT hlt⟩
    obtain⟨y,hy⟩:∃ y,b[m]? = some y:=⟨_,WT (by omega)⟩
    have hy1:b[m*1]? = some y:=by rw[Nat.mul_one];exact hy
    by_cases hxy:x=y
    ·subst hxy
     simp(maxSteps:=9^7) (disch:=try exact dI) only[hx,hy1,push_cast,seval]
     exact⟨m+1,aJ qsZ,⟨by omega,by rw[aE hx,aE hy,he]⟩,by omega⟩
    ·have hne:¬ a=b:=by rintro rfl;rw[hx] at hy;cases hy;exact hxy rfl
     simp(maxSteps:=9^7) (disch:=try exact dI) only[hx,hy1,hxy,hne,push_cast,seval]
     exact aH [] qsZ
   ·have hltI:¬ (m:Int)<b.length:=by omega
    have hab':a=b:=by rw[WY (by omega),WY (by omega)] at he;exact he
    simp(maxSteps:=9^7) (disch:=try exact dI) only[hab',push_cast,seval]
    exact aH [] qsZ
 ·have habI:¬ (a.length:Int)=b.length:=by omega
  have hne:¬ a=b:=by rintro rfl;exact hab rfl
  simp(maxSteps:=9^7) (disch:=try exact dI) only[Q23,habI,hne,push_cast,seval]
  exact aH [] qsZ
