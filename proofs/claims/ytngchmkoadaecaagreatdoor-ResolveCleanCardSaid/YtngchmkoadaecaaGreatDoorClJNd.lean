/- A part. -/
import Derived.Test.YtngchmkoadaecaaGreatDoorClJNb
import Derived.Test.YtngchmkoadaecaaGreatDoorClJNc
import Derived.Test.YtngchmkoadaecaaGreatDoorClJN7
set_option linter.unusedVariables false
set_option linter.unusedSimpArgs false
set_option maxHeartbeats 16000000
set_option maxRecDepth 100000
open List renaming getElem?_eq_getElem->Uq,mem_of_getElem?->Us,length_take->UJ,map_nil->Va,take_of_length_le->Ux
namespace Go.Proofs.YtngchmkoadaecaaGreatDoor
open Go Go.Ab
theorem pP {P:Program}{G:Nat->List PV}{f:Nat}{args:List AV}{σ σ':List (Nat×Blk)}{n top:Nat}{v:AV}(h:bW P G f args σ n (fun v' s n'=>v'=v/\s=σ'/\n'=top))(he:∀ r,lookB r σ'=lookB r σ) :
  bW P G f args σ n (fun v' s n'=>v'=v/\s=je σ []/\n'=top):=by
 refine⟨h.1,fun κ vals h1 h2 h3 h4=>(h.2 κ vals h1 h2 h3 h4).mono ?_⟩
 rintro e w' ⟨u,v',κ',sto',next',q1,q2,q3,q4,q5,q6,q7,rfl,rfl,rfl⟩
 refine⟨u,v',κ',σ,next',q1,q2,q3,q4,q5,?_,q7,rfl,by simp[gO],rfl⟩
 exact (congrArg (fun τ=>SRel (cu κ (fun r=>lookB r σ) G) κ' τ) (funext he)).mp q6
theorem gJ {P:Program}{G:Nat->List PV}{F:List (List Nat×List Nat)->St->Prop}{T:List (List Nat×List Nat)}{e:List (Nat×AV)}{σ:List (Nat×Blk)}{next d:Nat}{a b args:List AV}
  {k f:Nat} {args0:List AV} {bs:List Blk} {v:AV} {bs':List Blk} (h:bA P G k f args0 bs v bs') (rs:List Nat)
  (hok:lp k rs bs bs' next=true) (hargs:AVzL (a++args++b) (AV.renL (gSo next rs) args0)) (hbs:fh σ (gSo next rs) rs bs)
  (hsame:∀ r,lookB r (mb (gSo next (rs.take k)) bs' 0 (gIn next (rs.take k))++(eo (rs.drop k)++σ))=lookB r σ)
  (hk:F (T++[eG 2 [] (σ.map (·.1))]) ⟨(d,v.ren (gSo next (rs.take k)))::e,σ,next+(bs'.length - k)⟩):gK P G F T ⟨e,σ,next⟩ (some d) args (f,a,b):=by
 simp only[lp,Bool.and_eq_true,decide_eq_true_eq,List.all_eq_true] at hok
 obtain⟨⟨⟨⟨h1,h2⟩,h3⟩,h4⟩,h5⟩:=hok
 have hf:=h.frame hargs hbs h5 h4 h1 h2 (fun b hb e=>by
  have:=h3 b hb
  subst e;cases this)
 exact ke (δ:=[]) (top:=next+(bs'.length - k)) (pP hf hsame) (by omega) (by rw[show aU ([]:List (Nat×Blk))=[] from rfl];simpa[gO] using hk)
abbrev uG (a b:List UInt8)(c:List PV):Blk:=.cells 64 true [.pv (.str a),.pv (.str b),.pv (.list c)]
theorem GP (l:List Rou)(g:Nat)(a b:List UInt8)(c:List PV)(q:Rou->Bool)(hq:∀ x∈l,bA Tryz.prog aB 1 g [.pv x.pv,.ptr 0 0] [uG a b c] (.pv (.bool (q x))) [uG a b c])(hm:l.length<=9000000000000) :
  bA Tryz.prog aB 1 86 [.pv (.list (l.map Rou.pv)),.clo g [] [.ptr 0 0]] [uG a b c] (.pv (.int .i64 (cj (l.findIdx? q)))) [uG a b c]:=by
 refine bA.intro Q86.2 (by simp[Q86]) ?_
 simp(maxSteps:=9^7) (disch:=try exact dI) only[Q86,push_cast,seval]
 refine aw ([]) (fun i:Nat=>[(8,.pv (.int .i64 (i:Int)))]) (fun _=>[]) (fun i=>i<=l.length/\∀ j x,j<i->l[j]? = some x->q x=false) (fun i=>l.length - i) (0) ?_;intro e0 σ0 n0 h0;simp(maxSteps:=9^7) (disch:=try exact dI) only[push_cast,seval] at h0;obtain⟨rfl,rfl,rfl⟩:=h0;refine⟨?_,?_,?_⟩
 ·simp(maxSteps:=9^7) (disch:=try exact dI) only[push_cast,seval]
 ·exact⟨Nat.zero_le _,by omega⟩
 rintro i ⟨hi,hpre⟩
 by_cases hlt:i<l.length
 ·have hltI:(i:Int)<l.length:=by omega
  obtain⟨x,hx⟩:∃ x,l[i]? = some x:=⟨l[i],Uq hlt⟩
  have hcall:=hq x (Us hx)
  have hfs:=fun h=>dS (q:=q) hx h hpre
  have hnx:q x=false->∀ j y,j<i+1->l[j]? = some y->q y=false:=fun hqx j y hj hjy=>by
   rcases Nat.lt_or_ge j i with h | h
   ·exact hpre j y h hjy
   ·have:j=i:=by omega
    subst this
    rw[hx] at hjy;cases hjy;exact hqx
  generalize q x=qx at *
  simp(maxSteps:=9^7) (disch:=try exact dI) only[hx,Rou.cells_len,Rou.isAgg,push_cast,seval]
  refine ab.lentK hcall [0] rfl qsZ qsZ ?_
  cases qx with
  | true=>
    simp(maxSteps:=9^7) (disch:=try exact dI) only[push_cast,seval]
    rw[hfs rfl]
    exact aI [] (by simp(maxSteps:=9^7) (disch:=try exact dI) only[cj,push_cast,seval])
  | false=>
    simp(maxSteps:=9^7) (disch:=try exact dI) only[push_cast,seval]
    exact⟨i+1,aN qsZ,⟨by omega,hnx rfl⟩,by omega⟩
 ·have hltI:¬ (i:Int)<l.length:=by omega
  simp(maxSteps:=9^7) (disch:=try exact dI) only[push_cast,seval]
  rw[dU (fun j x hj hjx=>hpre j x (by omega) hjx)]
  exact aI [] (by simp(maxSteps:=9^7) (disch:=try exact dI) only[cj,push_cast,seval])
theorem MP {α:Type}(l:List α)(q:α->Bool):decide ((0:Int)<=cj (l.findIdx? q))=l.any q:=by
 cases h:l.findIdx? q with
 | none=>
   rw[List.findIdx?_eq_none_iff] at h
   have:l.any q=false:=by
    rw[List.any_eq_false]
    intro x hx;simpa using h x hx
   rw[this];simp[cj]
 | some i=>
   rw[List.findIdx?_eq_some_iff_getElem] at h
   obtain⟨hlt,hqi,_⟩:=h
   have:l.any q=true:=List.any_eq_true.2 ⟨_,List.getElem_mem hlt,hqi⟩
   rw[this]
   exact decide_eq_true (by simp only[cj];omega)
theorem j3 (l:List Rou)(g:Nat)(a b:List UInt8)(c:List PV)(q:Rou->Bool)(hq:∀ x∈l,bA Tryz.prog aB 1 g [.pv x.pv,.ptr 0 0] [uG a b c] (.pv (.bool (q x))) [uG a b c])(hm:l.length<=9000000000000) :
  bA Tryz.prog aB 1 33 [.pv (.list (l.map Rou.pv)),.clo g [] [.ptr 0 0]] [uG a b c] (.pv (.bool (l.any q))) [uG a b c]:=by
 have h:=GP l g a b c q hq hm
 rw[<- MP]
 generalize cj (l.findIdx? q)=ix at *
 refine bA.intro Q33.2 (by simp[Q33]) ?_
 simp(maxSteps:=9^7) (disch:=try exact dI) only[Q33,push_cast,seval]
 refine ab.lentK h [0] rfl qsZ qsZ ?_
 simp(maxSteps:=9^7) (disch:=try exact dI) only[push_cast,seval]
 exact aI [] qsZ
theorem Sg (x:Rou)(a b:List UInt8)(c:List PV):bA Tryz.prog aB 1 34 [.pv x.pv,.ptr 0 0] [uG a b c] (.pv (.bool (decide (x.name=a)))) [uG a b c]:=by
 obtain⟨x1,x2,x3⟩:=x
 have e:decide ((Rou.mk x1 x2 x3).name=a)=decide (x1=a):=rfl
 rw[e]
 refine bA.intro Q34.2 (by simp[Q34]) ?_
 simp(maxSteps:=9^7) (disch:=try exact dI) only[Q34,T6,push_cast,seval]
 exact aI [] qsZ
theorem Sf (x:Rou)(a b:List UInt8)(c:List PV):bA Tryz.prog aB 1 35 [.pv x.pv,.ptr 0 0] [uG a b c] (.pv (.bool (decide (x.src=b)))) [uG a b c]:=by
 obtain⟨x1,x2,x3⟩:=x
 have e:decide ((Rou.mk x1 x2 x3).src=b)=decide (x2=b):=rfl
 rw[e]
 refine bA.intro Q35.2 (by simp[Q35]) ?_
 simp(maxSteps:=9^7) (disch:=try exact dI) only[Q35,T6,push_cast,seval]
 exact aI [] qsZ
theorem E6 (isN:List UInt8->Bool)(p:Prg)(r:Rou)(i:Nat):(Q1 isN p r i).length<=6:=
 aD (m:=1) (n:=5) (am _ _ _ _ _) (aD (m:=1) (n:=4) (am _ _ _ _ _) (aD (m:=1) (n:=3) (am _ _ _ _ _) (aD (m:=1) (n:=2) (am _ _ _ _ _) (aD (m:=1) (n:=1) (am _ _ _ _ _) (am _ _ _ _ _)))))
theorem JC (p:Prg)(hs1:p.schemas.length<=1000)(hs2:p.endpoints.length<=1000)(hs3:p.services.length<=1000):(thO aE fG p).1.length<=20000:=by
 have h1:=bn (QZ aE fG p) 3 p.schemas fun x _ i=>aD (m:=1) (n:=2) (am _ _ _ _ _) (aD (m:=1) (n:=1) (am _ _ _ _ _) (am _ _ _ _ _))
 have h2:=dG (xS aE p) 4 p.endpoints [] 0 fun x _ N i=>aD (m:=1) (n:=3) (am _ _ _ _ _) (aD (m:=1) (n:=2) (am _ _ _ _ _) (aD (m:=1) (n:=1) (am _ _ _ _ _) (am _ _ _ _ _)))
 have h3:=dG (D0 aE p) 4 p.services (ixO (xS aE p) [] 0 p.endpoints).2 0 fun x _ N i=>aD (m:=1) (n:=3) (am _ _ _ _ _) (aD (m:=1) (n:=2) (am _ _ _ _ _) (aD (m:=1) (n:=1) (am _ _ _ _ _) (am _ _ _ _ _)))
 have h0:=am [] [] (!inR p.version 1 999) 5 ec
 unfold thO
 simp only[List.length_append]
 omega
theorem wi (p:Prg)(ws:List Wkd):(LJ p ws).length<=7:=
 aD (m:=1) (n:=6) (am _ _ _ _ _) (aD (m:=1) (n:=5) (am _ _ _ _ _) (aD (m:=1) (n:=4) (am _ _ _ _ _) (aD (m:=1) (n:=3) (am _ _ _ _ _) (aD (m:=1) (n:=2) (am _ _ _ _ _) (aD (m:=1) (n:=1) (am _ _ _ _ _) (am _ _ _ _ _))))))
theorem Br:mpS []=[]:=rfl
theorem AM (n:Nat)(hn:n<=400)(hcn:cnt n<=20000000)(p:Prg)(hp:okW n p)(hcal:∀ r∈p.routes,M6 n r.steps)(hok:p.ok)(hs1:p.schemas.length<=1000)(hs2:p.endpoints.length<=1000)(hs3:p.services.length<=1000) :
  ap Tryz.prog aB 9 [p.pv] (.list (((AN aE fG p n).take 200).map Prb.pv)):=by
 have hL:=GF n hn (by omega) p hp hok (by omega) [] (by simp)
 rw[List.nil_append] at hL
 have hLl:=wi p (cJ n p)
 have hT:=EA p hok hs1 hs2 hs3
 have hTl:=JC p hs1 hs2 hs3
 have hR:=J9
 have hS:=fun (r:Rou) (hr:r∈p.routes) (i:Nat) (hi:i<10) (N:NS) (out:List Prb) (ho:out.length<=8000000000)=>JH p hok (i:Int) (by unfold I64;omega) r.name n [] r.steps N out (hp.2 r hr).1 (hcal r hr) (hp.2 r hr).2 (by simp only[List.length_nil];omega) (by simp) (by omega)
 have hep:=fun nm=>IV p nm hok
 unfold AN KQ
 generalize hRf:Oj aE p n=Rf at *
 have hRfl:∀ N m,m<=p.routes.length->(ixO Rf N 0 (p.routes.take m)).1.length<=6*(6+42*cnt n):=fun N m hm=>by
  have hp6:=hp.1
  have:=dG Rf (6+42*cnt n) (p.routes.take m) N 0 fun x hx N i=>by
   have hx2:=List.mem_of_mem_take hx
   rw[<- hRf]
   exact aD (E6 aE p x i) (fl aE p i x.name n [] x.steps N (hp.2 x hx2).1 (hcal x hx2))
  have h2:(p.routes.take m).length<=6:=by rw[UJ];omega
  exact Nat.le_trans this (Nat.mul_le_mul_right _ h2)
 generalize LJ p (cJ n p)=LO at *
 generalize hTO:thO aE fG p=TO at *
 obtain⟨th,N0⟩:=TO
 simp only at hTl hT ⊢
 have hpp:=hok
 have hp6:=hp.1
 obtain⟨pv,ps,pe,pw,pr⟩:=p
 rw[T3] at hpp
 simp only[Prg.routes,Prg.endpoints] at hep hS hRfl hp6 hp hcal ⊢
 simp only[T4] at hL hT hS hep
 generalize aT=RL at *
 simp only[fD,Va] at hL hT hS
 refine ap.intro Q9.2 (by simp[Q9]) ?_
 simp(maxSteps:=9^7) (disch:=try exact dI) only[Q9,T4,push_cast,seval]
 refine ab.nilB 1 2 82 4 qsZ ?_
 simp(maxSteps:=9^7) (disch:=try exact dI) only[push_cast,seval]
 refine ab.lentK hL [1,3] rfl qsZ qsZ ?_
 by_cases hLO:LO=[]
 ·subst hLO
  rw[if_pos rfl]
  simp(maxSteps:=9^7) (disch:=try exact dI) only[push_cast,seval]
  refine ab.lentK hT [1,6,4] rfl qsZ (by simp(maxSteps:=9^7) (disch:=try exact dI) only[Br,push_cast,seval]) ?_
  simp(maxSteps:=9^7) (disch:=try exact dI) only[push_cast,seval]
  refine ab.lentK hR [] rfl qsZ qsZ ?_
  simp(maxSteps:=9^7) (disch:=try exact dI) only[push_cast,seval]
  refine aw ([]) (fun m:Nat=>[(34,.pv (.int .i64 (m:Int)))]) (fun m=>[(0,.cells 85 true [.any,.any,.olist 3 4 ((th++(ixO Rf N0 0 (pr.take m)).1).map Prb.pv)]),(1,.mp (mpS (ixO Rf N0 0 (pr.take m)).2))]) (fun m=>m<=pr.length) (fun m=>pr.length - m) (0) ?_;intro e0 σ0 n0 h0;simp(maxSteps:=9^7) (disch:=try exact dI) only[push_cast,seval] at h0;obtain⟨rfl,rfl,rfl⟩:=h0;refine⟨?_,?_,?_⟩
  ·simp(maxSteps:=9^7) (disch:=try exact dI) only[cL,List.append_nil,push_cast,seval]
  ·omega
  intro m hm
  by_cases hlt:m<pr.length
  ·have hltI:(m:Int)<pr.length:=by omega
   obtain⟨x,hx⟩:∃ x,pr[m]? = some x:=⟨_,Uq hlt⟩
   have hxm:=Us hx
   have hsn:=bX Rf N0 hx
   have hol:=hRfl N0 m (by omega)
   have hRx:=congrFun (congrFun (congrFun hRf (ixO Rf N0 0 (pr.take m)).2) x) m
   have hxo:=hpp.2.2.2.2.2.2.2.2 x hxm
   generalize hB2:ixO Rf N0 0 (pr.take (m+1))=B2 at *
   generalize ixO Rf N0 0 (pr.take m)=B at *
   obtain⟨bo,N1⟩:=B
   simp only at hsn hol hRx
   have hcall:=hS x hxm m (by omega) N1
   generalize hST:bx aE ⟨pv,ps,pe,pw,pr⟩ (m:Int) x.name n [] x.steps N1=ST at *
   obtain⟨so,sN⟩:=ST
   have hfin:=wD x.steps (by obtain⟨a,b,c⟩:=x;rw[T5] at hxo;exact⟨hxo.2.2.1,hxo.2.2.2⟩)
   have hep1:=hep x.src
   have hnB:=gz x.name
   obtain⟨rnm,rsrc,rst⟩:=x
   have hc1:=j3 (pr.take m) 34 rnm rsrc (rst.map Stp.pv) (fun x=>decide (x.name=rnm)) (fun x _=>Sg x _ _ _) (by rw[UJ];omega)
   have hc2:=j3 (pr.take m) 35 rnm rsrc (rst.map Stp.pv) (fun x=>decide (x.src=rsrc)) (fun x _=>Sf x _ _ _) (by rw[UJ];omega)
   simp only[Rou.name,Rou.src,Rou.steps] at hcall hfin hep1 hnB hST
   have hRx2:((aL rnm [] (!aE rnm) 1 rnm++(aL rnm [] ((pr.take m).any fun x=>decide (x.name=rnm)) 2 rnm++(aL rnm [] (!fa ⟨pv,ps,pe,pw,pr⟩ rsrc) 3 rsrc++(aL rnm [] (px ⟨pv,ps,pe,pw,pr⟩ rsrc 2) 4 rsrc++(aL rnm [] ((pr.take m).any fun x=>decide (x.src=rsrc)) 2 rsrc++aL rnm [] (!dZ rst) 6 [])))))++so,sN)=Rf N1 (.mk rnm rsrc rst) m:=by rw[<- hRx];simp only[Oj,Q1,Rou.name,Rou.src,Rou.steps,Prg.routes,hST];try rfl
   have z0:(th++bo).length<=7900000000:=aD (m:=20000) (n:=7899980000) (by omega) (by omega)
   have e3:B2.2=sN:=by rw[hsn,<- hRx2]
   have e2:th++B2.1=(((((((th++bo)++aL rnm [] (!aE rnm) 1 rnm)++aL rnm [] ((pr.take m).any fun x=>decide (x.name=rnm)) 2 rnm)++aL rnm [] (!fa ⟨pv,ps,pe,pw,pr⟩ rsrc) 3 rsrc)++aL rnm [] (px ⟨pv,ps,pe,pw,pr⟩ rsrc 2) 4 rsrc)++aL rnm [] ((pr.take m).any fun x=>decide (x.src=rsrc)) 2 rsrc)++aL rnm [] (!dZ rst) 6 [])++so:=by rw[hsn,<- hRx2];simp only[List.append_assoc]
   clear hsn hRx hRx2
   generalize th++bo=o0 at *
   have a1:=bp rnm [] o0 (!aE rnm) 1 rnm (by simp) (by omega)
   have z1:=aD z0 (am rnm [] (!aE rnm) 1 rnm)
   generalize o0++aL rnm [] (!aE rnm) 1 rnm=o1 at *
   have a2:=bp rnm [] o1 ((pr.take m).any fun x=>decide (x.name=rnm)) 2 rnm (by simp) (by omega)
   have z2:=aD z1 (am rnm [] ((pr.take m).any fun x=>decide (x.name=rnm)) 2 rnm)
   generalize o1++aL rnm [] ((pr.take m).any fun x=>decide (x.name=rnm)) 2 rnm=o2 at *
   have a3:=bp rnm [] o2 (!fa ⟨pv,ps,pe,pw,pr⟩ rsrc) 3 rsrc (by simp) (by omega)
   have z3:=aD z2 (am rnm [] (!fa ⟨pv,ps,pe,pw,pr⟩ rsrc) 3 rsrc)
   generalize o2++aL rnm [] (!fa ⟨pv,ps,pe,pw,pr⟩ rsrc) 3 rsrc=o3 at *
   have a4:=bp rnm [] o3 (px ⟨pv,ps,pe,pw,pr⟩ rsrc 2) 4 rsrc (by simp) (by omega)
   have z4:=aD z3 (am rnm [] (px ⟨pv,ps,pe,pw,pr⟩ rsrc 2) 4 rsrc)
   generalize o3++aL rnm [] (px ⟨pv,ps,pe,pw,pr⟩ rsrc 2) 4 rsrc=o4 at *
   have a5:=bp rnm [] o4 ((pr.take m).any fun x=>decide (x.src=rsrc)) 2 rsrc (by simp) (by omega)
   have z5:=aD z4 (am rnm [] ((pr.take m).any fun x=>decide (x.src=rsrc)) 2 rsrc)
   generalize o4++aL rnm [] ((pr.take m).any fun x=>decide (x.src=rsrc)) 2 rsrc=o5 at *
   have a6:=bp rnm [] o5 (!dZ rst) 6 [] (by simp) (by omega)
   have z6:=aD z5 (am rnm [] (!dZ rst) 6 [])
   generalize o5++aL rnm [] (!dZ rst) 6 []=o6 at *
   have hst:=hcall o6 (by omega)
   simp only[fD,Va] at a1 a2 a3 a4 a5 a6
   generalize ((pr.take m).any fun x=>decide (x.name=rnm))=q1 at *
   generalize ((pr.take m).any fun x=>decide (x.src=rsrc))=q2 at *
   generalize aE rnm=q3 at *
   generalize dZ rst=q4 at *
   rw[List.map_take] at hc1 hc2
   simp only[uG] at hc1 hc2
   rcases hep1 with ⟨j,x,hj,hj2,hep1⟩ | ⟨hj2,hep1⟩
   ·rw[CK hj2] at a3
    obtain⟨x1,x2,x3,x4,⟨y1,y2,y3⟩⟩:=x
    rw[show px ⟨pv,ps,pe,pw,pr⟩ rsrc 2=decide (x2=2) from (IT hj2 2).trans rfl] at a4
    simp(maxSteps:=9^7) (disch:=try exact dI) only[hx,T6,push_cast,seval]
    refine ab.pure hep1 rfl ?_
    simp(maxSteps:=9^7) (disch:=try exact dI) only[hx,hj,TU,T1,ae,push_cast,seval]
    refine au hnB rfl ?_
    simp(maxSteps:=9^7) (disch:=try exact dI) only[hx,hj,TU,T1,ae,push_cast,seval]
    refine ab.lentK a1 [0,3] rfl qsZ qsZ ?_
    simp(maxSteps:=9^7) (disch:=try exact dI) only[hx,hj,TU,T1,ae,push_cast,seval]
    refine gJ hc1 [5] rfl (by simp(maxSteps:=9^7) (disch:=try exact dI) only[hx,hj,TU,T1,ae,push_cast,seval]) qsZ (fun r=>?_) ?_
    ·by_cases hr5:5=r
     ·subst hr5
      simp(maxSteps:=9^7) (disch:=try exact dI) only[push_cast,seval]
     ·simp(maxSteps:=9^7) (disch:=try exact dI) only[hr5,push_cast,seval]
    simp(maxSteps:=9^7) (disch:=try exact dI) only[hx,hj,TU,T1,ae,push_cast,seval]
    refine ab.lentK a2 [0,14] rfl qsZ qsZ ?_
    simp(maxSteps:=9^7) (disch:=try exact dI) only[hx,hj,TU,T1,ae,push_cast,seval]
    refine ab.lentK a3 [0,17] rfl qsZ qsZ ?_
    simp(maxSteps:=9^7) (disch:=try exact dI) only[hx,hj,TU,T1,ae,push_cast,seval]
    refine ab.lentK a4 [0,19] rfl qsZ qsZ ?_
    simp(maxSteps:=9^7) (disch:=try exact dI) only[hx,hj,TU,T1,ae,push_cast,seval]
    refine gJ hc2 [5] rfl (by simp(maxSteps:=9^7) (disch:=try exact dI) only[hx,hj,TU,T1,ae,push_cast,seval]) qsZ (fun r=>?_) ?_
    ·by_cases hr5:5=r
     ·subst hr5
      simp(maxSteps:=9^7) (disch:=try exact dI) only[push_cast,seval]
     ·simp(maxSteps:=9^7) (disch:=try exact dI) only[hr5,push_cast,seval]
    simp(maxSteps:=9^7) (disch:=try exact dI) only[hx,hj,TU,T1,ae,push_cast,seval]
    refine ab.lentK a5 [0,23] rfl qsZ qsZ ?_
    simp(maxSteps:=9^7) (disch:=try exact dI) only[hx,hj,TU,T1,ae,push_cast,seval]
    refine ab.pure hfin rfl ?_
    simp(maxSteps:=9^7) (disch:=try exact dI) only[hx,hj,TU,T1,ae,push_cast,seval]
    refine ab.lentK a6 [0,26] rfl qsZ qsZ ?_
    simp(maxSteps:=9^7) (disch:=try exact dI) only[hx,hj,TU,T1,ae,push_cast,seval]
    refine ab.lentK hst [0,1,2,28] rfl qsZ qsZ ?_
    simp(maxSteps:=9^7) (disch:=try exact dI) only[push_cast,seval]
    exact⟨m+1,aN (by simp(maxSteps:=9^7) (disch:=try exact dI) only[hB2,e2,e3,push_cast,seval]),by omega,by omega⟩
   ·rw[CL hj2] at a3
    rw[IU hj2] at a4
    simp(maxSteps:=9^7) (disch:=try exact dI) only[hx,T6,push_cast,seval]
    refine ab.pure hep1 rfl ?_
    simp(maxSteps:=9^7) (disch:=try exact dI) only[hx,push_cast,seval]
    refine au hnB rfl ?_
    simp(maxSteps:=9^7) (disch:=try exact dI) only[hx,push_cast,seval]
    refine ab.lentK a1 [0,3] rfl qsZ qsZ ?_
    simp(maxSteps:=9^7) (disch:=try exact dI) only[hx,push_cast,seval]
    refine gJ hc1 [5] rfl (by simp(maxSteps:=9^7) (disch:=try exact dI) only[hx,push_cast,seval]) qsZ (fun r=>?_) ?_
    ·by_cases hr5:5=r
     ·subst hr5
      simp(maxSteps:=9^7) (disch:=try exact dI) only[push_cast,seval]
     ·simp(maxSteps:=9^7) (disch:=try exact dI) only[hr5,push_cast,seval]
    simp(maxSteps:=9^7) (disch:=try exact dI) only[hx,push_cast,seval]
    refine ab.lentK a2 [0,14] rfl qsZ qsZ ?_
    simp(maxSteps:=9^7) (disch:=try exact dI) only[hx,push_cast,seval]
    refine ab.lentK a3 [0,17] rfl qsZ qsZ ?_
    simp(maxSteps:=9^7) (disch:=try exact dI) only[hx,push_cast,seval]
    refine ab.lentK a4 [0,19] rfl qsZ qsZ ?_
    simp(maxSteps:=9^7) (disch:=try exact dI) only[hx,push_cast,seval]
    refine gJ hc2 [5] rfl (by simp(maxSteps:=9^7) (disch:=try exact dI) only[hx,push_cast,seval]) qsZ (fun r=>?_) ?_
    ·by_cases hr5:5=r
     ·subst hr5
      simp(maxSteps:=9^7) (disch:=try exact dI) only[push_cast,seval]
     ·simp(maxSteps:=9^7) (disch:=try exact dI) only[hr5,push_cast,seval]
    simp(maxSteps:=9^7) (disch:=try exact dI) only[hx,push_cast,seval]
    refine ab.lentK a5 [0,21] rfl qsZ qsZ ?_
    simp(maxSteps:=9^7) (disch:=try exact dI) only[hx,push_cast,seval]
    refine ab.pure hfin rfl ?_
    simp(maxSteps:=9^7) (disch:=try exact dI) only[hx,push_cast,seval]
    refine ab.lentK a6 [0,24] rfl qsZ qsZ ?_
    simp(maxSteps:=9^7) (disch:=try exact dI) only[hx,push_cast,seval]
    refine ab.lentK hst [0,1,2,26] rfl qsZ qsZ ?_
    simp(maxSteps:=9^7) (disch:=try exact dI) only[push_cast,seval]
    exact⟨m+1,aN (by simp(maxSteps:=9^7) (disch:=try exact dI) only[hB2,e2,e3,push_cast,seval]),by omega,by omega⟩
  ·have hltI:¬ (m:Int)<pr.length:=by omega
   have hle:pr.take m=pr:=Ux (by omega)
   have hol:=hRfl N0 m (by omega)
   rw[hle] at hol ⊢
   have hl0:(th++(ixO Rf N0 0 pr).1).length<=7900000000:=aD (m:=20000) (n:=7899980000) (by omega) (by omega)
   generalize th++(ixO Rf N0 0 pr).1=oz at *
   simp(maxSteps:=9^7) (disch:=try exact dI) only[push_cast,seval]
 ·rw[if_neg hLO]
  have h0:(0:Int)<LO.length:=by have:=List.length_pos_iff.2 hLO;omega
  rw[show LO.take 200=LO from Ux (by omega)]
  simp(maxSteps:=9^7) (disch:=try exact dI) only[push_cast,seval]
