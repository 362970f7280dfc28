/- A part. -/
import Derived.Test.YtngchmkoadaecaaGreatDoorPbJN4
set_option linter.unusedVariables false
set_option linter.unusedSimpArgs false
set_option maxHeartbeats 16000000
set_option maxRecDepth 100000
open List renaming mem_cons->Xs,length_append->W0,length_cons->Xa,length_nil->Xn
namespace Go.Proofs.YtngchmkoadaecaaGreatDoor
open Go Go.Ab
theorem IQ (l:List Wkd)(g:Nat)(cs:List PV)(q:Wkd->Bool)(hq:∀ x∈l,ap Tryz.prog aC g (x.pv::cs) (.bool (q x)))(hmax:l.length<=maxLen) :
  ap Tryz.prog aC 102 [.list (l.map Wkd.pv),.clo g [] cs] (.int .i64 (bL (l.findIdx? q))):=by
 have hm:l.length<=9223372036854775807:=by unfold maxLen at hmax;omega
 clear hmax
 refine ap.intro VF.2 (by simp[VF]) ?_
 simp(maxSteps:=9^7) (disch:=try exact dI) only[VF,push_cast,seval]
 refine au ([]) (fun i:Nat=>[(8,.pv (.int .i64 (i:Int)))]) (fun _=>[]) (fun i=>i<=l.length/\∀ j x,j<i->l[j]? = some x->q x=false) (fun i=>l.length - i) (0) ?_;intro e0 σ0 n0 h0;simp(maxSteps:=9^7) (disch:=try exact dI) only[push_cast,seval] at h0;obtain⟨rfl,rfl,rfl⟩:=h0;refine⟨?_,?_,?_⟩
 ·simp(maxSteps:=9^7) (disch:=try exact dI) only[push_cast,seval]
 ·exact⟨Nat.zero_le _,by omega⟩
 rintro i ⟨hi,hpre⟩
 by_cases hlt:i<l.length
 ·have hltI:(i:Int)<l.length:=by omega
  obtain⟨x,hx⟩:∃ x,l[i]? = some x:=⟨l[i],List.getElem?_eq_getElem hlt⟩
  have hcall:=hq x (List.mem_of_getElem? hx)
  simp(maxSteps:=9^7) (disch:=try exact dI) only[hx,Wkd.cells_len,Wkd.isAgg,push_cast,seval]
  refine ab.pure hcall (by rw[eE,fq];rfl) ?_
  simp(maxSteps:=9^7) (disch:=try exact dI) only[push_cast,seval]
  refine fu (fun hqx=>?_) (fun hqx=>?_)
  ·simp(maxSteps:=9^7) (disch:=try exact dI) only[push_cast,seval]
   rw[dD hx hqx hpre];exact .refl _
  ·simp(maxSteps:=9^7) (disch:=try exact dI) only[push_cast,seval]
   refine⟨i+1,aJ qsZ,⟨by omega,fun j x hj hjx=>?_⟩,by omega⟩
   rcases Nat.lt_or_ge j i with h | h
   ·exact hpre j x h hjx
   ·have:j=i:=by omega
    subst this
    rw[hx] at hjx;cases hjx;exact hqx
 ·have hltI:¬ (i:Int)<l.length:=by omega
  simp(maxSteps:=9^7) (disch:=try exact dI) only[push_cast,seval]
  rw[dE (fun j x hj hjx=>hpre j x (by omega) hjx)];exact .refl _
theorem zm (l:List Wkd)(g:Nat)(cs:List PV)(q:Wkd->Bool)(hq:∀ x∈l,ap Tryz.prog aC g (x.pv::cs) (.bool (q x)))(hmax:l.length<=maxLen) :
  ap Tryz.prog aC 51 [.list (l.map Wkd.pv),.clo g [] cs] (.bool (l.any q)):=by
 refine ap.intro Q51.2 (by simp[Q51]) ?_
 simp(maxSteps:=9^7) (disch:=try exact dI) only[Q51,push_cast,seval]
 refine ab.pure (IQ l g cs q hq hmax) rfl ?_
 simp(maxSteps:=9^7) (disch:=try exact dI) only[push_cast,seval]
 cases h:l.findIdx? q with
 | none=>
   rw[List.findIdx?_eq_none_iff] at h
   have:l.any q=false:=by
    rw[List.any_eq_false]
    intro x hx;simpa using h x hx
   rw[this];simp only[bL];exact .refl _
 | some i=>
   rw[List.findIdx?_eq_some_iff_getElem] at h
   obtain⟨hlt,hqi,_⟩:=h
   have:l.any q=true:=List.any_eq_true.2 ⟨_,List.getElem_mem hlt,hqi⟩
   rw[this]
   simp[bL]
theorem lI (route:Int):∀ (n:Nat) (p:List Int) (l:List Stp) (w:Wkd),w∈aL route n p l->w.place.length % 2=(p.length+1) % 2
 | 0,p,l,w,h=>by simp[aL] at h
 | n+1,p,l,w,h=>by
   rw[aL] at h
   obtain⟨i,s,hs,hw⟩:=cj h
   rcases Xs.1 hw with rfl | hw
   ·simp[Wkd.place]
   ·obtain⟨j,b,hb,hw⟩:=cj hw
    have:=lI route n _ _ w hw
    simp only[W0,Xa,Xn] at this
    omega
theorem gn (route:Int):∀ (n:Nat) (p:List Int) (l:List Stp) (w:Wkd),w∈aL route n p l->w.place.length<=p.length+2*n
 | 0,p,l,w,h=>by simp[aL] at h
 | n+1,p,l,w,h=>by
   rw[aL] at h
   obtain⟨i,s,hs,hw⟩:=cj h
   rcases Xs.1 hw with rfl | hw
   ·simp[Wkd.place];omega
   ·obtain⟨j,b,hb,hw⟩:=cj hw
    have:=gn route n _ _ w hw
    simp only[W0,Xa,Xn] at this
    omega
theorem jI {n:Nat}{p:Prg}{w:Wkd}(h:w∈cW n p):w.place.length % 2=1/\w.place.length<=2*n:=by
 obtain⟨i,r,hr,hw⟩:=cj h
 have h1:=lI i n _ _ w hw
 have h2:=gn i n _ _ w hw
 simp only[Xn] at h1 h2
 omega
theorem UL (x:Wkd)(ho:x.place.length % 2=1)(hl:x.place.length<=1000):ap Tryz.prog aC 52 [x.pv] (.bool (decide (7<x.place.length))):=by
 obtain⟨r,pl,⟨s1,s2,s3,s4,s5,s6,s7,s8,s9,sa,sb⟩⟩:=x
 simp only[Wkd.place] at ho hl ⊢
 have hI:Int.tdiv ((pl.length:Int)+1) 2=(((pl.length+1) / 2:Nat):Int):=by rw[Int.tdiv_eq_ediv_of_nonneg (by omega)];omega
 refine ap.intro Q52.2 (by simp[Q52]) ?_
 by_cases h:7<pl.length
 ·simp(maxSteps:=9^7) (disch:=try exact dI) only[Q52,WR,WF,ae,hI,push_cast,seval]
  simp[h];try omega
 ·simp(maxSteps:=9^7) (disch:=try exact dI) only[Q52,WR,WF,ae,hI,push_cast,seval]
  simp[h];try omega
theorem V7 {n:Nat}(h:n<=9000000000000):n<=maxLen:=by unfold maxLen;omega
theorem Iz (n:Nat)(hn:n<=400)(hc:cnt n<=100000000)(p:Prg)(hp:okW n p)(hok:p.ok)(hsz:p.endpoints.length<=1000000/\p.services.length<=1000000)(out:List Prb)(ho:out.length<=1000) :
  bz Tryz.prog aC 1 27 [.ptr 0 0,.pv p.pv] [fU [] [] out 1,.tok 82 4] (.pv (.tup [])) [fU [] [] (out++Dc p (cW n p)) 1,.tok 82 4]:=by
 have hw:=PQ n hn hc p hp
 have hwl:(cW n p).length<=6*cnt n:=Nat.le_trans (bh _ (cnt n) _ fun r hr i=>bd _ n _ _ (hp.2 r hr).1) (Nat.mul_le_mul_right _ hp.1)
 have hdp:=zm (cW n p) 52 [] (fun w=>decide (7<w.place.length)) (fun x hx=>UL x (jI hx).1 (by have:=(jI hx).2;omega)) (V7 (by omega))
 change ap _ _ _ _ (.bool (tf (cW n p))) at hdp
 generalize cW n p=ws at *
 obtain⟨v,s,e,w,rs⟩:=p
 rw[Wu] at hok
 simp only[Prg.endpoints,Prg.services] at hsz
 have key:out++Dc ⟨v,s,e,w,rs⟩ ws=((((((out++aG [] [] (decide ((64:Int)<(s.length:Int))) 16 dR)++aG [] [] (decide ((64:Int)<(e.length:Int))) 16 cC)++aG [] [] (decide ((64:Int)<(w.length:Int))) 16 cZ)++aG [] [] (decide ((64:Int)<(rs.length:Int))) 16 fj)++aG [] [] (decide ((64:Int)<(ws.length:Int))) 16 iP)++aG [] [] (tf ws) 16 fl)++aG [] [] (decide ((128:Int)<(e.length:Int)+(w.length:Int)+(ws.length:Int))) 16 jU:=by
  simp only[Dc,Prg.endpoints,Prg.services,Prg.schemas,Prg.routes,List.append_assoc]
  rfl
 rw[key]
 clear key
 generalize tf ws=dp at *
 have hI:∀ n m:Nat,((m:Int)<(n:Int))=(m<n):=fun n m=>propext ⟨fun h=>by omega,fun h=>by omega⟩
 have a1:=bB [] [] out (decide ((64:Int)<(s.length:Int))) 16 dR (by simp) (by omega)
 have l1:=aA ho (am [] [] (decide ((64:Int)<(s.length:Int))) 16 dR)
 generalize out++aG [] [] (decide ((64:Int)<(s.length:Int))) 16 dR=o1 at *
 have a2:=bB [] [] o1 (decide ((64:Int)<(e.length:Int))) 16 cC (by simp) (by omega)
 have l2:=aA l1 (am [] [] (decide ((64:Int)<(e.length:Int))) 16 cC)
 generalize o1++aG [] [] (decide ((64:Int)<(e.length:Int))) 16 cC=o2 at *
 have a3:=bB [] [] o2 (decide ((64:Int)<(w.length:Int))) 16 cZ (by simp) (by omega)
 have l3:=aA l2 (am [] [] (decide ((64:Int)<(w.length:Int))) 16 cZ)
 generalize o2++aG [] [] (decide ((64:Int)<(w.length:Int))) 16 cZ=o3 at *
 have a4:=bB [] [] o3 (decide ((64:Int)<(rs.length:Int))) 16 fj (by simp) (by omega)
 have l4:=aA l3 (am [] [] (decide ((64:Int)<(rs.length:Int))) 16 fj)
 generalize o3++aG [] [] (decide ((64:Int)<(rs.length:Int))) 16 fj=o4 at *
 have a5:=bB [] [] o4 (decide ((64:Int)<(ws.length:Int))) 16 iP (by simp) (by omega)
 have l5:=aA l4 (am [] [] (decide ((64:Int)<(ws.length:Int))) 16 iP)
 generalize o4++aG [] [] (decide ((64:Int)<(ws.length:Int))) 16 iP=o5 at *
 have a6:=bB [] [] o5 dp 16 fl (by simp) (by omega)
 have l6:=aA l5 (am [] [] dp 16 fl)
 generalize o5++aG [] [] dp 16 fl=o6 at *
 have a7:=bB [] [] o6 (decide ((128:Int)<(e.length:Int)+(w.length:Int)+(ws.length:Int))) 16 jU (by simp) (by omega)
 generalize o6++aG [] [] (decide ((128:Int)<(e.length:Int)+(w.length:Int)+(ws.length:Int))) 16 jU=o7 at *
 simp only[fU,List.map_nil] at *
 refine bz.intro Q27.2 (by simp[Q27]) ?_
 simp(maxSteps:=9^7) (disch:=try exact dI) only[Q27,Wv,push_cast,seval]
 rw[Wv] at hw
 refine ab.pure hw rfl ?_
 simp(maxSteps:=9^7) (disch:=try exact dI) only[dR,push_cast,seval]
 refine ab.lentK a1 [0,1] rfl (by simp(maxSteps:=9^7) (disch:=try exact dI) only[dR,push_cast,seval]) qsZ ?_
 simp(maxSteps:=9^7) (disch:=try exact dI) only[cC,push_cast,seval]
 refine ab.lentK a2 [0,5] rfl (by simp(maxSteps:=9^7) (disch:=try exact dI) only[cC,push_cast,seval]) qsZ ?_
 simp(maxSteps:=9^7) (disch:=try exact dI) only[cZ,push_cast,seval]
 refine ab.lentK a3 [0,7] rfl (by simp(maxSteps:=9^7) (disch:=try exact dI) only[cZ,push_cast,seval]) qsZ ?_
 simp(maxSteps:=9^7) (disch:=try exact dI) only[fj,push_cast,seval]
 refine ab.lentK a4 [0,9] rfl (by simp(maxSteps:=9^7) (disch:=try exact dI) only[fj,push_cast,seval]) qsZ ?_
 simp(maxSteps:=9^7) (disch:=try exact dI) only[iP,push_cast,seval]
 refine ab.lentK a5 [0,11] rfl (by simp(maxSteps:=9^7) (disch:=try exact dI) only[iP,push_cast,seval]) qsZ ?_
 simp(maxSteps:=9^7) (disch:=try exact dI) only[push_cast,seval]
 refine ab.pure hdp rfl ?_
 simp(maxSteps:=9^7) (disch:=try exact dI) only[fl,push_cast,seval]
 refine ab.lentK a6 [0,12] rfl (by simp(maxSteps:=9^7) (disch:=try exact dI) only[fl,push_cast,seval]) qsZ ?_
 simp(maxSteps:=9^7) (disch:=try exact dI) only[jU,push_cast,seval]
 refine ab.lentK a7 [0,13] rfl (by simp(maxSteps:=9^7) (disch:=try exact dI) only[jU,push_cast,seval]) qsZ ?_
 simp(maxSteps:=9^7) (disch:=try exact dI) only[push_cast,seval]
 exact aH [] qsZ
theorem Mj:bz Tryz.prog aC 0 29 [] [] (.mp 0) [.mp aX]:=by
 have ha:=tA [.clo 57 [] [],.clo 59 [] [],.clo 64 [] []] (by simp)
 have hb:=tA [.clo 56 [] [],.clo 58 [] []] (by simp)
 have hc:=tA [.clo 56 [] [],.clo 57 [] []] (by simp)
 have hd:=tA [.clo 58 [] [],.clo 63 [] [],.clo 59 [] [],.clo 57 [] []] (by simp)
 have he:=tA [.clo 58 [] [],.clo 59 [] []] (by simp)
 have hf:=tA [.clo 58 [] [],.clo 63 [] []] (by simp)
 have hg:=tA [.clo 63 [] [],.clo 59 [] []] (by simp)
 refine bz.intro Q29.2 (by simp[Q29]) ?_
 simp(maxSteps:=9^7) (disch:=try exact dI) only[Q29,AI,qS,sD,bj,pZ,pY,pX,push_cast,seval]
 refine ab.pure ha rfl ?_
 simp(maxSteps:=9^7) (disch:=try exact dI) only[bj,pZ,pY,pX,push_cast,seval]
 refine ab.pure hb rfl ?_
 simp(maxSteps:=9^7) (disch:=try exact dI) only[bj,pZ,pY,pX,Qs,Qr,push_cast,seval]
 refine ab.pure hc rfl ?_
 simp(maxSteps:=9^7) (disch:=try exact dI) only[bj,pZ,pY,pX,Qq,push_cast,seval]
 refine ab.pure hd rfl ?_
 simp(maxSteps:=9^7) (disch:=try exact dI) only[bj,pZ,pY,pX,Qp,push_cast,seval]
 refine ab.pure he rfl ?_
 simp(maxSteps:=9^7) (disch:=try exact dI) only[bj,pZ,pY,pX,Qo,push_cast,seval]
 refine ab.pure hf rfl ?_
 simp(maxSteps:=9^7) (disch:=try exact dI) only[bj,pZ,pY,pX,Qn,push_cast,seval]
 refine ab.pure hg rfl ?_
 simp(maxSteps:=9^7) (disch:=try exact dI) only[bj,pZ,pY,pX,Qm,Ql,Qk,MA,Mz,My,Mx,Mw,wP,push_cast,seval]
 exact aH [] qsZ
