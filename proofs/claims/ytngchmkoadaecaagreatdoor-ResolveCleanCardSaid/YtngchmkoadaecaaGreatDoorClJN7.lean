/- A part. -/
import Derived.Test.YtngchmkoadaecaaGreatDoorClJN2
set_option linter.unusedVariables false
set_option linter.unusedSimpArgs false
set_option maxHeartbeats 16000000
set_option maxRecDepth 100000
open List renaming mem_cons->UP,length_append->Uy,length_cons->UC,length_nil->UR
namespace Go.Proofs.YtngchmkoadaecaaGreatDoor
open Go Go.Ab
theorem GV (l:List Wkd)(g:Nat)(cs:List PV)(q:Wkd->Bool)(hq:∀ x∈l,ap Tryz.prog aB g (x.pv::cs) (.bool (q x)))(hmax:l.length<=maxLen) :
  ap Tryz.prog aB 102 [.list (l.map Wkd.pv),.clo g [] cs] (.int .i64 (cj (l.findIdx? q))):=by
 have hm:l.length<=9223372036854775807:=by unfold maxLen at hmax;omega
 clear hmax
 refine ap.intro Ta.2 (by simp[Ta]) ?_
 simp(maxSteps:=9^7) (disch:=try exact dI) only[Ta,push_cast,seval]
 refine aw ([]) (fun i:Nat=>[(8,.pv (.int .i64 (i:Int)))]) (fun _=>[]) (fun i=>i<=l.length/\∀ j x,j<i->l[j]? = some x->q x=false) (fun i=>l.length - i) (0) ?_;intro e0 σ0 n0 h0;simp(maxSteps:=9^7) (disch:=try exact dI) only[push_cast,seval] at h0;obtain⟨rfl,rfl,rfl⟩:=h0;refine⟨?_,?_,?_⟩
 ·simp(maxSteps:=9^7) (disch:=try exact dI) only[push_cast,seval]
 ·exact⟨Nat.zero_le _,by omega⟩
 rintro i ⟨hi,hpre⟩
 by_cases hlt:i<l.length
 ·have hltI:(i:Int)<l.length:=by omega
  obtain⟨x,hx⟩:∃ x,l[i]? = some x:=⟨l[i],List.getElem?_eq_getElem hlt⟩
  have hcall:=hq x (List.mem_of_getElem? hx)
  simp(maxSteps:=9^7) (disch:=try exact dI) only[hx,Wkd.cells_len,Wkd.isAgg,push_cast,seval]
  refine ab.pure hcall (by rw[eg,eZ];rfl) ?_
  simp(maxSteps:=9^7) (disch:=try exact dI) only[push_cast,seval]
  refine e6 (fun hqx=>?_) (fun hqx=>?_)
  ·simp(maxSteps:=9^7) (disch:=try exact dI) only[push_cast,seval]
   rw[dS hx hqx hpre];exact .refl _
  ·simp(maxSteps:=9^7) (disch:=try exact dI) only[push_cast,seval]
   refine⟨i+1,aN qsZ,⟨by omega,fun j x hj hjx=>?_⟩,by omega⟩
   rcases Nat.lt_or_ge j i with h | h
   ·exact hpre j x h hjx
   ·have:j=i:=by omega
    subst this
    rw[hx] at hjx;cases hjx;exact hqx
 ·have hltI:¬ (i:Int)<l.length:=by omega
  simp(maxSteps:=9^7) (disch:=try exact dI) only[push_cast,seval]
  rw[dU (fun j x hj hjx=>hpre j x (by omega) hjx)];exact .refl _
theorem wX (l:List Wkd)(g:Nat)(cs:List PV)(q:Wkd->Bool)(hq:∀ x∈l,ap Tryz.prog aB g (x.pv::cs) (.bool (q x)))(hmax:l.length<=maxLen) :
  ap Tryz.prog aB 51 [.list (l.map Wkd.pv),.clo g [] cs] (.bool (l.any q)):=by
 refine ap.intro Q51.2 (by simp[Q51]) ?_
 simp(maxSteps:=9^7) (disch:=try exact dI) only[Q51,push_cast,seval]
 refine ab.pure (GV l g cs q hq hmax) rfl ?_
 simp(maxSteps:=9^7) (disch:=try exact dI) only[push_cast,seval]
 cases h:l.findIdx? q with
 | none=>
   rw[List.findIdx?_eq_none_iff] at h
   have:l.any q=false:=by
    rw[List.any_eq_false]
    intro x hx;simpa using h x hx
   rw[this];simp only[cj];exact .refl _
 | some i=>
   rw[List.findIdx?_eq_some_iff_getElem] at h
   obtain⟨hlt,hqi,_⟩:=h
   have:l.any q=true:=List.any_eq_true.2 ⟨_,List.getElem_mem hlt,hqi⟩
   rw[this]
   simp[cj]
theorem kO (route:Int):∀ (n:Nat) (p:List Int) (l:List Stp) (w:Wkd),w∈aF route n p l->w.place.length % 2=(p.length+1) % 2
 | 0,p,l,w,h=>by simp[aF] at h
 | n+1,p,l,w,h=>by
   rw[aF] at h
   obtain⟨i,s,hs,hw⟩:=bD h
   rcases UP.1 hw with rfl | hw
   ·simp[Wkd.place]
   ·obtain⟨j,b,hb,hw⟩:=bD hw
    have:=kO route n _ _ w hw
    simp only[Uy,UC,UR] at this
    omega
theorem jg (route:Int):∀ (n:Nat) (p:List Int) (l:List Stp) (w:Wkd),w∈aF route n p l->w.place.length<=p.length+2*n
 | 0,p,l,w,h=>by simp[aF] at h
 | n+1,p,l,w,h=>by
   rw[aF] at h
   obtain⟨i,s,hs,hw⟩:=bD h
   rcases UP.1 hw with rfl | hw
   ·simp[Wkd.place];omega
   ·obtain⟨j,b,hb,hw⟩:=bD hw
    have:=jg route n _ _ w hw
    simp only[Uy,UC,UR] at this
    omega
theorem jd {n:Nat}{p:Prg}{w:Wkd}(h:w∈cJ n p):w.place.length % 2=1/\w.place.length<=2*n:=by
 obtain⟨i,r,hr,hw⟩:=bD h
 have h1:=kO i n _ _ w hw
 have h2:=jg i n _ _ w hw
 simp only[UR] at h1 h2
 omega
theorem Se (x:Wkd)(ho:x.place.length % 2=1)(hl:x.place.length<=1000):ap Tryz.prog aB 52 [x.pv] (.bool (decide (7<x.place.length))):=by
 obtain⟨r,pl,⟨s1,s2,s3,s4,s5,s6,s7,s8,s9,sa,sb⟩⟩:=x
 simp only[Wkd.place] at ho hl ⊢
 have hI:Int.tdiv ((pl.length:Int)+1) 2=(((pl.length+1) / 2:Nat):Int):=by rw[Int.tdiv_eq_ediv_of_nonneg (by omega)];omega
 refine ap.intro Q52.2 (by simp[Q52]) ?_
 by_cases h:7<pl.length
 ·simp(maxSteps:=9^7) (disch:=try exact dI) only[Q52,Up,Ud,ae,hI,push_cast,seval]
  simp[h];try omega
 ·simp(maxSteps:=9^7) (disch:=try exact dI) only[Q52,Up,Ud,ae,hI,push_cast,seval]
  simp[h];try omega
theorem TA {n:Nat}(h:n<=9000000000000):n<=maxLen:=by unfold maxLen;omega
theorem GF (n:Nat)(hn:n<=400)(hc:cnt n<=100000000)(p:Prg)(hp:okW n p)(hok:p.ok)(hsz:p.endpoints.length<=1000000/\p.services.length<=1000000)(out:List Prb)(ho:out.length<=1000) :
  bA Tryz.prog aB 1 27 [.ptr 0 0,.pv p.pv] [fD [] [] out 1,.tok 82 4] (.pv (.tup [])) [fD [] [] (out++LJ p (cJ n p)) 1,.tok 82 4]:=by
 have hw:=Nr n hn hc p hp
 have hwl:(cJ n p).length<=6*cnt n:=Nat.le_trans (bn _ (cnt n) _ fun r hr i=>ba _ n _ _ (hp.2 r hr).1) (Nat.mul_le_mul_right _ hp.1)
 have hdp:=wX (cJ n p) 52 [] (fun w=>decide (7<w.place.length)) (fun x hx=>Se x (jd hx).1 (by have:=(jd hx).2;omega)) (TA (by omega))
 change ap _ _ _ _ (.bool (HE (cJ n p))) at hdp
 generalize cJ n p=ws at *
 obtain⟨v,s,e,w,rs⟩:=p
 rw[T3] at hok
 simp only[Prg.endpoints,Prg.services] at hsz
 have key:out++LJ ⟨v,s,e,w,rs⟩ ws=((((((out++aL [] [] (decide ((64:Int)<(s.length:Int))) 16 ed)++aL [] [] (decide ((64:Int)<(e.length:Int))) 16 cy)++aL [] [] (decide ((64:Int)<(w.length:Int))) 16 dc)++aL [] [] (decide ((64:Int)<(rs.length:Int))) 16 fQ)++aL [] [] (decide ((64:Int)<(ws.length:Int))) 16 jo)++aL [] [] (HE ws) 16 fR)++aL [] [] (decide ((128:Int)<(e.length:Int)+(w.length:Int)+(ws.length:Int))) 16 kW:=by
  simp only[LJ,Prg.endpoints,Prg.services,Prg.schemas,Prg.routes,List.append_assoc]
  rfl
 rw[key]
 clear key
 generalize HE ws=dp at *
 have hI:∀ n m:Nat,((m:Int)<(n:Int))=(m<n):=fun n m=>propext ⟨fun h=>by omega,fun h=>by omega⟩
 have a1:=bp [] [] out (decide ((64:Int)<(s.length:Int))) 16 ed (by simp) (by omega)
 have l1:=aD ho (am [] [] (decide ((64:Int)<(s.length:Int))) 16 ed)
 generalize out++aL [] [] (decide ((64:Int)<(s.length:Int))) 16 ed=o1 at *
 have a2:=bp [] [] o1 (decide ((64:Int)<(e.length:Int))) 16 cy (by simp) (by omega)
 have l2:=aD l1 (am [] [] (decide ((64:Int)<(e.length:Int))) 16 cy)
 generalize o1++aL [] [] (decide ((64:Int)<(e.length:Int))) 16 cy=o2 at *
 have a3:=bp [] [] o2 (decide ((64:Int)<(w.length:Int))) 16 dc (by simp) (by omega)
 have l3:=aD l2 (am [] [] (decide ((64:Int)<(w.length:Int))) 16 dc)
 generalize o2++aL [] [] (decide ((64:Int)<(w.length:Int))) 16 dc=o3 at *
 have a4:=bp [] [] o3 (decide ((64:Int)<(rs.length:Int))) 16 fQ (by simp) (by omega)
 have l4:=aD l3 (am [] [] (decide ((64:Int)<(rs.length:Int))) 16 fQ)
 generalize o3++aL [] [] (decide ((64:Int)<(rs.length:Int))) 16 fQ=o4 at *
 have a5:=bp [] [] o4 (decide ((64:Int)<(ws.length:Int))) 16 jo (by simp) (by omega)
 have l5:=aD l4 (am [] [] (decide ((64:Int)<(ws.length:Int))) 16 jo)
 generalize o4++aL [] [] (decide ((64:Int)<(ws.length:Int))) 16 jo=o5 at *
 have a6:=bp [] [] o5 dp 16 fR (by simp) (by omega)
 have l6:=aD l5 (am [] [] dp 16 fR)
 generalize o5++aL [] [] dp 16 fR=o6 at *
 have a7:=bp [] [] o6 (decide ((128:Int)<(e.length:Int)+(w.length:Int)+(ws.length:Int))) 16 kW (by simp) (by omega)
 generalize o6++aL [] [] (decide ((128:Int)<(e.length:Int)+(w.length:Int)+(ws.length:Int))) 16 kW=o7 at *
 simp only[fD,List.map_nil] at *
 refine bA.intro Q27.2 (by simp[Q27]) ?_
 simp(maxSteps:=9^7) (disch:=try exact dI) only[Q27,T4,push_cast,seval]
 rw[T4] at hw
 refine ab.pure hw rfl ?_
 simp(maxSteps:=9^7) (disch:=try exact dI) only[ed,push_cast,seval]
 refine ab.lentK a1 [0,1] rfl (by simp(maxSteps:=9^7) (disch:=try exact dI) only[ed,push_cast,seval]) qsZ ?_
 simp(maxSteps:=9^7) (disch:=try exact dI) only[cy,push_cast,seval]
 refine ab.lentK a2 [0,5] rfl (by simp(maxSteps:=9^7) (disch:=try exact dI) only[cy,push_cast,seval]) qsZ ?_
 simp(maxSteps:=9^7) (disch:=try exact dI) only[dc,push_cast,seval]
 refine ab.lentK a3 [0,7] rfl (by simp(maxSteps:=9^7) (disch:=try exact dI) only[dc,push_cast,seval]) qsZ ?_
 simp(maxSteps:=9^7) (disch:=try exact dI) only[fQ,push_cast,seval]
 refine ab.lentK a4 [0,9] rfl (by simp(maxSteps:=9^7) (disch:=try exact dI) only[fQ,push_cast,seval]) qsZ ?_
 simp(maxSteps:=9^7) (disch:=try exact dI) only[jo,push_cast,seval]
 refine ab.lentK a5 [0,11] rfl (by simp(maxSteps:=9^7) (disch:=try exact dI) only[jo,push_cast,seval]) qsZ ?_
 simp(maxSteps:=9^7) (disch:=try exact dI) only[push_cast,seval]
 refine ab.pure hdp rfl ?_
 simp(maxSteps:=9^7) (disch:=try exact dI) only[fR,push_cast,seval]
 refine ab.lentK a6 [0,12] rfl (by simp(maxSteps:=9^7) (disch:=try exact dI) only[fR,push_cast,seval]) qsZ ?_
 simp(maxSteps:=9^7) (disch:=try exact dI) only[kW,push_cast,seval]
 refine ab.lentK a7 [0,13] rfl (by simp(maxSteps:=9^7) (disch:=try exact dI) only[kW,push_cast,seval]) qsZ ?_
 simp(maxSteps:=9^7) (disch:=try exact dI) only[push_cast,seval]
 exact aI [] qsZ
theorem J9:bA Tryz.prog aB 0 29 [] [] (.mp 0) [.mp aT]:=by
 have ha:=rR [.clo 57 [] [],.clo 59 [] [],.clo 64 [] []] (by simp)
 have hb:=rR [.clo 56 [] [],.clo 58 [] []] (by simp)
 have hc:=rR [.clo 56 [] [],.clo 57 [] []] (by simp)
 have hd:=rR [.clo 58 [] [],.clo 63 [] [],.clo 59 [] [],.clo 57 [] []] (by simp)
 have he:=rR [.clo 58 [] [],.clo 59 [] []] (by simp)
 have hf:=rR [.clo 58 [] [],.clo 63 [] []] (by simp)
 have hg:=rR [.clo 63 [] [],.clo 59 [] []] (by simp)
 refine bA.intro Q29.2 (by simp[Q29]) ?_
 simp(maxSteps:=9^7) (disch:=try exact dI) only[Q29,yq,pJ,q0,a8,o9,o8,oZ,push_cast,seval]
 refine ab.pure ha rfl ?_
 simp(maxSteps:=9^7) (disch:=try exact dI) only[a8,o9,o8,oZ,push_cast,seval]
 refine ab.pure hb rfl ?_
 simp(maxSteps:=9^7) (disch:=try exact dI) only[a8,o9,o8,oZ,Oe,Od,push_cast,seval]
 refine ab.pure hc rfl ?_
 simp(maxSteps:=9^7) (disch:=try exact dI) only[a8,o9,o8,oZ,Oc,push_cast,seval]
 refine ab.pure hd rfl ?_
 simp(maxSteps:=9^7) (disch:=try exact dI) only[a8,o9,o8,oZ,Ob,push_cast,seval]
 refine ab.pure he rfl ?_
 simp(maxSteps:=9^7) (disch:=try exact dI) only[a8,o9,o8,oZ,Oa,push_cast,seval]
 refine ab.pure hf rfl ?_
 simp(maxSteps:=9^7) (disch:=try exact dI) only[a8,o9,o8,oZ,N9,push_cast,seval]
 refine ab.pure hg rfl ?_
 simp(maxSteps:=9^7) (disch:=try exact dI) only[a8,o9,o8,oZ,N8,N7,N6,Kq,Kp,Ko,Kn,Km,uF,push_cast,seval]
 exact aI [] qsZ
