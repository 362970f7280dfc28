/- A part. -/
import Derived.Test.YtngchmkoadaecaaGreatDoorClJN5
set_option linter.unusedVariables false
set_option linter.unusedSimpArgs false
set_option maxHeartbeats 16000000
set_option maxRecDepth 100000
open List renaming append_assoc->UB,length_append->Uy,append_nil->UU,getElem?_eq_getElem->Uq,take_of_length_le->Ux
open Bool renaming and_false->VE
namespace Go.Proofs.YtngchmkoadaecaaGreatDoor
open Go Go.Ab
theorem NG (p:Prg)(s:Stp)(rn:List UInt8)(pl:List Int)(out:List Prb)(hok:p.ok)(hs:s.ok)(hp:pl.length<=1000000)(ho:out.length<=10000000000)(hc:s.calls.length<=18) :
  bA Tryz.prog aB 1 89 [.ptr 0 0,.pv p.pv,.pv s.pv] [fD rn pl out 1,.tok 82 4] (.pv (.tup [])) [fD rn pl (out++JF p rn pl s) 1,.tok 82 4]:=by
 have hlt:=IJ p s.schema hok
 have hep:=IV p s.text hok
 have hsv:=fun nm=>JS p nm hok
 have hso:=hs
 obtain⟨pv,ps,pe,pw,pr⟩:=p
 rw[T4] at hlt hep
 simp only[T4] at hsv
 simp only[Prg.endpoints] at hep
 simp only[Prg.services] at hsv
 simp only[Prg.schemas] at hlt
 obtain⟨nm,k,c,d,e,f,g,h,i,cl,w⟩:=s
 rw[Uc] at hso
 unfold JF
 simp only[Stp.text,Stp.schema,Stp.calls,Stp.kind] at hlt hep hc ⊢
 unfold ND
 obtain⟨o1,ho1⟩:∃ o1,o1=out++toO ⟨pv,ps,pe,pw,pr⟩ rn pl k f:=⟨_,rfl⟩
 have hl1:o1.length<=10000000002:=by rw[ho1];exact aD ho (yK ⟨pv,ps,pe,pw,pr⟩ rn pl k f)
 rw[<- UB,<- UB,<- ho1]
 have a3:=bp rn pl o1 (!decide (g=[])&&!dN ⟨pv,ps,pe,pw,pr⟩ g) 3 g hp (by omega)
 have hl2:=aD hl1 (am rn pl (!decide (g=[])&&!dN ⟨pv,ps,pe,pw,pr⟩ g) 3 g)
 generalize ho2:o1++aL rn pl (!decide (g=[])&&!dN ⟨pv,ps,pe,pw,pr⟩ g) 3 g=o2 at *
 generalize hlh:dN ⟨pv,ps,pe,pw,pr⟩ g=lh at *
 generalize BN (eT ps g ps.length)=ln at *
 have hcl:∀ m,(o2++aJ (ME ⟨pv,ps,pe,pw,pr⟩ rn pl k cl.length) (cl.take m)).length<=10000000100:=fun m=>by
  have:=bn (ME ⟨pv,ps,pe,pw,pr⟩ rn pl k cl.length) 2 (cl.take m) fun c _ i=>tC _ _ _ _ _ _ _
  have h2:(cl.take m).length<=18:=by rw[List.length_take];omega
  rw[Uy];omega
 generalize hF:ME ⟨pv,ps,pe,pw,pr⟩ rn pl k cl.length=F at *
 simp only[fD] at *
 refine bA.intro Q89.2 (by simp[Q89]) ?_
 by_cases hk:k=13
 ·rw[toO,if_pos hk] at ho1
  have hb1:=bp rn pl out (!fa ⟨pv,ps,pe,pw,pr⟩ f) 3 f hp (by omega)
  have hb2:=bp rn pl (out++aL rn pl (!fa ⟨pv,ps,pe,pw,pr⟩ f) 3 f) (px ⟨pv,ps,pe,pw,pr⟩ f 1) 4 f hp (by have:=am rn pl (!fa ⟨pv,ps,pe,pw,pr⟩ f) 3 f;rw[Uy];omega)
  rw[UB,<- ho1] at hb2
  generalize out++aL rn pl (!fa ⟨pv,ps,pe,pw,pr⟩ f) 3 f=oa at *
  simp only[fD] at hb1 hb2
  subst hk
  rcases hep with ⟨j,x,hx,hx2,hep⟩ | ⟨hx2,hep⟩
  ·rw[CK hx2] at hb1
   skip
   obtain⟨x1,x2,x3,x4,⟨y1,y2,y3⟩⟩:=x
   rw[show px ⟨pv,ps,pe,pw,pr⟩ f 1=decide (x2=1) from (IT hx2 1).trans rfl] at hb2
   simp(maxSteps:=9^7) (disch:=try exact dI) only[Q89,T4,Ud,push_cast,seval]
   refine ab.pure hep rfl ?_
   simp(maxSteps:=9^7) (disch:=try exact dI) only[push_cast,seval]
   refine ab.lentK hb1 [0,1] rfl qsZ qsZ ?_
   simp(maxSteps:=9^7) (disch:=try exact dI) only[hx,TU,T1,push_cast,seval]
   refine ab.lentK hb2 [0,8] rfl qsZ qsZ ?_
   simp(maxSteps:=9^7) (disch:=try exact dI) only[push_cast,seval]
   refine ab.pure hlt rfl ?_
   by_cases hg:g=[]
   ·have ea:(!decide (g=[])&&!lh)=false:=by rw[hg];rfl
    rw[ea] at a3
    simp(maxSteps:=9^7) (disch:=try exact dI) only[hg,push_cast,seval]
    rw[hg] at a3
    refine ab.lentK a3 [0,12] rfl qsZ qsZ ?_
    simp(maxSteps:=9^7) (disch:=try exact dI) only[push_cast,seval]
    refine aw ([]) (fun m:Nat=>[(65,.pv (.int .i64 (m:Int)))]) (fun m=>[(0,.cells 85 true [.pv (.str rn),.pv (.list (pl.map (PV.int .i64))),.olist 1 4 ((o2++aJ F (cl.take m)).map Prb.pv)])]) (fun m=>m<=cl.length) (fun m=>cl.length - m) (0) ?_;intro e0 σ0 n0 h0;simp(maxSteps:=9^7) (disch:=try exact dI) only[push_cast,seval] at h0;obtain⟨rfl,rfl,rfl⟩:=h0;refine⟨?_,?_,?_⟩
    ·simp(maxSteps:=9^7) (disch:=try exact dI) only[bv,UU,push_cast,seval]
    ·omega
    intro m hm
    by_cases hlt2:m<cl.length
    ·have hltI:(m:Int)<cl.length:=by omega
     obtain⟨x,hx⟩:∃ x,cl[m]? = some x:=⟨_,Uq hlt2⟩
     have hsn:o2++aJ F (cl.take (m+1))=(o2++aJ F (cl.take m))++F x m:=by rw[bc F hx,UB]
     have hcm:=hcl m
     generalize ho4:o2++aJ F (cl.take (m+1))=o4 at *
     generalize o2++aJ F (cl.take m)=o3 at *
     obtain⟨sv,mp⟩:=x
     have hFx:F (.mk sv mp) m=aL rn pl (!ci ⟨pv,ps,pe,pw,pr⟩ sv) 3 sv++aL rn pl (decide ((13:Int)=10)&&decide (m+1<cl.length)&&f8 ⟨pv,ps,pe,pw,pr⟩ sv) 12 sv:=by rw[<- hF];rfl
     rw[hFx,<- UB] at hsn
     have b1:=bp rn pl o3 (!ci ⟨pv,ps,pe,pw,pr⟩ sv) 3 sv hp (by omega)
     have hl3:=aD hcm (am rn pl (!ci ⟨pv,ps,pe,pw,pr⟩ sv) 3 sv)
     generalize o3++aL rn pl (!ci ⟨pv,ps,pe,pw,pr⟩ sv) 3 sv=o5 at *
     have b2:=bp rn pl o5 (decide ((13:Int)=10)&&decide (m+1<cl.length)&&f8 ⟨pv,ps,pe,pw,pr⟩ sv) 12 sv hp (by omega)
     rw[<- hsn] at b2
     simp only[fD] at b1 b2
     rcases hsv sv with ⟨j,y,hy,hy2,hc1⟩ | ⟨hy2,hc1⟩
     ·rw[gP hy2] at b1
      obtain⟨y1,y2,y3,u⟩:=y
      rw[show f8 ⟨pv,ps,pe,pw,pr⟩ sv=!u from kM hy2] at b2
      by_cases hk10:(13:Int)=10
      ·exact absurd hk10 (by decide)
      ·rw[show (decide ((13:Int)=10)&&decide (m+1<cl.length)&&!u)=false by rw[decide_eq_false hk10];simp] at b2
       simp(maxSteps:=9^7) (disch:=try exact dI) only[hx,TS,push_cast,seval]
       refine ab.pure hc1 rfl ?_
       simp(maxSteps:=9^7) (disch:=try exact dI) only[push_cast,seval]
       refine ab.lentK b1 [0,1] rfl qsZ qsZ ?_
       simp(maxSteps:=9^7) (disch:=try exact dI) only[hy,Uf,hk10,push_cast,seval]
       refine ab.lentK b2 [0,8] rfl qsZ qsZ ?_
       simp(maxSteps:=9^7) (disch:=try exact dI) only[push_cast,seval]
       exact⟨m+1,aN (by simp(maxSteps:=9^7) (disch:=try exact dI) only[ho4,push_cast,seval]),by omega,by omega⟩
     ·rw[gQ hy2] at b1
      rw[show f8 ⟨pv,ps,pe,pw,pr⟩ sv=false from kN hy2,VE] at b2
      simp(maxSteps:=9^7) (disch:=try exact dI) only[hx,TS,push_cast,seval]
      refine ab.pure hc1 rfl ?_
      simp(maxSteps:=9^7) (disch:=try exact dI) only[push_cast,seval]
      refine ab.lentK b1 [0,1] rfl qsZ qsZ ?_
      simp(maxSteps:=9^7) (disch:=try exact dI) only[push_cast,seval]
      refine ab.lentK b2 [0,8] rfl qsZ qsZ ?_
      simp(maxSteps:=9^7) (disch:=try exact dI) only[push_cast,seval]
      exact⟨m+1,aN (by simp(maxSteps:=9^7) (disch:=try exact dI) only[ho4,push_cast,seval]),by omega,by omega⟩
    ·have hltI:¬ (m:Int)<cl.length:=by omega
     have hle:cl.take m=cl:=Ux (by omega)
     simp(maxSteps:=9^7) (disch:=try exact dI) only[hle,push_cast,seval]
     exact aI [] qsZ
   ·have ea:(!decide (g=[])&&!lh)=!lh:=by rw[decide_eq_false hg];rfl
    rw[ea] at a3
    simp(maxSteps:=9^7) (disch:=try exact dI) only[hg,push_cast,seval]
    refine ab.lentK a3 [0,12] rfl (by simp(maxSteps:=9^7) (disch:=try exact dI) only[hg,push_cast,seval]) qsZ ?_
    simp(maxSteps:=9^7) (disch:=try exact dI) only[push_cast,seval]
    refine aw ([]) (fun m:Nat=>[(65,.pv (.int .i64 (m:Int)))]) (fun m=>[(0,.cells 85 true [.pv (.str rn),.pv (.list (pl.map (PV.int .i64))),.olist 1 4 ((o2++aJ F (cl.take m)).map Prb.pv)])]) (fun m=>m<=cl.length) (fun m=>cl.length - m) (0) ?_;intro e0 σ0 n0 h0;simp(maxSteps:=9^7) (disch:=try exact dI) only[push_cast,seval] at h0;obtain⟨rfl,rfl,rfl⟩:=h0;refine⟨?_,?_,?_⟩
    ·simp(maxSteps:=9^7) (disch:=try exact dI) only[bv,UU,push_cast,seval]
    ·omega
    intro m hm
    by_cases hlt2:m<cl.length
    ·have hltI:(m:Int)<cl.length:=by omega
     obtain⟨x,hx⟩:∃ x,cl[m]? = some x:=⟨_,Uq hlt2⟩
     have hsn:o2++aJ F (cl.take (m+1))=(o2++aJ F (cl.take m))++F x m:=by rw[bc F hx,UB]
     have hcm:=hcl m
     generalize ho4:o2++aJ F (cl.take (m+1))=o4 at *
     generalize o2++aJ F (cl.take m)=o3 at *
     obtain⟨sv,mp⟩:=x
     have hFx:F (.mk sv mp) m=aL rn pl (!ci ⟨pv,ps,pe,pw,pr⟩ sv) 3 sv++aL rn pl (decide ((13:Int)=10)&&decide (m+1<cl.length)&&f8 ⟨pv,ps,pe,pw,pr⟩ sv) 12 sv:=by rw[<- hF];rfl
     rw[hFx,<- UB] at hsn
     have b1:=bp rn pl o3 (!ci ⟨pv,ps,pe,pw,pr⟩ sv) 3 sv hp (by omega)
     have hl3:=aD hcm (am rn pl (!ci ⟨pv,ps,pe,pw,pr⟩ sv) 3 sv)
     generalize o3++aL rn pl (!ci ⟨pv,ps,pe,pw,pr⟩ sv) 3 sv=o5 at *
     have b2:=bp rn pl o5 (decide ((13:Int)=10)&&decide (m+1<cl.length)&&f8 ⟨pv,ps,pe,pw,pr⟩ sv) 12 sv hp (by omega)
     rw[<- hsn] at b2
     simp only[fD] at b1 b2
     rcases hsv sv with ⟨j,y,hy,hy2,hc1⟩ | ⟨hy2,hc1⟩
     ·rw[gP hy2] at b1
      obtain⟨y1,y2,y3,u⟩:=y
      rw[show f8 ⟨pv,ps,pe,pw,pr⟩ sv=!u from kM hy2] at b2
      by_cases hk10:(13:Int)=10
      ·exact absurd hk10 (by decide)
      ·rw[show (decide ((13:Int)=10)&&decide (m+1<cl.length)&&!u)=false by rw[decide_eq_false hk10];simp] at b2
       simp(maxSteps:=9^7) (disch:=try exact dI) only[hx,TS,push_cast,seval]
       refine ab.pure hc1 rfl ?_
       simp(maxSteps:=9^7) (disch:=try exact dI) only[push_cast,seval]
       refine ab.lentK b1 [0,1] rfl qsZ qsZ ?_
       simp(maxSteps:=9^7) (disch:=try exact dI) only[hy,Uf,hk10,push_cast,seval]
       refine ab.lentK b2 [0,8] rfl qsZ qsZ ?_
       simp(maxSteps:=9^7) (disch:=try exact dI) only[push_cast,seval]
       exact⟨m+1,aN (by simp(maxSteps:=9^7) (disch:=try exact dI) only[ho4,push_cast,seval]),by omega,by omega⟩
     ·rw[gQ hy2] at b1
      rw[show f8 ⟨pv,ps,pe,pw,pr⟩ sv=false from kN hy2,VE] at b2
      simp(maxSteps:=9^7) (disch:=try exact dI) only[hx,TS,push_cast,seval]
      refine ab.pure hc1 rfl ?_
      simp(maxSteps:=9^7) (disch:=try exact dI) only[push_cast,seval]
      refine ab.lentK b1 [0,1] rfl qsZ qsZ ?_
      simp(maxSteps:=9^7) (disch:=try exact dI) only[push_cast,seval]
      refine ab.lentK b2 [0,8] rfl qsZ qsZ ?_
      simp(maxSteps:=9^7) (disch:=try exact dI) only[push_cast,seval]
      exact⟨m+1,aN (by simp(maxSteps:=9^7) (disch:=try exact dI) only[ho4,push_cast,seval]),by omega,by omega⟩
    ·have hltI:¬ (m:Int)<cl.length:=by omega
     have hle:cl.take m=cl:=Ux (by omega)
     simp(maxSteps:=9^7) (disch:=try exact dI) only[hle,push_cast,seval]
     exact aI [] qsZ
  ·rw[CL hx2] at hb1
   rw[IU hx2] at hb2
   simp(maxSteps:=9^7) (disch:=try exact dI) only[Q89,T4,Ud,push_cast,seval]
   refine ab.pure hep rfl ?_
   simp(maxSteps:=9^7) (disch:=try exact dI) only[push_cast,seval]
   refine ab.lentK hb1 [0,1] rfl qsZ qsZ ?_
   simp(maxSteps:=9^7) (disch:=try exact dI) only[push_cast,seval]
   refine ab.lentK hb2 [0,8] rfl qsZ qsZ ?_
   simp(maxSteps:=9^7) (disch:=try exact dI) only[push_cast,seval]
   refine ab.pure hlt rfl ?_
   by_cases hg:g=[]
   ·have ea:(!decide (g=[])&&!lh)=false:=by rw[hg];rfl
    rw[ea] at a3
    simp(maxSteps:=9^7) (disch:=try exact dI) only[hg,push_cast,seval]
    rw[hg] at a3
    refine ab.lentK a3 [0,10] rfl qsZ qsZ ?_
    simp(maxSteps:=9^7) (disch:=try exact dI) only[push_cast,seval]
    refine aw ([]) (fun m:Nat=>[(65,.pv (.int .i64 (m:Int)))]) (fun m=>[(0,.cells 85 true [.pv (.str rn),.pv (.list (pl.map (PV.int .i64))),.olist 1 4 ((o2++aJ F (cl.take m)).map Prb.pv)])]) (fun m=>m<=cl.length) (fun m=>cl.length - m) (0) ?_;intro e0 σ0 n0 h0;simp(maxSteps:=9^7) (disch:=try exact dI) only[push_cast,seval] at h0;obtain⟨rfl,rfl,rfl⟩:=h0;refine⟨?_,?_,?_⟩
    ·simp(maxSteps:=9^7) (disch:=try exact dI) only[bv,UU,push_cast,seval]
    ·omega
    intro m hm
    by_cases hlt2:m<cl.length
    ·have hltI:(m:Int)<cl.length:=by omega
     obtain⟨x,hx⟩:∃ x,cl[m]? = some x:=⟨_,Uq hlt2⟩
     have hsn:o2++aJ F (cl.take (m+1))=(o2++aJ F (cl.take m))++F x m:=by rw[bc F hx,UB]
     have hcm:=hcl m
     generalize ho4:o2++aJ F (cl.take (m+1))=o4 at *
     generalize o2++aJ F (cl.take m)=o3 at *
     obtain⟨sv,mp⟩:=x
     have hFx:F (.mk sv mp) m=aL rn pl (!ci ⟨pv,ps,pe,pw,pr⟩ sv) 3 sv++aL rn pl (decide ((13:Int)=10)&&decide (m+1<cl.length)&&f8 ⟨pv,ps,pe,pw,pr⟩ sv) 12 sv:=by rw[<- hF];rfl
     rw[hFx,<- UB] at hsn
     have b1:=bp rn pl o3 (!ci ⟨pv,ps,pe,pw,pr⟩ sv) 3 sv hp (by omega)
     have hl3:=aD hcm (am rn pl (!ci ⟨pv,ps,pe,pw,pr⟩ sv) 3 sv)
     generalize o3++aL rn pl (!ci ⟨pv,ps,pe,pw,pr⟩ sv) 3 sv=o5 at *
     have b2:=bp rn pl o5 (decide ((13:Int)=10)&&decide (m+1<cl.length)&&f8 ⟨pv,ps,pe,pw,pr⟩ sv) 12 sv hp (by omega)
     rw[<- hsn] at b2
     simp only[fD] at b1 b2
     rcases hsv sv with ⟨j,y,hy,hy2,hc1⟩ | ⟨hy2,hc1⟩
     ·rw[gP hy2] at b1
      obtain⟨y1,y2,y3,u⟩:=y
      rw[show f8 ⟨pv,ps,pe,pw,pr⟩ sv=!u from kM hy2] at b2
      by_cases hk10:(13:Int)=10
      ·exact absurd hk10 (by decide)
      ·rw[show (decide ((13:Int)=10)&&decide (m+1<cl.length)&&!u)=false by rw[decide_eq_false hk10];simp] at b2
       simp(maxSteps:=9^7) (disch:=try exact dI) only[hx,TS,push_cast,seval]
       refine ab.pure hc1 rfl ?_
       simp(maxSteps:=9^7) (disch:=try exact dI) only[push_cast,seval]
       refine ab.lentK b1 [0,1] rfl qsZ qsZ ?_
       simp(maxSteps:=9^7) (disch:=try exact dI) only[hy,Uf,hk10,push_cast,seval]
       refine ab.lentK b2 [0,8] rfl qsZ qsZ ?_
       simp(maxSteps:=9^7) (disch:=try exact dI) only[push_cast,seval]
       exact⟨m+1,aN (by simp(maxSteps:=9^7) (disch:=try exact dI) only[ho4,push_cast,seval]),by omega,by omega⟩
     ·rw[gQ hy2] at b1
      rw[show f8 ⟨pv,ps,pe,pw,pr⟩ sv=false from kN hy2,VE] at b2
      simp(maxSteps:=9^7) (disch:=try exact dI) only[hx,TS,push_cast,seval]
      refine ab.pure hc1 rfl ?_
      simp(maxSteps:=9^7) (disch:=try exact dI) only[push_cast,seval]
      refine ab.lentK b1 [0,1] rfl qsZ qsZ ?_
      simp(maxSteps:=9^7) (disch:=try exact dI) only[push_cast,seval]
      refine ab.lentK b2 [0,8] rfl qsZ qsZ ?_
      simp(maxSteps:=9^7) (disch:=try exact dI) only[push_cast,seval]
      exact⟨m+1,aN (by simp(maxSteps:=9^7) (disch:=try exact dI) only[ho4,push_cast,seval]),by omega,by omega⟩
    ·have hltI:¬ (m:Int)<cl.length:=by omega
     have hle:cl.take m=cl:=Ux (by omega)
     simp(maxSteps:=9^7) (disch:=try exact dI) only[hle,push_cast,seval]
     exact aI [] qsZ
   ·have ea:(!decide (g=[])&&!lh)=!lh:=by rw[decide_eq_false hg];rfl
    rw[ea] at a3
    simp(maxSteps:=9^7) (disch:=try exact dI) only[hg,push_cast,seval]
    refine ab.lentK a3 [0,10] rfl (by simp(maxSteps:=9^7) (disch:=try exact dI) only[hg,push_cast,seval]) qsZ ?_
    simp(maxSteps:=9^7) (disch:=try exact dI) only[push_cast,seval]
    refine aw ([]) (fun m:Nat=>[(65,.pv (.int .i64 (m:Int)))]) (fun m=>[(0,.cells 85 true [.pv (.str rn),.pv (.list (pl.map (PV.int .i64))),.olist 1 4 ((o2++aJ F (cl.take m)).map Prb.pv)])]) (fun m=>m<=cl.length) (fun m=>cl.length - m) (0) ?_;intro e0 σ0 n0 h0;simp(maxSteps:=9^7) (disch:=try exact dI) only[push_cast,seval] at h0;obtain⟨rfl,rfl,rfl⟩:=h0;refine⟨?_,?_,?_⟩
    ·simp(maxSteps:=9^7) (disch:=try exact dI) only[bv,UU,push_cast,seval]
    ·omega
    intro m hm
    by_cases hlt2:m<cl.length
    ·have hltI:(m:Int)<cl.length:=by omega
     obtain⟨x,hx⟩:∃ x,cl[m]? = some x:=⟨_,Uq hlt2⟩
     have hsn:o2++aJ F (cl.take (m+1))=(o2++aJ F (cl.take m))++F x m:=by rw[bc F hx,UB]
     have hcm:=hcl m
     generalize ho4:o2++aJ F (cl.take (m+1))=o4 at *
     generalize o2++aJ F (cl.take m)=o3 at *
     obtain⟨sv,mp⟩:=x
     have hFx:F (.mk sv mp) m=aL rn pl (!ci ⟨pv,ps,pe,pw,pr⟩ sv) 3 sv++aL rn pl (decide ((13:Int)=10)&&decide (m+1<cl.length)&&f8 ⟨pv,ps,pe,pw,pr⟩ sv) 12 sv:=by rw[<- hF];rfl
     rw[hFx,<- UB] at hsn
     have b1:=bp rn pl o3 (!ci ⟨pv,ps,pe,pw,pr⟩ sv) 3 sv hp (by omega)
     have hl3:=aD hcm (am rn pl (!ci ⟨pv,ps,pe,pw,pr⟩ sv) 3 sv)
     generalize o3++aL rn pl (!ci ⟨pv,ps,pe,pw,pr⟩ sv) 3 sv=o5 at *
     have b2:=bp rn pl o5 (decide ((13:Int)=10)&&decide (m+1<cl.length)&&f8 ⟨pv,ps,pe,pw,pr⟩ sv) 12 sv hp (by omega)
     rw[<- hsn] at b2
     simp only[fD] at b1 b2
     rcases hsv sv with ⟨j,y,hy,hy2,hc1⟩ | ⟨hy2,hc1⟩
     ·rw[gP hy2] at b1
      obtain⟨y1,y2,y3,u⟩:=y
      rw[show f8 ⟨pv,ps,pe,pw,pr⟩ sv=!u from kM hy2] at b2
      by_cases hk10:(13:Int)=10
      ·exact absurd hk10 (by decide)
      ·rw[show (decide ((13:Int)=10)&&decide (m+1<cl.length)&&!u)=false by rw[decide_eq_false hk10];simp] at b2
       simp(maxSteps:=9^7) (disch:=try exact dI) only[hx,TS,push_cast,seval]
       refine ab.pure hc1 rfl ?_
       simp(maxSteps:=9^7) (disch:=try exact dI) only[push_cast,seval]
       refine ab.lentK b1 [0,1] rfl qsZ qsZ ?_
       simp(maxSteps:=9^7) (disch:=try exact dI) only[hy,Uf,hk10,push_cast,seval]
       refine ab.lentK b2 [0,8] rfl qsZ qsZ ?_
       simp(maxSteps:=9^7) (disch:=try exact dI) only[push_cast,seval]
       exact⟨m+1,aN (by simp(maxSteps:=9^7) (disch:=try exact dI) only[ho4,push_cast,seval]),by omega,by omega⟩
     ·rw[gQ hy2] at b1
      rw[show f8 ⟨pv,ps,pe,pw,pr⟩ sv=false from kN hy2,VE] at b2
      simp(maxSteps:=9^7) (disch:=try exact dI) only[hx,TS,push_cast,seval]
      refine ab.pure hc1 rfl ?_
      simp(maxSteps:=9^7) (disch:=try exact dI) only[push_cast,seval]
      refine ab.lentK b1 [0,1] rfl qsZ qsZ ?_
      simp(maxSteps:=9^7) (disch:=try exact dI) only[push_cast,seval]
      refine ab.lentK b2 [0,8] rfl qsZ qsZ ?_
      simp(maxSteps:=9^7) (disch:=try exact dI) only[push_cast,seval]
      exact⟨m+1,aN (by simp(maxSteps:=9^7) (disch:=try exact dI) only[ho4,push_cast,seval]),by omega,by omega⟩
    ·have hltI:¬ (m:Int)<cl.length:=by omega
     have hle:cl.take m=cl:=Ux (by omega)
     simp(maxSteps:=9^7) (disch:=try exact dI) only[hle,push_cast,seval]
     exact aI [] qsZ
 ·rw[toO,if_neg hk,UU] at ho1
  subst ho1
  simp(maxSteps:=9^7) (disch:=try exact dI) only[Q89,T4,Ud,hk,push_cast,seval]
  refine ab.pure hlt rfl ?_
  by_cases hg:g=[]
  ·have ea:(!decide (g=[])&&!lh)=false:=by rw[hg];rfl
   rw[ea] at a3
   simp(maxSteps:=9^7) (disch:=try exact dI) only[hg,push_cast,seval]
   rw[hg] at a3
   refine ab.lentK a3 [0,1] rfl qsZ qsZ ?_
   simp(maxSteps:=9^7) (disch:=try exact dI) only[push_cast,seval]
   refine aw ([]) (fun m:Nat=>[(65,.pv (.int .i64 (m:Int)))]) (fun m=>[(0,.cells 85 true [.pv (.str rn),.pv (.list (pl.map (PV.int .i64))),.olist 1 4 ((o2++aJ F (cl.take m)).map Prb.pv)])]) (fun m=>m<=cl.length) (fun m=>cl.length - m) (0) ?_;intro e0 σ0 n0 h0;simp(maxSteps:=9^7) (disch:=try exact dI) only[push_cast,seval] at h0;obtain⟨rfl,rfl,rfl⟩:=h0;refine⟨?_,?_,?_⟩
   ·simp(maxSteps:=9^7) (disch:=try exact dI) only[bv,UU,push_cast,seval]
   ·omega
   intro m hm
   by_cases hlt2:m<cl.length
   ·have hltI:(m:Int)<cl.length:=by omega
    obtain⟨x,hx⟩:∃ x,cl[m]? = some x:=⟨_,Uq hlt2⟩
    have hsn:o2++aJ F (cl.take (m+1))=(o2++aJ F (cl.take m))++F x m:=by rw[bc F hx,UB]
    have hcm:=hcl m
    generalize ho4:o2++aJ F (cl.take (m+1))=o4 at *
    generalize o2++aJ F (cl.take m)=o3 at *
    obtain⟨sv,mp⟩:=x
    have hFx:F (.mk sv mp) m=aL rn pl (!ci ⟨pv,ps,pe,pw,pr⟩ sv) 3 sv++aL rn pl (decide (k=10)&&decide (m+1<cl.length)&&f8 ⟨pv,ps,pe,pw,pr⟩ sv) 12 sv:=by rw[<- hF];rfl
    rw[hFx,<- UB] at hsn
    have b1:=bp rn pl o3 (!ci ⟨pv,ps,pe,pw,pr⟩ sv) 3 sv hp (by omega)
    have hl3:=aD hcm (am rn pl (!ci ⟨pv,ps,pe,pw,pr⟩ sv) 3 sv)
    generalize o3++aL rn pl (!ci ⟨pv,ps,pe,pw,pr⟩ sv) 3 sv=o5 at *
    have b2:=bp rn pl o5 (decide (k=10)&&decide (m+1<cl.length)&&f8 ⟨pv,ps,pe,pw,pr⟩ sv) 12 sv hp (by omega)
    rw[<- hsn] at b2
    simp only[fD] at b1 b2
    rcases hsv sv with ⟨j,y,hy,hy2,hc1⟩ | ⟨hy2,hc1⟩
    ·rw[gP hy2] at b1
     obtain⟨y1,y2,y3,u⟩:=y
     rw[show f8 ⟨pv,ps,pe,pw,pr⟩ sv=!u from kM hy2] at b2
     by_cases hk10:k=10
     ·by_cases hm1:(m:Int)<(cl.length:Int) - 1
      ·rw[show (decide (k=10)&&decide (m+1<cl.length)&&!u)=!u by rw[decide_eq_true hk10,decide_eq_true (show m+1<cl.length by omega)];simp] at b2
       simp(maxSteps:=9^7) (disch:=try exact dI) only[hx,TS,push_cast,seval]
       refine ab.pure hc1 rfl ?_
       simp(maxSteps:=9^7) (disch:=try exact dI) only[push_cast,seval]
       refine ab.lentK b1 [0,1] rfl qsZ qsZ ?_
       simp(maxSteps:=9^7) (disch:=try exact dI) only[hy,Uf,hk10,push_cast,seval]
       refine ab.lentK b2 [0,8] rfl qsZ qsZ ?_
       simp(maxSteps:=9^7) (disch:=try exact dI) only[push_cast,seval]
       exact⟨m+1,aN (by simp(maxSteps:=9^7) (disch:=try exact dI) only[ho4,push_cast,seval]),by omega,by omega⟩
      ·rw[show (decide (k=10)&&decide (m+1<cl.length)&&!u)=false by rw[decide_eq_false (show ¬ m+1<cl.length by omega)];simp] at b2
       simp(maxSteps:=9^7) (disch:=try exact dI) only[hx,TS,push_cast,seval]
       refine ab.pure hc1 rfl ?_
       simp(maxSteps:=9^7) (disch:=try exact dI) only[push_cast,seval]
       refine ab.lentK b1 [0,1] rfl qsZ qsZ ?_
       simp(maxSteps:=9^7) (disch:=try exact dI) only[hy,Uf,hk10,push_cast,seval]
       refine ab.lentK b2 [0,8] rfl qsZ qsZ ?_
       simp(maxSteps:=9^7) (disch:=try exact dI) only[push_cast,seval]
       exact⟨m+1,aN (by simp(maxSteps:=9^7) (disch:=try exact dI) only[ho4,push_cast,seval]),by omega,by omega⟩
     ·rw[show (decide (k=10)&&decide (m+1<cl.length)&&!u)=false by rw[decide_eq_false hk10];simp] at b2
      simp(maxSteps:=9^7) (disch:=try exact dI) only[hx,TS,push_cast,seval]
      refine ab.pure hc1 rfl ?_
      simp(maxSteps:=9^7) (disch:=try exact dI) only[push_cast,seval]
      refine ab.lentK b1 [0,1] rfl qsZ qsZ ?_
      simp(maxSteps:=9^7) (disch:=try exact dI) only[hy,Uf,hk10,push_cast,seval]
      refine ab.lentK b2 [0,8] rfl qsZ qsZ ?_
      simp(maxSteps:=9^7) (disch:=try exact dI) only[push_cast,seval]
      exact⟨m+1,aN (by simp(maxSteps:=9^7) (disch:=try exact dI) only[ho4,push_cast,seval]),by omega,by omega⟩
    ·rw[gQ hy2] at b1
     rw[show f8 ⟨pv,ps,pe,pw,pr⟩ sv=false from kN hy2,VE] at b2
     simp(maxSteps:=9^7) (disch:=try exact dI) only[hx,TS,push_cast,seval]
     refine ab.pure hc1 rfl ?_
     simp(maxSteps:=9^7) (disch:=try exact dI) only[push_cast,seval]
     refine ab.lentK b1 [0,1] rfl qsZ qsZ ?_
     simp(maxSteps:=9^7) (disch:=try exact dI) only[push_cast,seval]
     refine ab.lentK b2 [0,8] rfl qsZ qsZ ?_
     simp(maxSteps:=9^7) (disch:=try exact dI) only[push_cast,seval]
     exact⟨m+1,aN (by simp(maxSteps:=9^7) (disch:=try exact dI) only[ho4,push_cast,seval]),by omega,by omega⟩
   ·have hltI:¬ (m:Int)<cl.length:=by omega
    have hle:cl.take m=cl:=Ux (by omega)
    simp(maxSteps:=9^7) (disch:=try exact dI) only[hle,push_cast,seval]
    exact aI [] qsZ
  ·have ea:(!decide (g=[])&&!lh)=!lh:=by rw[decide_eq_false hg];rfl
   rw[ea] at a3
   simp(maxSteps:=9^7) (disch:=try exact dI) only[hg,push_cast,seval]
   refine ab.lentK a3 [0,1] rfl (by simp(maxSteps:=9^7) (disch:=try exact dI) only[hg,push_cast,seval]) qsZ ?_
   simp(maxSteps:=9^7) (disch:=try exact dI) only[push_cast,seval]
   refine aw ([]) (fun m:Nat=>[(65,.pv (.int .i64 (m:Int)))]) (fun m=>[(0,.cells 85 true [.pv (.str rn),.pv (.list (pl.map (PV.int .i64))),.olist 1 4 ((o2++aJ F (cl.take m)).map Prb.pv)])]) (fun m=>m<=cl.length) (fun m=>cl.length - m) (0) ?_;intro e0 σ0 n0 h0;simp(maxSteps:=9^7) (disch:=try exact dI) only[push_cast,seval] at h0;obtain⟨rfl,rfl,rfl⟩:=h0;refine⟨?_,?_,?_⟩
   ·simp(maxSteps:=9^7) (disch:=try exact dI) only[bv,UU,push_cast,seval]
   ·omega
   intro m hm
   by_cases hlt2:m<cl.length
   ·have hltI:(m:Int)<cl.length:=by omega
    obtain⟨x,hx⟩:∃ x,cl[m]? = some x:=⟨_,Uq hlt2⟩
    have hsn:o2++aJ F (cl.take (m+1))=(o2++aJ F (cl.take m))++F x m:=by rw[bc F hx,UB]
    have hcm:=hcl m
    generalize ho4:o2++aJ F (cl.take (m+1))=o4 at *
    generalize o2++aJ F (cl.take m)=o3 at *
    obtain⟨sv,mp⟩:=x
    have hFx:F (.mk sv mp) m=aL rn pl (!ci ⟨pv,ps,pe,pw,pr⟩ sv) 3 sv++aL rn pl (decide (k=10)&&decide (m+1<cl.length)&&f8 ⟨pv,ps,pe,pw,pr⟩ sv) 12 sv:=by rw[<- hF];rfl
    rw[hFx,<- UB] at hsn
    have b1:=bp rn pl o3 (!ci ⟨pv,ps,pe,pw,pr⟩ sv) 3 sv hp (by omega)
    have hl3:=aD hcm (am rn pl (!ci ⟨pv,ps,pe,pw,pr⟩ sv) 3 sv)
    generalize o3++aL rn pl (!ci ⟨pv,ps,pe,pw,pr⟩ sv) 3 sv=o5 at *
    have b2:=bp rn pl o5 (decide (k=10)&&decide (m+1<cl.length)&&f8 ⟨pv,ps,pe,pw,pr⟩ sv) 12 sv hp (by omega)
    rw[<- hsn] at b2
    simp only[fD] at b1 b2
    rcases hsv sv with ⟨j,y,hy,hy2,hc1⟩ | ⟨hy2,hc1⟩
    ·rw[gP hy2] at b1
     obtain⟨y1,y2,y3,u⟩:=y
     rw[show f8 ⟨pv,ps,pe,pw,pr⟩ sv=!u from kM hy2] at b2
     by_cases hk10:k=10
     ·by_cases hm1:(m:Int)<(cl.length:Int) - 1
      ·rw[show (decide (k=10)&&decide (m+1<cl.length)&&!u)=!u by rw[decide_eq_true hk10,decide_eq_true (show m+1<cl.length by omega)];simp] at b2
       simp(maxSteps:=9^7) (disch:=try exact dI) only[hx,TS,push_cast,seval]
       refine ab.pure hc1 rfl ?_
       simp(maxSteps:=9^7) (disch:=try exact dI) only[push_cast,seval]
       refine ab.lentK b1 [0,1] rfl qsZ qsZ ?_
       simp(maxSteps:=9^7) (disch:=try exact dI) only[hy,Uf,hk10,push_cast,seval]
       refine ab.lentK b2 [0,8] rfl qsZ qsZ ?_
       simp(maxSteps:=9^7) (disch:=try exact dI) only[push_cast,seval]
       exact⟨m+1,aN (by simp(maxSteps:=9^7) (disch:=try exact dI) only[ho4,push_cast,seval]),by omega,by omega⟩
      ·rw[show (decide (k=10)&&decide (m+1<cl.length)&&!u)=false by rw[decide_eq_false (show ¬ m+1<cl.length by omega)];simp] at b2
       simp(maxSteps:=9^7) (disch:=try exact dI) only[hx,TS,push_cast,seval]
       refine ab.pure hc1 rfl ?_
       simp(maxSteps:=9^7) (disch:=try exact dI) only[push_cast,seval]
       refine ab.lentK b1 [0,1] rfl qsZ qsZ ?_
       simp(maxSteps:=9^7) (disch:=try exact dI) only[hy,Uf,hk10,push_cast,seval]
       refine ab.lentK b2 [0,8] rfl qsZ qsZ ?_
       simp(maxSteps:=9^7) (disch:=try exact dI) only[push_cast,seval]
       exact⟨m+1,aN (by simp(maxSteps:=9^7) (disch:=try exact dI) only[ho4,push_cast,seval]),by omega,by omega⟩
     ·rw[show (decide (k=10)&&decide (m+1<cl.length)&&!u)=false by rw[decide_eq_false hk10];simp] at b2
      simp(maxSteps:=9^7) (disch:=try exact dI) only[hx,TS,push_cast,seval]
      refine ab.pure hc1 rfl ?_
      simp(maxSteps:=9^7) (disch:=try exact dI) only[push_cast,seval]
      refine ab.lentK b1 [0,1] rfl qsZ qsZ ?_
      simp(maxSteps:=9^7) (disch:=try exact dI) only[hy,Uf,hk10,push_cast,seval]
      refine ab.lentK b2 [0,8] rfl qsZ qsZ ?_
      simp(maxSteps:=9^7) (disch:=try exact dI) only[push_cast,seval]
      exact⟨m+1,aN (by simp(maxSteps:=9^7) (disch:=try exact dI) only[ho4,push_cast,seval]),by omega,by omega⟩
    ·rw[gQ hy2] at b1
     rw[show f8 ⟨pv,ps,pe,pw,pr⟩ sv=false from kN hy2,VE] at b2
     simp(maxSteps:=9^7) (disch:=try exact dI) only[hx,TS,push_cast,seval]
     refine ab.pure hc1 rfl ?_
     simp(maxSteps:=9^7) (disch:=try exact dI) only[push_cast,seval]
     refine ab.lentK b1 [0,1] rfl qsZ qsZ ?_
     simp(maxSteps:=9^7) (disch:=try exact dI) only[push_cast,seval]
     refine ab.lentK b2 [0,8] rfl qsZ qsZ ?_
     simp(maxSteps:=9^7) (disch:=try exact dI) only[push_cast,seval]
     exact⟨m+1,aN (by simp(maxSteps:=9^7) (disch:=try exact dI) only[ho4,push_cast,seval]),by omega,by omega⟩
   ·have hltI:¬ (m:Int)<cl.length:=by omega
    have hle:cl.take m=cl:=Ux (by omega)
    simp(maxSteps:=9^7) (disch:=try exact dI) only[hle,push_cast,seval]
    exact aI [] qsZ
