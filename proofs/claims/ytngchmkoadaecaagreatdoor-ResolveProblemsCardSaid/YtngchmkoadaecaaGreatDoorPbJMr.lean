/- A part. -/
import Derived.Test.YtngchmkoadaecaaGreatDoorPbJNd
set_option linter.unusedVariables false
set_option linter.unusedSimpArgs false
set_option maxHeartbeats 16000000
set_option maxRecDepth 100000
open List renaming mem_of_getElem?->WV,getElem?_eq_some_iff->WU,mem_append->Xx,length_append->W0,append_assoc->W7,append_nil->Xc,getElem?_eq_getElem->WT,take_of_length_le->WY
namespace Go.Proofs.YtngchmkoadaecaaGreatDoor
open Go Go.Ab
theorem lJ (route:Int):∀ (n:Nat) (p:List Int) (l:List Stp) (w:Wkd),Bnd n l->okL l->F4 n l->(∀ x∈p,I64 x)->w∈aL route n p l ->
  w.route=route/\w.step.ok/\w.step.calls.length<=18/\(∃ (q:List Int) (z:Nat),w.place=q++[(z:Int)])/\∀ x∈w.place,I64 x
 | 0,p,l,w,_,_,_,_,h=>by simp[aL] at h
 | n+1,p,l,w,hB,hl,hC,hI,h=>by
   rw[aL] at h
   obtain⟨i,s,hs,hw⟩:=cj h
   have hsm:=WV hs
   obtain⟨hB1,hB2⟩:=hB
   have hi:i<l.length:=(WU.1 hs).1
   have hpi:∀ x∈p++[(i:Int)],I64 x:=by
    intro x hx
    rcases Xx.1 hx with hx | hx
    ·exact hI x hx
    ·rw[List.mem_singleton] at hx;subst hx;unfold I64;omega
   rcases List.mem_cons.1 hw with rfl | hw
   ·exact⟨rfl,hl.2 s hsm,(hC s hsm).1,⟨p,i,rfl⟩,hpi⟩
   ·obtain⟨j,b,hb,hw⟩:=cj hw
    have hbm:=WV hb
    obtain⟨hb4,hbB⟩:=hB2 s hsm
    have hj:j<s.branches.length:=(WU.1 hb).1
    refine lJ route n _ _ w (hbB b hbm) ?_ ((hC s hsm).2 b hbm) ?_ hw
    ·have hso:=hl.2 s hsm
     obtain⟨a,k,c,d,e,f,g,h,i',cl,m⟩:=s
     rw[WE] at hso
     have hbo:=hso.2.2.2.2.2.2.2.2.2.2.2.2.2.2 b hbm
     obtain⟨w',l'⟩:=b
     rw[Wg] at hbo
     exact⟨hbo.2.2.1,hbo.2.2.2⟩
    ·intro x hx
     rcases Xx.1 hx with hx | hx
     ·exact hpi x hx
     ·rw[List.mem_singleton] at hx;subst hx;unfold I64;omega
theorem NQ (isN:List UInt8->Bool)(p:Prg)(route:Int)(rn:List UInt8)(N:NS)(ws:List Wkd)(m:Nat):(mO isN p route rn N [] (ws.take m)).1.length<=(mO isN p route rn N [] ws).1.length:=by
 have h:=pf isN p route rn (ws.take m) (ws.drop m) N []
 rw[List.take_append_drop] at h
 rw[h,W0];omega
theorem p7 (rn:List UInt8){ws:List Wkd}{k:Nat}{y:Wkd}(pl:List Int)(h:ws[k]? = some y):ed rn (ws.take (k+1)) pl=ed rn (ws.take k) pl++aG rn pl (decide (y.place=PG pl)&&de y.step) 7 []:=by
 rw[aE h,jD];simp[ed]
theorem p6 (rn:List UInt8)(ws:List Wkd)(pl:List Int){k m:Nat}(h:k<=m):(ed rn (ws.take k) pl).length<=(ed rn (ws.take m) pl).length:=by
 have e:ws.take m=ws.take k++(ws.take m).drop k:=by
  conv=>lhs;rw[<- List.take_append_drop k (ws.take m)]
  rw[List.take_take,Nat.min_eq_left h]
 rw[e,jD,W0];omega
theorem pA:∀ l:List Int,cw (l.map (PV.int .i64))=(l.map (PV.int .i64)).map .pv
 | []=>rfl
 | x::r=>by
   have:=pA r
   simp only[cw,List.map_cons,List.flatMap_cons,List.map_append] at this ⊢
   rw[this];rfl
def R37:ACode:=(.seq (.draw Lf je jc [2,3,8,9,15,16,17,18]) (.seq (.ops jd [2,3,8,9,15,16,17,18,23]) (.block 6 (.loop [2,3,8,9,15,16,17,18,23] er))))
def R33:ACode:=(.seq (.seq (.ops qD [2,3,8,9,15,16,17,18,205]) (.cond (.t 205) (.seq (.ops vH [2,3,8,9,15,16,17,18,21,22]) (.seq (.ops vG [2,3,8,9,15,16,17,18,21,22]) (.ops vF [2,3,8,9,15,16,17,18]))) .skip)) R37)
def R31:ACode:=(.seq (.seq (.ops mF [2,3,8,9,15,16,17,18,199]) (.cond (.t 199) (.seq (.ops FC [2,3,8,9,15,16]) (.exit 3)) .skip)) R33)
def R22:ACode:=(.seq (.draw Lg vM vC [2,3,8,9,15,16,17,18]) (.seq (.ops vL [2,3,8,9,15,16,17,18]) (.seq (.ops vK [2,3,8,9,15,16,17,18,19]) (.seq (.ops vJ [2,3,8,9,15,16,17,18,19])
 (.seq (.seq (.ops vI [2,3,8,9,15,16,17,18,19,20]) (.block 4 (.loop [2,3,8,9,15,16,17,18,19,20] jf))) R31)))))
theorem ia:FI=(.seq (.seq (.ops mG [2,3,8,9,15,16,115]) (.cond (.t 115) .skip (.exit 2))) (.seq (.block 3 (.seq (.draw Li vO vE [2,3,8,9,15,16,17,18]) (.seq (.draw Lh vN vD [2,3,8,9,15,16,17,18]) R22))) (.ops gh [2,3,8,9,15,16]))):=rfl
abbrev uQ (pp:PV)(ws:List Wkd)(m:Nat):List (Nat×AV):=[(2,.mp 0),(3,.pv pp),(8,.ptr 1 0),(9,.clo 93 [] [.ptr 1 0,.ptr 2 0]),(15,.pv (.list (ws.map Wkd.pv))),(16,.pv (.int .i64 (m:Int)))]
abbrev tU (N:NS)(out:List Prb)(a b:List UInt8)(c:List PV):List (Nat×Blk):=[(0,.mp (mpS N)),(1,.cells 32 true [.olist 3 4 (out.map Prb.pv)]),(2,.cells 64 true [.pv (.str a),.pv (.str b),.pv (.list c)]),(3,.tok 82 4)]
abbrev qI (pp:PV)(ws:List Wkd)(m:Nat)(pl:List Int)(k:Nat):List (Nat×AV):=[(2,.mp 0),(3,.pv pp),(8,.ptr 1 0),(9,.clo 93 [] [.ptr 1 0,.ptr 2 0]),(15,.pv (.list (ws.map Wkd.pv))),(16,.pv (.int .i64 (m:Int))),(17,.ptr 3 0),(18,.pv (.list (pl.map (PV.int .i64)))),(23,.pv (.int .i64 (k:Int)))]
abbrev qH (N:NS)(out:List Prb)(a b:List UInt8)(c:List PV)(s:Stp):List (Nat×Blk):=[(0,.mp (mpS N)),(1,.cells 32 true [.olist 4 4 (out.map Prb.pv)]),(2,.cells 64 true [.pv (.str a),.pv (.str b),.pv (.list c)]),(3,rj s),(4,.tok 82 4)]
abbrev OA (pp:PV)(ws:List Wkd)(m:Nat)(pl:List Int)(n:Nat):List (Nat×AV):=[(2,.mp 0),(3,.pv pp),(8,.ptr 1 0),(9,.clo 93 [] [.ptr 1 0,.ptr 2 0]),(15,.pv (.list (ws.map Wkd.pv))),(16,.pv (.int .i64 (m:Int))),(17,.ptr 3 0),(18,.pv (.list (pl.map (PV.int .i64)))),(19,.row 4 1 0 n),(20,.pv (.int .i64 (m:Int))),(176,.pv (.bool false))]
abbrev LM (N:NS)(out:List Prb)(a b:List UInt8)(c:List PV)(s:Stp)(bf:List Int):List (Nat×Blk):=[(0,.mp (mpS N)),(1,.cells 32 true [.olist 5 4 (out.map Prb.pv)]),(2,.cells 64 true [.pv (.str a),.pv (.str b),.pv (.list c)]),(3,rj s),(4,.cells 3 false ((bf.map (PV.int .i64)).map .pv)),(5,.tok 82 4)]
abbrev KM (Q:AExit->St->Prop):AExit->St->Prop:=fG 3 (Kf (vc Tryz.prog aC 1 (.ops gh [2,3,8,9,15,16]) Q) Q)
theorem dt (Q:AExit->St->Prop)(p:Prg)(hok:p.ok)(ws:List Wkd)(m:Nat)(pl:List Int)(k:Nat)(N:NS)(out:List Prb)(rnm rsrc:List UInt8)(rst:List PV)(ho:out.length<=10000000000)
  (nm:List UInt8) (kd c d e:Int) (f g:List UInt8) (h:List Exp) (i:List Rul) (cl:List Cal) (w:List Bra) (sv:List UInt8) (mp:List Rul) (hx:cl[k]? = some (.mk sv mp)) (hlt:k<cl.length) (hcl:cl.length<=18)
  (hQ:∀ s,Hd [] 1 [2,3,8,9,15,16,17,18,23] s ⟨qI (.eptr [p.pv] 0 0) ws m pl (k+1),qH N (out++zY p rnm pl kd cl.length (.mk sv mp) k) rnm rsrc rst (.mk nm kd c d e f g h i cl w),5⟩->Q .norm s) :
  vc Tryz.prog aC 1 er Q ⟨qI (.eptr [p.pv] 0 0) ws m pl k,qH N out rnm rsrc rst (.mk nm kd c d e f g h i cl w),5⟩:=by
 have hltI:(k:Int)<cl.length:=by omega
 have hsv:=Kr p sv hok
 have b1:=fV rnm rsrc rst pl out (!bW p sv) 3 sv (by omega)
 have hb2:=fV rnm rsrc rst pl (out++aG rnm pl (!bW p sv) 3 sv) (decide (kd=10)&&decide (k+1<cl.length)&&fY p sv) 12 sv (by have:=am rnm pl (!bW p sv) 3 sv;rw[W0];omega)
 rw[W7] at hb2
 have hcal:aG rnm pl (!bW p sv) 3 sv++aG rnm pl (decide (kd=10)&&decide (k+1<cl.length)&&fY p sv) 12 sv=zY p rnm pl kd cl.length (.mk sv mp) k:=rfl
 rw[hcal] at hb2
 clear hcal
 generalize out++zY p rnm pl kd cl.length (.mk sv mp) k=o2 at *
 generalize out++aG rnm pl (!bW p sv) 3 sv=o1 at *
 generalize hsh:bW p sv=sh at *
 generalize hsn:fY p sv=sn at *
 generalize hso:svO p sv=so at *
 have h1:so=none->sh=false/\sn=false:=fun h=>by subst h;exact⟨by rw[<- hsh,gm hso],by rw[<- hsn,jM hso]⟩
 have h2:∀ y,so=some y->sh=true/\sn=!y.undo:=fun y h=>by subst h;exact⟨by rw[<- hsh,gl hso],by rw[<- hsn,jL hso]⟩
 obtain⟨pv,ps,pe,pw,pr⟩:=p
 clear hsh hsn hso
 rw[Wv] at hsv
 cases so with
 | none=>
   obtain⟨rfl,rfl⟩:=h1 rfl
   rw[svR] at hsv
   rw[Bool.and_false] at hb2
   simp(maxSteps:=9^7) (disch:=try exact dI) only[er,fE,qC,qy,qI,qH,aY,hx,Wj,Wv,push_cast,seval]
   refine ag hsv rfl ?_
   simp(maxSteps:=9^7) (disch:=try exact dI) only[hx,Wj,qB,push_cast,seval]
   refine ab.lentK b1 [1,2,4] rfl qsZ qsZ ?_
   simp(maxSteps:=9^7) (disch:=try exact dI) only[qA,qu,qz,hx,Wj,push_cast,seval]
   refine ab.lentK hb2 [1,2,13] rfl qsZ qsZ ?_
   simp(maxSteps:=9^7) (disch:=try exact dI) only[push_cast,seval]
   exact hQ _ (aJ (by simp(maxSteps:=9^7) (disch:=try exact dI) only[qI,qH,aY,Wv,push_cast,seval]))
 | some y=>
   obtain⟨e1,e2⟩:=h2 y rfl
   subst e1 e2
   obtain⟨y1,y2,y3,u⟩:=y
   rw[svR,WH] at hsv
   simp only[Svc.undo] at hb2
   by_cases hk10:kd=10
   ·subst hk10
    by_cases hm1:(k:Int)+1<(cl.length:Int)
    ·rw[show (decide ((10:Int)=10)&&decide (k+1<cl.length)&&!u)=!u by rw[decide_eq_true (show (10:Int)=10 by rfl),decide_eq_true (show k+1<cl.length by omega)];simp] at hb2
     simp(maxSteps:=9^7) (disch:=try exact dI) only[er,fE,qC,qy,qI,qH,aY,hx,Wj,Wv,push_cast,seval]
     refine ag hsv rfl ?_
     simp(maxSteps:=9^7) (disch:=try exact dI) only[hx,Wj,qB,push_cast,seval]
     refine ab.lentK b1 [1,2,4] rfl qsZ qsZ ?_
     simp(maxSteps:=9^7) (disch:=try exact dI) only[qA,qu,qz,hx,Wj,hm1,push_cast,seval]
     refine ab.lentK hb2 [1,2,13] rfl qsZ qsZ ?_
     simp(maxSteps:=9^7) (disch:=try exact dI) only[push_cast,seval]
     exact hQ _ (aJ (by simp(maxSteps:=9^7) (disch:=try exact dI) only[qI,qH,aY,Wv,push_cast,seval]))
    ·rw[show (decide ((10:Int)=10)&&decide (k+1<cl.length)&&!u)=false by rw[decide_eq_false (show ¬ k+1<cl.length by omega)];simp] at hb2
     simp(maxSteps:=9^7) (disch:=try exact dI) only[er,fE,qC,qy,qI,qH,aY,hx,Wj,Wv,push_cast,seval]
     refine ag hsv rfl ?_
     simp(maxSteps:=9^7) (disch:=try exact dI) only[hx,Wj,qB,push_cast,seval]
     refine ab.lentK b1 [1,2,4] rfl qsZ qsZ ?_
     simp(maxSteps:=9^7) (disch:=try exact dI) only[qA,qu,qz,hx,Wj,hm1,push_cast,seval]
     refine ab.lentK hb2 [1,2,13] rfl qsZ qsZ ?_
     simp(maxSteps:=9^7) (disch:=try exact dI) only[push_cast,seval]
     exact hQ _ (aJ (by simp(maxSteps:=9^7) (disch:=try exact dI) only[qI,qH,aY,Wv,push_cast,seval]))
   ·rw[show (decide (kd=10)&&decide (k+1<cl.length)&&!u)=false by rw[decide_eq_false hk10];simp] at hb2
    simp(maxSteps:=9^7) (disch:=try exact dI) only[er,fE,qC,qy,qI,qH,aY,hx,Wj,Wv,hk10,push_cast,seval]
    refine ag hsv rfl ?_
    simp(maxSteps:=9^7) (disch:=try exact dI) only[hx,Wj,qB,push_cast,seval]
    refine ab.lentK b1 [1,2,4] rfl qsZ qsZ ?_
    simp(maxSteps:=9^7) (disch:=try exact dI) only[qA,qu,qz,hx,Wj,hk10,push_cast,seval]
    refine ab.lentK hb2 [1,2,13] rfl qsZ qsZ ?_
    simp(maxSteps:=9^7) (disch:=try exact dI) only[push_cast,seval]
    exact hQ _ (aJ (by simp(maxSteps:=9^7) (disch:=try exact dI) only[qI,qH,aY,Wv,push_cast,seval]))
theorem r31 (Q:AExit->St->Prop)(p:Prg)(hok:p.ok)(ws:List Wkd)(m:Nat)(hm:m<ws.length)(hwl:ws.length<=1000000000)(pl bf:List Int)(n:Nat)(N:NS)(out:List Prb)(rnm rsrc:List UInt8)(rst:List PV)(ho:out.length<=5000000000)
  (nm:List UInt8) (kd c d e:Int) (f g:List UInt8) (h:List Exp) (i:List Rul) (cl:List Cal) (w:List Bra) (hs:(Stp.mk nm kd c d e f g h i cl w).ok) (hcl:cl.length<=18)
  (hQ:∀ s,Hd [] 1 [2,3,8,9,15,16] s ⟨uQ (.eptr [p.pv] 0 0) ws (m+1),tU N (out++(if aQ (.mk nm kd c d e f g h i cl w)=true then FW p rnm pl (.mk nm kd c d e f g h i cl w) else aG rnm pl true 5 [])) rnm rsrc rst,4⟩->Q .norm s) :
  vc Tryz.prog aC 1 R31 (KM Q) ⟨OA (.eptr [p.pv] 0 0) ws m pl n,LM N out rnm rsrc rst (.mk nm kd c d e f g h i cl w) bf,6⟩:=by
 have hfo:=Rm (.mk nm kd c d e f g h i cl w) hs
 generalize aQ (.mk nm kd c d e f g h i cl w)=fs at *
 rw[WF] at hfo
 have hlt:=na p g hok
 have hen:=KT p f hok
 have a0:=fV rnm rsrc rst pl out true 5 [] (by omega)
 obtain⟨pv,ps,pe,pw,pr⟩:=p
 simp only[Prg.schemas] at hlt
 simp only[Wv] at hlt hen hQ
 cases fs with
 | false=>
   simp only[Bool.false_eq_true,if_false] at hQ
   generalize out++aG rnm pl true 5 []=o1 at *
   simp(maxSteps:=9^7) (disch:=try exact dI) only[R31,mF,FC,OA,LM,aY,Wv,push_cast,seval]
   refine ab.pure hfo rfl ?_
   simp(maxSteps:=9^7) (disch:=try exact dI) only[push_cast,seval]
   refine ab.lentK a0 [1,2,5] rfl qsZ qsZ ?_
   simp(maxSteps:=9^7) (disch:=try exact dI) only[gh,push_cast,seval]
   exact hQ _ (aJ (by simp(maxSteps:=9^7) (disch:=try exact dI) only[uQ,tU,push_cast,seval]))
 | true=>
   simp only[if_true] at hQ
   obtain⟨o1,ho1⟩:∃ o1,o1=out++toO ⟨pv,ps,pe,pw,pr⟩ rnm pl kd f:=⟨_,rfl⟩
   have hl1:o1.length<=5000000002:=by rw[ho1];exact aA ho (qY _ rnm pl kd f)
   have a3:=fV rnm rsrc rst pl o1 (!decide (g=[])&&!bw ⟨pv,ps,pe,pw,pr⟩ g) 3 g (by omega)
   have hl2:=aA hl1 (am rnm pl (!decide (g=[])&&!bw ⟨pv,ps,pe,pw,pr⟩ g) 3 g)
   have hfin:out++FW ⟨pv,ps,pe,pw,pr⟩ rnm pl (.mk nm kd c d e f g h i cl w)=(o1++aG rnm pl (!decide (g=[])&&!bw ⟨pv,ps,pe,pw,pr⟩ g) 3 g)++aF (zY ⟨pv,ps,pe,pw,pr⟩ rnm pl kd cl.length) cl:=by rw[ho1];simp only[FW,Pw,Stp.kind,Stp.text,Stp.schema,Stp.calls,W7];try rfl
   generalize ho2:o1++aG rnm pl (!decide (g=[])&&!bw ⟨pv,ps,pe,pw,pr⟩ g) 3 g=o2 at *
   clear ho2
   have hclen:∀ k,(o2++aF (zY ⟨pv,ps,pe,pw,pr⟩ rnm pl kd cl.length) (cl.take k)).length<=5000000100:=fun k=>by
    have:=bh (zY ⟨pv,ps,pe,pw,pr⟩ rnm pl kd cl.length) 2 (cl.take k) fun c _ i=>nE _ _ _ _ _ _ _
    have h2:(cl.take k).length<=18:=by rw[List.length_take];omega
    rw[W0];omega
   generalize hF:zY ⟨pv,ps,pe,pw,pr⟩ rnm pl kd cl.length=F at *
   by_cases hk:kd=13
   ·rw[toO,if_pos hk] at ho1
    have hb1:=fV rnm rsrc rst pl out (!dH ⟨pv,ps,pe,pw,pr⟩ f) 3 f (by omega)
    have hb2:=fV rnm rsrc rst pl (out++aG rnm pl (!dH ⟨pv,ps,pe,pw,pr⟩ f) 3 f) (lx ⟨pv,ps,pe,pw,pr⟩ f 1) 4 f (by have:=am rnm pl (!dH ⟨pv,ps,pe,pw,pr⟩ f) 3 f;rw[W0];omega)
    rw[W7,<- ho1] at hb2
    generalize out++aG rnm pl (!dH ⟨pv,ps,pe,pw,pr⟩ f) 3 f=oa at *
    subst hk
    clear ho1
    generalize hso:epO ⟨pv,ps,pe,pw,pr⟩ f=so at *
    cases so with
    | none=>
      rw[nt hso] at hb1
      rw[uP hso] at hb2
      rw[epR] at hen
      simp(maxSteps:=9^7) (disch:=try exact dI) only[R31,mF,OA,LM,aY,Wv,push_cast,seval]
      refine ab.pure hfo rfl ?_
      simp(maxSteps:=9^7) (disch:=try exact dI) only[R33,qD,vH,vG,vF,Wv,push_cast,seval]
      refine ab.pure hen rfl ?_
      simp(maxSteps:=9^7) (disch:=try exact dI) only[push_cast,seval]
      refine ab.lentK hb1 [1,2,5] rfl qsZ qsZ ?_
      simp(maxSteps:=9^7) (disch:=try exact dI) only[push_cast,seval]
      refine ab.lentK hb2 [1,2,13] rfl qsZ qsZ ?_
      by_cases hg:g=[]
      ·have ea:(!decide (g=[])&&!bw ⟨pv,ps,pe,pw,pr⟩ g)=false:=by rw[hg];rfl
       rw[ea] at a3
       subst hg
       simp(maxSteps:=9^7) (disch:=try exact dI) only[R37,je,jc,jd,Wv,push_cast,seval]
       refine ab.lentK a3 [1,2,15] rfl qsZ qsZ ?_
       simp(maxSteps:=9^7) (disch:=try exact dI) only[push_cast,seval]
       refine au ([]) (fun k:Nat=>[(23,.pv (.int .i64 (k:Int)))]) (fun k=>[(1,.cells 32 true [.olist 4 4 ((o2++aF F (cl.take k)).map Prb.pv)])]) (fun k=>k<=cl.length) (fun k=>cl.length - k) (0) ?_;intro e0 σ0 n0 h0;simp(maxSteps:=9^7) (disch:=try exact dI) only[push_cast,seval] at h0;obtain⟨rfl,rfl,rfl⟩:=h0;refine⟨?_,?_,?_⟩
       ·simp(maxSteps:=9^7) (disch:=try exact dI) only[aU,Xc,push_cast,seval]
       ·omega
       intro k hk
       by_cases hlk:k<cl.length
       ·obtain⟨x,hx⟩:∃ x,cl[k]? = some x:=⟨_,WT hlk⟩
        have hsn:o2++aF F (cl.take (k+1))=(o2++aF F (cl.take k))++F x k:=by rw[aN F hx,W7]
        have hcm:=hclen k
        obtain⟨sv,mp⟩:=x
        have hFx:=congrFun (congrFun hF (.mk sv mp)) k
        have hcr:=fun Q hQ=>dt Q ⟨pv,ps,pe,pw,pr⟩ hok ws m pl k N (o2++aF F (cl.take k)) rnm rsrc rst (by omega) nm 13 c d e f [] h i cl w sv mp hx hlk hcl hQ
        rw[hFx,<- hsn] at hcr
        simp only[qI,qH,aY,Wv] at hcr
        simp(maxSteps:=9^7) (disch:=try exact dI) only[push_cast,seval]
        refine hcr _ fun s hs=>⟨k+1,hs,by show k+1<=cl.length;omega,by show cl.length - (k+1)<cl.length - k;omega⟩
       ·have hltI:¬ (k:Int)<cl.length:=by omega
        have hle:cl.take k=cl:=WY (by omega)
        rw[hle,<- hfin]
        simp(maxSteps:=9^7) (disch:=try exact dI) only[er,fE,push_cast,seval]
        simp(maxSteps:=9^7) (disch:=try exact dI) only[gh,push_cast,seval]
        exact hQ _ (aJ (by simp(maxSteps:=9^7) (disch:=try exact dI) only[uQ,tU,push_cast,seval]))
      ·have ea:(!decide (g=[])&&!bw ⟨pv,ps,pe,pw,pr⟩ g)=!bw ⟨pv,ps,pe,pw,pr⟩ g:=by rw[decide_eq_false hg];rfl
       rw[ea] at a3
       have eb:decide (bL (ec ps g ps.length)<0)=!bw ⟨pv,ps,pe,pw,pr⟩ g:=iF _
       rw[<- eb] at a3
       clear eb
       generalize bL (ec ps g ps.length)=ix at *
       simp(maxSteps:=9^7) (disch:=try exact dI) only[R37,je,jc,jd,Wv,hg,push_cast,seval]
       refine ag hlt rfl ?_
       simp(maxSteps:=9^7) (disch:=try exact dI) only[hg,push_cast,seval]
       refine ab.lentK a3 [1,2,15] rfl qsZ qsZ ?_
       simp(maxSteps:=9^7) (disch:=try exact dI) only[push_cast,seval]
       refine au ([]) (fun k:Nat=>[(23,.pv (.int .i64 (k:Int)))]) (fun k=>[(1,.cells 32 true [.olist 4 4 ((o2++aF F (cl.take k)).map Prb.pv)])]) (fun k=>k<=cl.length) (fun k=>cl.length - k) (0) ?_;intro e0 σ0 n0 h0;simp(maxSteps:=9^7) (disch:=try exact dI) only[push_cast,seval] at h0;obtain⟨rfl,rfl,rfl⟩:=h0;refine⟨?_,?_,?_⟩
       ·simp(maxSteps:=9^7) (disch:=try exact dI) only[aU,Xc,push_cast,seval]
       ·omega
       intro k hk
       by_cases hlk:k<cl.length
       ·obtain⟨x,hx⟩:∃ x,cl[k]? = some x:=⟨_,WT hlk⟩
        have hsn:o2++aF F (cl.take (k+1))=(o2++aF F (cl.take k))++F x k:=by rw[aN F hx,W7]
        have hcm:=hclen k
        obtain⟨sv,mp⟩:=x
        have hFx:=congrFun (congrFun hF (.mk sv mp)) k
        have hcr:=fun Q hQ=>dt Q ⟨pv,ps,pe,pw,pr⟩ hok ws m pl k N (o2++aF F (cl.take k)) rnm rsrc rst (by omega) nm 13 c d e f g h i cl w sv mp hx hlk hcl hQ
        rw[hFx,<- hsn] at hcr
        simp only[qI,qH,aY,Wv] at hcr
        simp(maxSteps:=9^7) (disch:=try exact dI) only[push_cast,seval]
        refine hcr _ fun s hs=>⟨k+1,hs,by show k+1<=cl.length;omega,by show cl.length - (k+1)<cl.length - k;omega⟩
       ·have hltI:¬ (k:Int)<cl.length:=by omega
        have hle:cl.take k=cl:=WY (by omega)
        rw[hle,<- hfin]
        simp(maxSteps:=9^7) (disch:=try exact dI) only[er,fE,push_cast,seval]
        simp(maxSteps:=9^7) (disch:=try exact dI) only[gh,push_cast,seval]
        exact hQ _ (aJ (by simp(maxSteps:=9^7) (disch:=try exact dI) only[uQ,tU,push_cast,seval]))
    | some x=>
      rw[nr hso] at hb1
      obtain⟨x1,x2,x3,x4,⟨y1,y2,y3⟩⟩:=x
      rw[show lx ⟨pv,ps,pe,pw,pr⟩ f 1=decide (x2=1) from (uO hso 1).trans rfl] at hb2
      rw[epR,Wm,Ws] at hen
      simp only[ae,List.cons_append,List.nil_append] at hen
      simp(maxSteps:=9^7) (disch:=try exact dI) only[R31,mF,OA,LM,aY,Wv,push_cast,seval]
      refine ab.pure hfo rfl ?_
      simp(maxSteps:=9^7) (disch:=try exact dI) only[R33,qD,vH,vG,vF,Wv,push_cast,seval]
      refine ab.pure hen rfl ?_
      simp(maxSteps:=9^7) (disch:=try exact dI) only[push_cast,seval]
      refine ab.lentK hb1 [1,2,5] rfl qsZ qsZ ?_
      simp(maxSteps:=9^7) (disch:=try exact dI) only[push_cast,seval]
      refine ab.lentK hb2 [1,2,13] rfl qsZ qsZ ?_
      by_cases hg:g=[]
      ·have ea:(!decide (g=[])&&!bw ⟨pv,ps,pe,pw,pr⟩ g)=false:=by rw[hg];rfl
       rw[ea] at a3
       subst hg
       simp(maxSteps:=9^7) (disch:=try exact dI) only[R37,je,jc,jd,Wv,push_cast,seval]
       refine ab.lentK a3 [1,2,16] rfl qsZ qsZ ?_
       simp(maxSteps:=9^7) (disch:=try exact dI) only[push_cast,seval]
       refine au ([]) (fun k:Nat=>[(23,.pv (.int .i64 (k:Int)))]) (fun k=>[(1,.cells 32 true [.olist 4 4 ((o2++aF F (cl.take k)).map Prb.pv)])]) (fun k=>k<=cl.length) (fun k=>cl.length - k) (0) ?_;intro e0 σ0 n0 h0;simp(maxSteps:=9^7) (disch:=try exact dI) only[push_cast,seval] at h0;obtain⟨rfl,rfl,rfl⟩:=h0;refine⟨?_,?_,?_⟩
       ·simp(maxSteps:=9^7) (disch:=try exact dI) only[aU,Xc,push_cast,seval]
       ·omega
       intro k hk
       by_cases hlk:k<cl.length
       ·obtain⟨x,hx⟩:∃ x,cl[k]? = some x:=⟨_,WT hlk⟩
        have hsn:o2++aF F (cl.take (k+1))=(o2++aF F (cl.take k))++F x k:=by rw[aN F hx,W7]
        have hcm:=hclen k
        obtain⟨sv,mp⟩:=x
        have hFx:=congrFun (congrFun hF (.mk sv mp)) k
        have hcr:=fun Q hQ=>dt Q ⟨pv,ps,pe,pw,pr⟩ hok ws m pl k N (o2++aF F (cl.take k)) rnm rsrc rst (by omega) nm 13 c d e f [] h i cl w sv mp hx hlk hcl hQ
        rw[hFx,<- hsn] at hcr
        simp only[qI,qH,aY,Wv] at hcr
        simp(maxSteps:=9^7) (disch:=try exact dI) only[push_cast,seval]
        refine hcr _ fun s hs=>⟨k+1,hs,by show k+1<=cl.length;omega,by show cl.length - (k+1)<cl.length - k;omega⟩
       ·have hltI:¬ (k:Int)<cl.length:=by omega
        have hle:cl.take k=cl:=WY (by omega)
        rw[hle,<- hfin]
        simp(maxSteps:=9^7) (disch:=try exact dI) only[er,fE,push_cast,seval]
        simp(maxSteps:=9^7) (disch:=try exact dI) only[gh,push_cast,seval]
        exact hQ _ (aJ (by simp(maxSteps:=9^7) (disch:=try exact dI) only[uQ,tU,push_cast,seval]))
      ·have ea:(!decide (g=[])&&!bw ⟨pv,ps,pe,pw,pr⟩ g)=!bw ⟨pv,ps,pe,pw,pr⟩ g:=by rw[decide_eq_false hg];rfl
       rw[ea] at a3
       have eb:decide (bL (ec ps g ps.length)<0)=!bw ⟨pv,ps,pe,pw,pr⟩ g:=iF _
       rw[<- eb] at a3
       clear eb
       generalize bL (ec ps g ps.length)=ix at *
       simp(maxSteps:=9^7) (disch:=try exact dI) only[R37,je,jc,jd,Wv,hg,push_cast,seval]
       refine ag hlt rfl ?_
       simp(maxSteps:=9^7) (disch:=try exact dI) only[hg,push_cast,seval]
       refine ab.lentK a3 [1,2,16] rfl qsZ qsZ ?_
       simp(maxSteps:=9^7) (disch:=try exact dI) only[push_cast,seval]
       refine au ([]) (fun k:Nat=>[(23,.pv (.int .i64 (k:Int)))]) (fun k=>[(1,.cells 32 true [.olist 4 4 ((o2++aF F (cl.take k)).map Prb.pv)])]) (fun k=>k<=cl.length) (fun k=>cl.length - k) (0) ?_;intro e0 σ0 n0 h0;simp(maxSteps:=9^7) (disch:=try exact dI) only[push_cast,seval] at h0;obtain⟨rfl,rfl,rfl⟩:=h0;refine⟨?_,?_,?_⟩
       ·simp(maxSteps:=9^7) (disch:=try exact dI) only[aU,Xc,push_cast,seval]
       ·omega
       intro k hk
       by_cases hlk:k<cl.length
       ·obtain⟨x,hx⟩:∃ x,cl[k]? = some x:=⟨_,WT hlk⟩
        have hsn:o2++aF F (cl.take (k+1))=(o2++aF F (cl.take k))++F x k:=by rw[aN F hx,W7]
        have hcm:=hclen k
        obtain⟨sv,mp⟩:=x
        have hFx:=congrFun (congrFun hF (.mk sv mp)) k
        have hcr:=fun Q hQ=>dt Q ⟨pv,ps,pe,pw,pr⟩ hok ws m pl k N (o2++aF F (cl.take k)) rnm rsrc rst (by omega) nm 13 c d e f g h i cl w sv mp hx hlk hcl hQ
        rw[hFx,<- hsn] at hcr
        simp only[qI,qH,aY,Wv] at hcr
        simp(maxSteps:=9^7) (disch:=try exact dI) only[push_cast,seval]
        refine hcr _ fun s hs=>⟨k+1,hs,by show k+1<=cl.length;omega,by show cl.length - (k+1)<cl.length - k;omega⟩
       ·have hltI:¬ (k:Int)<cl.length:=by omega
        have hle:cl.take k=cl:=WY (by omega)
        rw[hle,<- hfin]
        simp(maxSteps:=9^7) (disch:=try exact dI) only[er,fE,push_cast,seval]
        simp(maxSteps:=9^7) (disch:=try exact dI) only[gh,push_cast,seval]
        exact hQ _ (aJ (by simp(maxSteps:=9^7) (disch:=try exact dI) only[uQ,tU,push_cast,seval]))
   ·rw[toO,if_neg hk,Xc] at ho1
    subst ho1
    simp(maxSteps:=9^7) (disch:=try exact dI) only[R31,mF,OA,LM,aY,Wv,push_cast,seval]
    refine ab.pure hfo rfl ?_
    simp(maxSteps:=9^7) (disch:=try exact dI) only[R33,qD,hk,push_cast,seval]
    by_cases hg:g=[]
    ·have ea:(!decide (g=[])&&!bw ⟨pv,ps,pe,pw,pr⟩ g)=false:=by rw[hg];rfl
     rw[ea] at a3
     subst hg
     simp(maxSteps:=9^7) (disch:=try exact dI) only[R37,je,jc,jd,Wv,push_cast,seval]
     refine ab.lentK a3 [1,2,5] rfl qsZ qsZ ?_
     simp(maxSteps:=9^7) (disch:=try exact dI) only[push_cast,seval]
     refine au ([]) (fun k:Nat=>[(23,.pv (.int .i64 (k:Int)))]) (fun k=>[(1,.cells 32 true [.olist 4 4 ((o2++aF F (cl.take k)).map Prb.pv)])]) (fun k=>k<=cl.length) (fun k=>cl.length - k) (0) ?_;intro e0 σ0 n0 h0;simp(maxSteps:=9^7) (disch:=try exact dI) only[push_cast,seval] at h0;obtain⟨rfl,rfl,rfl⟩:=h0;refine⟨?_,?_,?_⟩
     ·simp(maxSteps:=9^7) (disch:=try exact dI) only[aU,Xc,push_cast,seval]
     ·omega
     intro k hk
     by_cases hlk:k<cl.length
     ·obtain⟨x,hx⟩:∃ x,cl[k]? = some x:=⟨_,WT hlk⟩
      have hsn:o2++aF F (cl.take (k+1))=(o2++aF F (cl.take k))++F x k:=by rw[aN F hx,W7]
      have hcm:=hclen k
      obtain⟨sv,mp⟩:=x
      have hFx:=congrFun (congrFun hF (.mk sv mp)) k
      have hcr:=fun Q hQ=>dt Q ⟨pv,ps,pe,pw,pr⟩ hok ws m pl k N (o2++aF F (cl.take k)) rnm rsrc rst (by omega) nm kd c d e f [] h i cl w sv mp hx hlk hcl hQ
      rw[hFx,<- hsn] at hcr
      simp only[qI,qH,aY,Wv] at hcr
      simp(maxSteps:=9^7) (disch:=try exact dI) only[push_cast,seval]
      refine hcr _ fun s hs=>⟨k+1,hs,by show k+1<=cl.length;omega,by show cl.length - (k+1)<cl.length - k;omega⟩
     ·have hltI:¬ (k:Int)<cl.length:=by omega
      have hle:cl.take k=cl:=WY (by omega)
      rw[hle,<- hfin]
      simp(maxSteps:=9^7) (disch:=try exact dI) only[er,fE,push_cast,seval]
      simp(maxSteps:=9^7) (disch:=try exact dI) only[gh,push_cast,seval]
      exact hQ _ (aJ (by simp(maxSteps:=9^7) (disch:=try exact dI) only[uQ,tU,push_cast,seval]))
    ·have ea:(!decide (g=[])&&!bw ⟨pv,ps,pe,pw,pr⟩ g)=!bw ⟨pv,ps,pe,pw,pr⟩ g:=by rw[decide_eq_false hg];rfl
     rw[ea] at a3
     have eb:decide (bL (ec ps g ps.length)<0)=!bw ⟨pv,ps,pe,pw,pr⟩ g:=iF _
     rw[<- eb] at a3
     clear eb
     generalize bL (ec ps g ps.length)=ix at *
     simp(maxSteps:=9^7) (disch:=try exact dI) only[R37,je,jc,jd,Wv,hg,push_cast,seval]
     refine ag hlt rfl ?_
     simp(maxSteps:=9^7) (disch:=try exact dI) only[hg,push_cast,seval]
     refine ab.lentK a3 [1,2,5] rfl qsZ qsZ ?_
     simp(maxSteps:=9^7) (disch:=try exact dI) only[push_cast,seval]
     refine au ([]) (fun k:Nat=>[(23,.pv (.int .i64 (k:Int)))]) (fun k=>[(1,.cells 32 true [.olist 4 4 ((o2++aF F (cl.take k)).map Prb.pv)])]) (fun k=>k<=cl.length) (fun k=>cl.length - k) (0) ?_;intro e0 σ0 n0 h0;simp(maxSteps:=9^7) (disch:=try exact dI) only[push_cast,seval] at h0;obtain⟨rfl,rfl,rfl⟩:=h0;refine⟨?_,?_,?_⟩
     ·simp(maxSteps:=9^7) (disch:=try exact dI) only[aU,Xc,push_cast,seval]
     ·omega
     intro k hk
     by_cases hlk:k<cl.length
     ·obtain⟨x,hx⟩:∃ x,cl[k]? = some x:=⟨_,WT hlk⟩
      have hsn:o2++aF F (cl.take (k+1))=(o2++aF F (cl.take k))++F x k:=by rw[aN F hx,W7]
      have hcm:=hclen k
      obtain⟨sv,mp⟩:=x
      have hFx:=congrFun (congrFun hF (.mk sv mp)) k
      have hcr:=fun Q hQ=>dt Q ⟨pv,ps,pe,pw,pr⟩ hok ws m pl k N (o2++aF F (cl.take k)) rnm rsrc rst (by omega) nm kd c d e f g h i cl w sv mp hx hlk hcl hQ
      rw[hFx,<- hsn] at hcr
      simp only[qI,qH,aY,Wv] at hcr
      simp(maxSteps:=9^7) (disch:=try exact dI) only[push_cast,seval]
      refine hcr _ fun s hs=>⟨k+1,hs,by show k+1<=cl.length;omega,by show cl.length - (k+1)<cl.length - k;omega⟩
     ·have hltI:¬ (k:Int)<cl.length:=by omega
      have hle:cl.take k=cl:=WY (by omega)
      rw[hle,<- hfin]
      simp(maxSteps:=9^7) (disch:=try exact dI) only[er,fE,push_cast,seval]
      simp(maxSteps:=9^7) (disch:=try exact dI) only[gh,push_cast,seval]
      exact hQ _ (aJ (by simp(maxSteps:=9^7) (disch:=try exact dI) only[uQ,tU,push_cast,seval]))
