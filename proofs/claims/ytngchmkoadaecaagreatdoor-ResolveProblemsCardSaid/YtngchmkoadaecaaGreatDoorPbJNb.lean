/- A part. -/
import Derived.Test.YtngchmkoadaecaaGreatDoorPbJN9
import Derived.Test.YtngchmkoadaecaaGreatDoorPbJR3
set_option linter.unusedVariables false
set_option linter.unusedSimpArgs false
set_option maxHeartbeats 16000000
set_option maxRecDepth 100000
open Nat renaming le_trans->Xu,mul_le_mul_right->W8,le_refl->Xi
open List renaming append_nil->Xc,length_append->W0,getElem?_eq_getElem->WT,mem_of_getElem?->WV,mem_append->Xx,append_assoc->W7,cons_append->XA,nil_append->Xl,take_of_length_le->WY
namespace Go.Proofs.YtngchmkoadaecaaGreatDoor
open Go Go.Ab
theorem uV (p:List Int)(hm:p.length<=1000000):bz Tryz.prog aC 0 85 [.pv (.list (p.map (PV.int .i64)))] [] (.olist 0 1 (p.map (PV.int .i64))) [.tok 3 1]:=by
 refine bz.intro Q85.2 (by simp[Q85]) ?_
 cases p with
 | nil=>
   simp(maxSteps:=9^7) (disch:=try exact dI) only[Q85,push_cast,seval]
   intro b
   cases b
   ·simp(maxSteps:=9^7) (disch:=try exact dI) only[push_cast,seval]
    exact aH [] qsZ
   ·simp(maxSteps:=9^7) (disch:=try exact dI) only[push_cast,seval]
    exact aH [(0,0,3,1)] qsZ
 | cons x r=>
   rw[List.length_cons] at hm
   simp(maxSteps:=9^7) (disch:=try exact dI) only[Q85,push_cast,seval]
   exact aH [] qsZ
def La (p:Prg)(route:Int)(rn:List UInt8)(n:Nat):Prop:=∀ (pl:List Int) (l:List Stp) (N:NS) (out:List Prb),Bnd n l->F4 n l->okL l->pl.length+2*n<=900->(∀ x∈pl,I64 x)->out.length+42*cnt n<=9000000000 ->
 bz Tryz.prog aC 3 36 [.ptr 0 0,.pv p.pv,.pv (.int .i64 route),.pv (.list (l.map Stp.pv)),.mp 1,.mp 2] [fU rn pl out 3,.mp (mpS N),.mp aX,.tok 82 4] (.pv (.tup []))
  [fU rn pl (out++(bC az p route rn n pl l N).1) 3,.mp (mpS (bC az p route rn n pl l N).2),.mp aX,.tok 82 4]
theorem KC (l:List Stp):jw l 0=false:=by simp[jw]
theorem KD {l:List Stp}{m:Nat}{y:Stp}(h:l[m]? = some y):jw l (m+1)=de y:=by simp[jw,h,yW]
theorem ca {α:Type}(F:NS->α->Nat->List Prb×NS)(c:Nat)(l:List α)(N:NS)(m:Nat)(hl:m<l.length)(k:Nat)(hk:l.length<=k+1)(h:∀ x∈l,∀ N i,(F N x i).1.length<=c):(ixO F N 0 (l.take m)).1.length<=k*c:=
 Xu (cH F c (l.take m) N 0 fun x hx=>h x (List.mem_of_mem_take hx)) (W8 _ (by rw[List.length_take];omega))
theorem LN (p:Prg)(hok:p.ok)(route:Int)(hr:I64 route)(rn:List UInt8):∀ n:Nat,La p route rn n:=by
 intro n
 induction n with
 | zero=>
   intro pl l N out hB hC hl hp hI ho
   obtain rfl:l=[]:=hB
   have e0:bC az p route rn 0 pl [] N=([],N):=by simp[bC]
   rw[e0]
   simp only[Xc,fU]
   generalize aX=RL
   obtain⟨pv,ps,pe,pw,pr⟩:=p
   refine bz.intro Q36.2 (by simp[Q36]) ?_
   simp(maxSteps:=9^7) (disch:=try exact dI) only[Q36,Wv,push_cast,seval]
   refine au ([]) (fun m:Nat=>[]) (fun m=>[]) (fun m=>m=0) (fun m=>m) (0) ?_;intro e0 σ0 n0 h0;simp(maxSteps:=9^7) (disch:=try exact dI) only[push_cast,seval] at h0;obtain⟨rfl,rfl,rfl⟩:=h0;refine⟨?_,?_,?_⟩
   ·simp(maxSteps:=9^7) (disch:=try exact dI) only[push_cast,seval]
   ·rfl
   ·intro m hm
    simp(maxSteps:=9^7) (disch:=try exact dI) only[push_cast,seval]
    exact aH [] qsZ
 | succ n ih=>
   intro pl l N out hB hC hl hp hI ho
   obtain⟨hB1,hB2⟩:=hB
   obtain⟨hl1,hl2⟩:=hl
   rw[bC]
   generalize hF:(fun (N:NS) (s:Stp) (i:Nat)=>
    ((stO az p route rn N s (pl++[(i:Int)]) (aG rn (pl++[(i:Int)]) (jw l i) 7 [])).1 ++
      (ixO (fun N b j=>bC az p route rn n ((pl++[(i:Int)])++[(j:Int)]) (Bra.steps b) N) (stO az p route rn N s (pl++[(i:Int)]) (aG rn (pl++[(i:Int)]) (jw l i) 7 [])).2 0 s.branches).1,
     (ixO (fun N b j=>bC az p route rn n ((pl++[(i:Int)])++[(j:Int)]) (Bra.steps b) N) (stO az p route rn N s (pl++[(i:Int)]) (aG rn (pl++[(i:Int)]) (jw l i) 7 [])).2 0 s.branches).2))=F
   have hFl:∀ x∈l,∀ N i,(F N x i).1.length<=42*(1+4*cnt n):=by
    intro s hs N i
    rw[<- hF]
    obtain⟨h3,h4⟩:=hB2 s hs
    obtain⟨h5,h6⟩:=hC s hs
    have ha:=Bl az p route rn N s (pl++[(i:Int)]) (aG rn (pl++[(i:Int)]) (jw l i) 7 []) h5 (am _ _ _ _ _)
    have hb:=cH (fun N b j=>bC az p route rn n ((pl++[(i:Int)])++[(j:Int)]) (Bra.steps b) N) (42*cnt n) s.branches (stO az p route rn N s (pl++[(i:Int)]) (aG rn (pl++[(i:Int)]) (jw l i) 7 [])).2 0
     fun b hb N j=>cN az p route rn n _ _ N (h4 b hb) (h6 b hb)
    have h7:s.branches.length*(42*cnt n)<=4*(42*cnt n):=W8 _ h3
    simp only[W0]
    omega
   simp only[cnt] at ho
   have hppv:∃ pc,p.pv = .agg pc/\pc.length=5/\∀ q∈pc,q.one=true:=p.row
   have hst:=fun (s:Stp) (hs:s.ok) (q:List Int) (o:List Prb) (h1:q.length<=1000000) (h2:o.length<=10000000000) (h3:s.calls.length<=18)=>P1 p s rn q o hok hs h1 h2 h3
   have hfm:=fun (s:Stp) (hs:s.ok)=>Rn s hs
   have hib:=ih
   unfold La at hib
   obtain⟨pv,ps,pe,pw,pr⟩:=p
   generalize aX=RL at *
   simp only[Wv] at hib hst
   refine bz.intro Q36.2 (by simp[Q36]) ?_
   simp only[fU] at *
   simp(maxSteps:=9^7) (disch:=try exact dI) only[Q36,Wv,push_cast,seval]
   refine au ([]) (fun m:Nat=>[(25,.pv (.int .i64 (m:Int)))]) (fun m=>[(0,.cells 85 true [.pv (.str rn),.any,.olist 3 4 ((out++(ixO F N 0 (l.take m)).1).map Prb.pv)]),(1,.mp (mpS (ixO F N 0 (l.take m)).2))]) (fun m=>m<=l.length) (fun m=>l.length - m) (0) ?_;intro e0 σ0 n0 h0;simp(maxSteps:=9^7) (disch:=try exact dI) only[push_cast,seval] at h0;obtain⟨rfl,rfl,rfl⟩:=h0;refine⟨?_,?_,?_⟩
   ·simp(maxSteps:=9^7) (disch:=try exact dI) only[cu,Xc,push_cast,seval]
   ·omega
   ·intro m hm
    by_cases hlt:m<l.length
    ·have hltI:(m:Int)<l.length:=by omega
     obtain⟨x,hx⟩:∃ x,l[m]? = some x:=⟨_,WT hlt⟩
     have hxm:=WV hx
     have hxo:=hl2 x hxm
     obtain⟨hb1,hb2⟩:=hB2 x hxm
     obtain⟨hc1,hc2⟩:=hC x hxm
     have hsn:=bK F N hx
     have hol:=ca F (42*(1+4*cnt n)) l N m hlt 7 hB1 hFl
     obtain⟨q,hq⟩:∃ q:List Int,q=pl++[(m:Int)]:=⟨_,rfl⟩
     have hql:q.length=pl.length+1:=by rw[hq];simp
     have hqI:∀ x∈q,I64 x:=by
      intro x hx
      rw[hq] at hx
      rcases Xx.1 hx with hx | hx
      ·exact hI x hx
      ·rw[List.mem_singleton] at hx;subst hx;unfold I64;omega
     have hcl:=uV pl (by omega)
     have hcq:=uV q (by omega)
     have hqm:pl.map (PV.int .i64)++[PV.int .i64 (m:Int)]=q.map (PV.int .i64):=by rw[hq];simp
     have hnm:=Im (.mk route q x) hr (by simp only[Wkd.place];omega) (by simpa only[Wkd.place] using hqI)
     simp only[Wkd.route,Wkd.place,Wkd.step] at hnm
     have hFx:=congrFun (congrFun (congrFun hF (ixO F N 0 (l.take m)).2) x) m
     simp only[<- hq,stO] at hFx
     generalize hO':ixO F N 0 (l.take (m+1))=O' at *
     generalize ixO F N 0 (l.take m)=O at *
     obtain⟨oo,N1⟩:=O
     simp only at hsn hol hFx
     generalize nmW route q x=nm at *
     generalize hN2:Fo N1 nm=N2 at *
     generalize hG:(fun (N:NS) (b:Bra) (j:Nat)=>bC az ⟨pv,ps,pe,pw,pr⟩ route rn n (q++[(j:Int)]) (Bra.steps b) N)=G at *
     have hGl:∀ b∈x.branches,∀ N j,(G N b j).1.length<=42*cnt n:=fun b hb N j=>by
      rw[<- hG];exact cN az _ route rn n _ _ N (hb2 b hb) (hc2 b hb)
     have hnB:=cU x.name
     have hstx:=hst x hxo q
     have hfx:=hfm x hxo
     generalize hfs:aQ x=fs at *
     generalize hpx:FW ⟨pv,ps,pe,pw,pr⟩ rn q x=sp at *
     have hspl:sp.length<=39:=by rw[<- hpx];exact tQ _ _ _ _ hc1
     have ho0:(out++oo).length+42*(1+4*cnt n)<=9000000000:=by rw[W0];omega
     obtain⟨w1,w2,w3,w4,w5,w6,w7,w8,w9,wa,wb⟩:=x
     simp only[Stp.name,Stp.branches,Stp.calls] at hnB hFx hb1 hb2 hc1 hc2 hGl hstx
     have hwo:=hxo
     rw[WE] at hwo
     have hwb:=hwo.2.2.2.2.2.2.2.2.2.2.2.2.2.2
     clear hwo
     unfold stF at hFx
     have a1:=bB rn q (out++oo) (!decide (w1=[])&&!az w1) 1 w1 (by omega) (by omega)
     have k1:=aA (Xi (out++oo).length) (am rn q (!decide (w1=[])&&!az w1) 1 w1)
     generalize hA1:aG rn q (!decide (w1=[])&&!az w1) 1 w1=A1 at *
     have a2:=bB rn q ((out++oo)++A1) (decide (nm∈N1)) 2 nm (by omega) (by omega)
     have k2:=aA (Xi ((out++oo)++A1).length) (am rn q (decide (nm∈N1)) 2 nm)
     generalize hA2:aG rn q (decide (nm∈N1)) 2 nm=A2 at *
     have a3:=bB rn q (((out++oo)++A1)++A2) (jw l m) 7 [] (by omega) (by omega)
     have k3:=aA (Xi (((out++oo)++A1)++A2).length) (am rn q (jw l m) 7 [])
     generalize hA3:aG rn q (jw l m) 7 []=A3 at *
     have a4:=bB rn q ((((out++oo)++A1)++A2)++A3) true 5 [] (by omega) (by omega)
     have a5:=hstx ((((out++oo)++A1)++A2)++A3) (by omega) (by omega) hc1
     have hFO:out++O'.1=(((((out++oo)++A1)++A2)++A3)++(if fs=true then sp else aG rn q true 5 []))++(ixO G N2 0 wb).1:=by
      rw[hsn,<- hFx];simp only[W7]
     have hFN:O'.2=(ixO G N2 0 wb).2:=by rw[hsn,<- hFx]
     clear hsn hFx hA1 hA2 hA3
     have k4:(((((out++oo)++A1)++A2)++A3)++(if fs=true then sp else aG rn q true 5 [])).length<=((((out++oo)++A1)++A2)++A3).length+39:=by
      refine aA (Xi _) ?_
      split
      ·exact hspl
      ·exact Xu (am _ _ _ _ _) (by omega)
     generalize ((((out++oo)++A1)++A2)++A3)=o3 at *
     generalize (((out++oo)++A1)++A2)=o2 at *
     generalize ((out++oo)++A1)=o1 at *
     generalize out++oo=o0 at *
     simp only[fU] at a1 a2 a3 a4 a5
     have hih:=fun (b:Bra) (hb:b∈wb) (j:Nat) (hj:j<10) (o:List Prb) (N:NS) (ho:o.length+42*cnt n<=9000000000)=>hib (q++[(j:Int)]) b.steps N o (hb2 b hb) (hc2 b hb) (by
       have hbo:=hwb b hb
       obtain⟨b1,b2⟩:=b
       rw[Wg] at hbo
       exact⟨hbo.2.2.1,hbo.2.2.2⟩) (by simp;omega) (by
       intro x hx
       rcases Xx.1 hx with hx | hx
       ·exact hqI x hx
       ·rw[List.mem_singleton] at hx;subst hx;unfold I64;omega) ho
     clear hib hst hfm hB2 hC ih
     by_cases hn0:w1=[]
     ·subst hn0
      have e1:(!decide (([]:List UInt8)=[])&&!az [])=false:=by simp
      rw[e1] at a1
      simp(maxSteps:=9^7) (disch:=try exact dI) only[hx,WF,push_cast,seval]
      refine ab.lentK hcl [] rfl qsZ qsZ ?_
      simp(maxSteps:=9^7) (disch:=try exact dI) only[hqm,push_cast,seval]
      simp only[WR,WF,ae,XA,Xl] at hnm
      simp only[WF] at hfx a5
      refine ab.pure hnm rfl ?_
      simp(maxSteps:=9^7) (disch:=try exact dI) only[hx,push_cast,seval]
      refine ab.lentK a1 [0,3] rfl qsZ (by simp(maxSteps:=9^7) (disch:=try exact dI) only[NzL.refl,push_cast,seval]) ?_
      simp(maxSteps:=9^7) (disch:=try exact dI) only[hx,push_cast,seval]
      refine ab.lentK a2 [0,15] rfl qsZ qsZ ?_
      by_cases hm0:m=0
      ·subst hm0
       rw[KC l] at a3
       simp(maxSteps:=9^7) (disch:=try exact dI) only[hx,hN2,push_cast,seval]
       refine ab.lentK a3 [0,17] rfl qsZ qsZ ?_
       simp(maxSteps:=9^7) (disch:=try exact dI) only[hx,push_cast,seval]
       refine ab.lentK hfx [2] rfl (by simp(maxSteps:=9^7) (disch:=try exact dI) only[hx,push_cast,seval]) qsZ ?_
       simp(maxSteps:=9^7) (disch:=try exact dI) only[push_cast,seval]
       cases fs with
       | true=>
         simp only[if_true] at hFO k4
         simp(maxSteps:=9^7) (disch:=try exact dI) only[push_cast,seval]
         generalize o3++sp=o4 at *
         refine ab.lentK a5 [0,19] rfl qsZ qsZ ?_
         simp(maxSteps:=9^7) (disch:=try exact dI) only[hx,push_cast,seval]
         refine au ([]) (fun j:Nat=>[(95,.pv (.int .i64 (j:Int)))]) (fun j=>[(0,.cells 85 true [.pv (.str rn),.any,.olist 3 4 ((o4++(ixO G N2 0 (wb.take j)).1).map Prb.pv)]),(1,.mp (mpS (ixO G N2 0 (wb.take j)).2))]) (fun j=>j<=wb.length) (fun j=>wb.length - j) (0) ?_;intro e0 σ0 n0 h0;simp(maxSteps:=9^7) (disch:=try exact dI) only[push_cast,seval] at h0;obtain⟨rfl,rfl,rfl⟩:=h0;refine⟨?_,?_,?_⟩
         ·simp(maxSteps:=9^7) (disch:=try exact dI) only[cu,Xc,push_cast,seval]
         ·omega
         intro j hj
         by_cases hlj:j<wb.length
         ·have hljI:(j:Int)<wb.length:=by omega
          obtain⟨b,hb⟩:∃ b,wb[j]? = some b:=⟨_,WT hlj⟩
          have hbm:=WV hb
          have hsn:=bK G N2 hb
          have hgl:=ca G (42*cnt n) wb N2 j hlj 3 hb1 hGl
          have hGb:=congrFun (congrFun (congrFun hG (ixO G N2 0 (wb.take j)).2) b) j
          generalize hB2:ixO G N2 0 (wb.take (j+1))=B2 at *
          generalize ixO G N2 0 (wb.take j)=B at *
          obtain⟨bo,bN⟩:=B
          simp only at hsn hgl hGb
          have hcall:=hih b hbm j (by omega) (o4++bo) bN (by rw[W0];omega)
          rw[hGb] at hcall
          have hqj:q.map (PV.int .i64)++[PV.int .i64 (j:Int)]=(q++[(j:Int)]).map (PV.int .i64):=by simp
          have e2:(o4++bo)++(G bN b j).1=o4++B2.1:=by rw[hsn,W7]
          have e3:(G bN b j).2=B2.2:=by rw[hsn]
          rw[e2,e3] at hcall
          generalize o4++bo=o5 at *
          obtain⟨b1,b2⟩:=b
          simp only[Bra.steps] at hcall
          simp(maxSteps:=9^7) (disch:=try exact dI) only[hb,Wh,push_cast,seval]
          refine ab.lentK hcq [] rfl qsZ qsZ ?_
          simp(maxSteps:=9^7) (disch:=try exact dI) only[hqj,push_cast,seval]
          refine ab.lentK hcall [0,1,2,3] rfl (by simp(maxSteps:=9^7) (disch:=try exact dI) only[hqj,push_cast,seval]) (by simp(maxSteps:=9^7) (disch:=try exact dI) only[hqj,NzL.refl,push_cast,seval]) ?_
          simp(maxSteps:=9^7) (disch:=try exact dI) only[push_cast,seval]
          exact⟨j+1,aJ (by simp(maxSteps:=9^7) (disch:=try exact dI) only[hB2,push_cast,seval]),by omega,by omega⟩
         ·have hljI:¬ (j:Int)<wb.length:=by omega
          have hle:wb.take j=wb:=WY (by omega)
          rw[hle]
          simp(maxSteps:=9^7) (disch:=try exact dI) only[push_cast,seval]
          exact⟨0+1,aJ (by simp(maxSteps:=9^7) (disch:=try exact dI) only[hO',hFO,hFN,push_cast,seval]),by omega,by omega⟩
       | false=>
         simp only[Bool.false_eq_true,if_false] at hFO k4
         simp(maxSteps:=9^7) (disch:=try exact dI) only[push_cast,seval]
         generalize o3++aG rn q true 5 []=o4 at *
         refine ab.lentK a4 [0,19] rfl qsZ qsZ ?_
         simp(maxSteps:=9^7) (disch:=try exact dI) only[hx,push_cast,seval]
         refine au ([]) (fun j:Nat=>[(95,.pv (.int .i64 (j:Int)))]) (fun j=>[(0,.cells 85 true [.pv (.str rn),.any,.olist 3 4 ((o4++(ixO G N2 0 (wb.take j)).1).map Prb.pv)]),(1,.mp (mpS (ixO G N2 0 (wb.take j)).2))]) (fun j=>j<=wb.length) (fun j=>wb.length - j) (0) ?_;intro e0 σ0 n0 h0;simp(maxSteps:=9^7) (disch:=try exact dI) only[push_cast,seval] at h0;obtain⟨rfl,rfl,rfl⟩:=h0;refine⟨?_,?_,?_⟩
         ·simp(maxSteps:=9^7) (disch:=try exact dI) only[cu,Xc,push_cast,seval]
         ·omega
         intro j hj
         by_cases hlj:j<wb.length
         ·have hljI:(j:Int)<wb.length:=by omega
          obtain⟨b,hb⟩:∃ b,wb[j]? = some b:=⟨_,WT hlj⟩
          have hbm:=WV hb
          have hsn:=bK G N2 hb
          have hgl:=ca G (42*cnt n) wb N2 j hlj 3 hb1 hGl
          have hGb:=congrFun (congrFun (congrFun hG (ixO G N2 0 (wb.take j)).2) b) j
          generalize hB2:ixO G N2 0 (wb.take (j+1))=B2 at *
          generalize ixO G N2 0 (wb.take j)=B at *
          obtain⟨bo,bN⟩:=B
          simp only at hsn hgl hGb
          have hcall:=hih b hbm j (by omega) (o4++bo) bN (by rw[W0];omega)
          rw[hGb] at hcall
          have hqj:q.map (PV.int .i64)++[PV.int .i64 (j:Int)]=(q++[(j:Int)]).map (PV.int .i64):=by simp
          have e2:(o4++bo)++(G bN b j).1=o4++B2.1:=by rw[hsn,W7]
          have e3:(G bN b j).2=B2.2:=by rw[hsn]
          rw[e2,e3] at hcall
          generalize o4++bo=o5 at *
          obtain⟨b1,b2⟩:=b
          simp only[Bra.steps] at hcall
          simp(maxSteps:=9^7) (disch:=try exact dI) only[hb,Wh,push_cast,seval]
          refine ab.lentK hcq [] rfl qsZ qsZ ?_
          simp(maxSteps:=9^7) (disch:=try exact dI) only[hqj,push_cast,seval]
          refine ab.lentK hcall [0,1,2,3] rfl (by simp(maxSteps:=9^7) (disch:=try exact dI) only[hqj,push_cast,seval]) (by simp(maxSteps:=9^7) (disch:=try exact dI) only[hqj,NzL.refl,push_cast,seval]) ?_
          simp(maxSteps:=9^7) (disch:=try exact dI) only[push_cast,seval]
          exact⟨j+1,aJ (by simp(maxSteps:=9^7) (disch:=try exact dI) only[hB2,push_cast,seval]),by omega,by omega⟩
         ·have hljI:¬ (j:Int)<wb.length:=by omega
          have hle:wb.take j=wb:=WY (by omega)
          rw[hle]
          simp(maxSteps:=9^7) (disch:=try exact dI) only[push_cast,seval]
          exact⟨0+1,aJ (by simp(maxSteps:=9^7) (disch:=try exact dI) only[hO',hFO,hFN,push_cast,seval]),by omega,by omega⟩
      ·obtain⟨m1,rfl⟩:∃ m',m=m'+1:=⟨m - 1,by omega⟩
       obtain⟨y,hy⟩:∃ y,l[m1]? = some y:=⟨_,WT (by omega)⟩
       rw[KD hy] at a3
       have hey:=En y (hl2 y (WV hy))
       have hmI:(0:Int)<((m1:Int)+1):=by omega
       obtain⟨y1,y2,y3,y4,y5,y6,y7,y8,y9,ya,yb⟩:=y
       generalize de (.mk y1 y2 y3 y4 y5 y6 y7 y8 y9 ya yb)=eb at *
       rw[WF] at hey
       simp(maxSteps:=9^7) (disch:=try exact dI) only[hx,hN2,hmI,hy,WF,push_cast,seval]
       refine ab.pure hey rfl ?_
       simp(maxSteps:=9^7) (disch:=try exact dI) only[hmI,push_cast,seval]
       refine ab.lentK a3 [0,17] rfl qsZ qsZ ?_
       simp(maxSteps:=9^7) (disch:=try exact dI) only[hx,push_cast,seval]
       refine ab.lentK hfx [2] rfl (by simp(maxSteps:=9^7) (disch:=try exact dI) only[hx,push_cast,seval]) qsZ ?_
       simp(maxSteps:=9^7) (disch:=try exact dI) only[push_cast,seval]
       cases fs with
       | true=>
         simp only[if_true] at hFO k4
         simp(maxSteps:=9^7) (disch:=try exact dI) only[push_cast,seval]
         generalize o3++sp=o4 at *
         refine ab.lentK a5 [0,20] rfl qsZ qsZ ?_
         simp(maxSteps:=9^7) (disch:=try exact dI) only[hx,push_cast,seval]
         refine au ([]) (fun j:Nat=>[(95,.pv (.int .i64 (j:Int)))]) (fun j=>[(0,.cells 85 true [.pv (.str rn),.any,.olist 3 4 ((o4++(ixO G N2 0 (wb.take j)).1).map Prb.pv)]),(1,.mp (mpS (ixO G N2 0 (wb.take j)).2))]) (fun j=>j<=wb.length) (fun j=>wb.length - j) (0) ?_;intro e0 σ0 n0 h0;simp(maxSteps:=9^7) (disch:=try exact dI) only[push_cast,seval] at h0;obtain⟨rfl,rfl,rfl⟩:=h0;refine⟨?_,?_,?_⟩
         ·simp(maxSteps:=9^7) (disch:=try exact dI) only[cu,Xc,push_cast,seval]
         ·omega
         intro j hj
         by_cases hlj:j<wb.length
         ·have hljI:(j:Int)<wb.length:=by omega
          obtain⟨b,hb⟩:∃ b,wb[j]? = some b:=⟨_,WT hlj⟩
          have hbm:=WV hb
          have hsn:=bK G N2 hb
          have hgl:=ca G (42*cnt n) wb N2 j hlj 3 hb1 hGl
          have hGb:=congrFun (congrFun (congrFun hG (ixO G N2 0 (wb.take j)).2) b) j
          generalize hB2:ixO G N2 0 (wb.take (j+1))=B2 at *
          generalize ixO G N2 0 (wb.take j)=B at *
          obtain⟨bo,bN⟩:=B
          simp only at hsn hgl hGb
          have hcall:=hih b hbm j (by omega) (o4++bo) bN (by rw[W0];omega)
          rw[hGb] at hcall
          have hqj:q.map (PV.int .i64)++[PV.int .i64 (j:Int)]=(q++[(j:Int)]).map (PV.int .i64):=by simp
          have e2:(o4++bo)++(G bN b j).1=o4++B2.1:=by rw[hsn,W7]
          have e3:(G bN b j).2=B2.2:=by rw[hsn]
          rw[e2,e3] at hcall
          generalize o4++bo=o5 at *
          obtain⟨b1,b2⟩:=b
          simp only[Bra.steps] at hcall
          simp(maxSteps:=9^7) (disch:=try exact dI) only[hb,Wh,push_cast,seval]
          refine ab.lentK hcq [] rfl qsZ qsZ ?_
          simp(maxSteps:=9^7) (disch:=try exact dI) only[hqj,push_cast,seval]
          refine ab.lentK hcall [0,1,2,3] rfl (by simp(maxSteps:=9^7) (disch:=try exact dI) only[hqj,push_cast,seval]) (by simp(maxSteps:=9^7) (disch:=try exact dI) only[hqj,NzL.refl,push_cast,seval]) ?_
          simp(maxSteps:=9^7) (disch:=try exact dI) only[push_cast,seval]
          exact⟨j+1,aJ (by simp(maxSteps:=9^7) (disch:=try exact dI) only[hB2,push_cast,seval]),by omega,by omega⟩
         ·have hljI:¬ (j:Int)<wb.length:=by omega
          have hle:wb.take j=wb:=WY (by omega)
          rw[hle]
          simp(maxSteps:=9^7) (disch:=try exact dI) only[push_cast,seval]
          exact⟨m1+1+1,aJ (by simp(maxSteps:=9^7) (disch:=try exact dI) only[hO',hFO,hFN,push_cast,seval]),by omega,by omega⟩
       | false=>
         simp only[Bool.false_eq_true,if_false] at hFO k4
         simp(maxSteps:=9^7) (disch:=try exact dI) only[push_cast,seval]
         generalize o3++aG rn q true 5 []=o4 at *
         refine ab.lentK a4 [0,20] rfl qsZ qsZ ?_
         simp(maxSteps:=9^7) (disch:=try exact dI) only[hx,push_cast,seval]
         refine au ([]) (fun j:Nat=>[(95,.pv (.int .i64 (j:Int)))]) (fun j=>[(0,.cells 85 true [.pv (.str rn),.any,.olist 3 4 ((o4++(ixO G N2 0 (wb.take j)).1).map Prb.pv)]),(1,.mp (mpS (ixO G N2 0 (wb.take j)).2))]) (fun j=>j<=wb.length) (fun j=>wb.length - j) (0) ?_;intro e0 σ0 n0 h0;simp(maxSteps:=9^7) (disch:=try exact dI) only[push_cast,seval] at h0;obtain⟨rfl,rfl,rfl⟩:=h0;refine⟨?_,?_,?_⟩
         ·simp(maxSteps:=9^7) (disch:=try exact dI) only[cu,Xc,push_cast,seval]
         ·omega
         intro j hj
         by_cases hlj:j<wb.length
         ·have hljI:(j:Int)<wb.length:=by omega
          obtain⟨b,hb⟩:∃ b,wb[j]? = some b:=⟨_,WT hlj⟩
          have hbm:=WV hb
          have hsn:=bK G N2 hb
          have hgl:=ca G (42*cnt n) wb N2 j hlj 3 hb1 hGl
          have hGb:=congrFun (congrFun (congrFun hG (ixO G N2 0 (wb.take j)).2) b) j
          generalize hB2:ixO G N2 0 (wb.take (j+1))=B2 at *
          generalize ixO G N2 0 (wb.take j)=B at *
          obtain⟨bo,bN⟩:=B
          simp only at hsn hgl hGb
          have hcall:=hih b hbm j (by omega) (o4++bo) bN (by rw[W0];omega)
          rw[hGb] at hcall
          have hqj:q.map (PV.int .i64)++[PV.int .i64 (j:Int)]=(q++[(j:Int)]).map (PV.int .i64):=by simp
          have e2:(o4++bo)++(G bN b j).1=o4++B2.1:=by rw[hsn,W7]
          have e3:(G bN b j).2=B2.2:=by rw[hsn]
          rw[e2,e3] at hcall
          generalize o4++bo=o5 at *
          obtain⟨b1,b2⟩:=b
          simp only[Bra.steps] at hcall
          simp(maxSteps:=9^7) (disch:=try exact dI) only[hb,Wh,push_cast,seval]
          refine ab.lentK hcq [] rfl qsZ qsZ ?_
          simp(maxSteps:=9^7) (disch:=try exact dI) only[hqj,push_cast,seval]
          refine ab.lentK hcall [0,1,2,3] rfl (by simp(maxSteps:=9^7) (disch:=try exact dI) only[hqj,push_cast,seval]) (by simp(maxSteps:=9^7) (disch:=try exact dI) only[hqj,NzL.refl,push_cast,seval]) ?_
          simp(maxSteps:=9^7) (disch:=try exact dI) only[push_cast,seval]
          exact⟨j+1,aJ (by simp(maxSteps:=9^7) (disch:=try exact dI) only[hB2,push_cast,seval]),by omega,by omega⟩
         ·have hljI:¬ (j:Int)<wb.length:=by omega
          have hle:wb.take j=wb:=WY (by omega)
          rw[hle]
          simp(maxSteps:=9^7) (disch:=try exact dI) only[push_cast,seval]
          exact⟨m1+1+1,aJ (by simp(maxSteps:=9^7) (disch:=try exact dI) only[hO',hFO,hFN,push_cast,seval]),by omega,by omega⟩
     ·have e1:(!decide (w1=[])&&!az w1)=!az w1:=by rw[decide_eq_false hn0];simp
      rw[e1] at a1
      simp(maxSteps:=9^7) (disch:=try exact dI) only[hx,WF,push_cast,seval]
      refine ab.lentK hcl [] rfl qsZ qsZ ?_
      simp(maxSteps:=9^7) (disch:=try exact dI) only[hqm,push_cast,seval]
      simp only[WR,WF,ae,XA,Xl] at hnm
      simp only[WF] at hfx a5
      refine ab.pure hnm rfl ?_
      simp(maxSteps:=9^7) (disch:=try exact dI) only[hn0,push_cast,seval]
      refine ag hnB rfl ?_
      simp(maxSteps:=9^7) (disch:=try exact dI) only[hn0,push_cast,seval]
      refine ab.lentK a1 [0,3] rfl (by simp(maxSteps:=9^7) (disch:=try exact dI) only[hn0,push_cast,seval]) (by simp(maxSteps:=9^7) (disch:=try exact dI) only[NzL.refl,push_cast,seval]) ?_
      simp(maxSteps:=9^7) (disch:=try exact dI) only[hn0,push_cast,seval]
      refine ab.lentK a2 [0,16] rfl qsZ qsZ ?_
      by_cases hm0:m=0
      ·subst hm0
       rw[KC l] at a3
       simp(maxSteps:=9^7) (disch:=try exact dI) only[hn0,hN2,push_cast,seval]
       refine ab.lentK a3 [0,18] rfl qsZ qsZ ?_
       simp(maxSteps:=9^7) (disch:=try exact dI) only[hn0,push_cast,seval]
       refine ab.lentK hfx [2] rfl (by simp(maxSteps:=9^7) (disch:=try exact dI) only[hn0,push_cast,seval]) qsZ ?_
       simp(maxSteps:=9^7) (disch:=try exact dI) only[push_cast,seval]
       cases fs with
       | true=>
         simp only[if_true] at hFO k4
         simp(maxSteps:=9^7) (disch:=try exact dI) only[push_cast,seval]
         generalize o3++sp=o4 at *
         refine ab.lentK a5 [0,20] rfl qsZ qsZ ?_
         simp(maxSteps:=9^7) (disch:=try exact dI) only[hn0,push_cast,seval]
         refine au ([]) (fun j:Nat=>[(95,.pv (.int .i64 (j:Int)))]) (fun j=>[(0,.cells 85 true [.pv (.str rn),.any,.olist 3 4 ((o4++(ixO G N2 0 (wb.take j)).1).map Prb.pv)]),(1,.mp (mpS (ixO G N2 0 (wb.take j)).2))]) (fun j=>j<=wb.length) (fun j=>wb.length - j) (0) ?_;intro e0 σ0 n0 h0;simp(maxSteps:=9^7) (disch:=try exact dI) only[push_cast,seval] at h0;obtain⟨rfl,rfl,rfl⟩:=h0;refine⟨?_,?_,?_⟩
         ·simp(maxSteps:=9^7) (disch:=try exact dI) only[cu,Xc,push_cast,seval]
         ·omega
         intro j hj
         by_cases hlj:j<wb.length
         ·have hljI:(j:Int)<wb.length:=by omega
          obtain⟨b,hb⟩:∃ b,wb[j]? = some b:=⟨_,WT hlj⟩
          have hbm:=WV hb
          have hsn:=bK G N2 hb
          have hgl:=ca G (42*cnt n) wb N2 j hlj 3 hb1 hGl
          have hGb:=congrFun (congrFun (congrFun hG (ixO G N2 0 (wb.take j)).2) b) j
          generalize hB2:ixO G N2 0 (wb.take (j+1))=B2 at *
          generalize ixO G N2 0 (wb.take j)=B at *
          obtain⟨bo,bN⟩:=B
          simp only at hsn hgl hGb
          have hcall:=hih b hbm j (by omega) (o4++bo) bN (by rw[W0];omega)
          rw[hGb] at hcall
          have hqj:q.map (PV.int .i64)++[PV.int .i64 (j:Int)]=(q++[(j:Int)]).map (PV.int .i64):=by simp
          have e2:(o4++bo)++(G bN b j).1=o4++B2.1:=by rw[hsn,W7]
          have e3:(G bN b j).2=B2.2:=by rw[hsn]
          rw[e2,e3] at hcall
          generalize o4++bo=o5 at *
          obtain⟨b1,b2⟩:=b
          simp only[Bra.steps] at hcall
          simp(maxSteps:=9^7) (disch:=try exact dI) only[hb,Wh,push_cast,seval]
          refine ab.lentK hcq [] rfl qsZ qsZ ?_
          simp(maxSteps:=9^7) (disch:=try exact dI) only[hqj,push_cast,seval]
          refine ab.lentK hcall [0,1,2,3] rfl (by simp(maxSteps:=9^7) (disch:=try exact dI) only[hqj,push_cast,seval]) (by simp(maxSteps:=9^7) (disch:=try exact dI) only[hqj,NzL.refl,push_cast,seval]) ?_
          simp(maxSteps:=9^7) (disch:=try exact dI) only[push_cast,seval]
          exact⟨j+1,aJ (by simp(maxSteps:=9^7) (disch:=try exact dI) only[hB2,push_cast,seval]),by omega,by omega⟩
         ·have hljI:¬ (j:Int)<wb.length:=by omega
          have hle:wb.take j=wb:=WY (by omega)
          rw[hle]
          simp(maxSteps:=9^7) (disch:=try exact dI) only[push_cast,seval]
          exact⟨0+1,aJ (by simp(maxSteps:=9^7) (disch:=try exact dI) only[hO',hFO,hFN,push_cast,seval]),by omega,by omega⟩
       | false=>
         simp only[Bool.false_eq_true,if_false] at hFO k4
         simp(maxSteps:=9^7) (disch:=try exact dI) only[push_cast,seval]
         generalize o3++aG rn q true 5 []=o4 at *
         refine ab.lentK a4 [0,20] rfl qsZ qsZ ?_
         simp(maxSteps:=9^7) (disch:=try exact dI) only[hn0,push_cast,seval]
         refine au ([]) (fun j:Nat=>[(95,.pv (.int .i64 (j:Int)))]) (fun j=>[(0,.cells 85 true [.pv (.str rn),.any,.olist 3 4 ((o4++(ixO G N2 0 (wb.take j)).1).map Prb.pv)]),(1,.mp (mpS (ixO G N2 0 (wb.take j)).2))]) (fun j=>j<=wb.length) (fun j=>wb.length - j) (0) ?_;intro e0 σ0 n0 h0;simp(maxSteps:=9^7) (disch:=try exact dI) only[push_cast,seval] at h0;obtain⟨rfl,rfl,rfl⟩:=h0;refine⟨?_,?_,?_⟩
         ·simp(maxSteps:=9^7) (disch:=try exact dI) only[cu,Xc,push_cast,seval]
         ·omega
         intro j hj
         by_cases hlj:j<wb.length
         ·have hljI:(j:Int)<wb.length:=by omega
          obtain⟨b,hb⟩:∃ b,wb[j]? = some b:=⟨_,WT hlj⟩
          have hbm:=WV hb
          have hsn:=bK G N2 hb
          have hgl:=ca G (42*cnt n) wb N2 j hlj 3 hb1 hGl
          have hGb:=congrFun (congrFun (congrFun hG (ixO G N2 0 (wb.take j)).2) b) j
          generalize hB2:ixO G N2 0 (wb.take (j+1))=B2 at *
          generalize ixO G N2 0 (wb.take j)=B at *
          obtain⟨bo,bN⟩:=B
          simp only at hsn hgl hGb
          have hcall:=hih b hbm j (by omega) (o4++bo) bN (by rw[W0];omega)
          rw[hGb] at hcall
          have hqj:q.map (PV.int .i64)++[PV.int .i64 (j:Int)]=(q++[(j:Int)]).map (PV.int .i64):=by simp
          have e2:(o4++bo)++(G bN b j).1=o4++B2.1:=by rw[hsn,W7]
          have e3:(G bN b j).2=B2.2:=by rw[hsn]
          rw[e2,e3] at hcall
          generalize o4++bo=o5 at *
          obtain⟨b1,b2⟩:=b
          simp only[Bra.steps] at hcall
          simp(maxSteps:=9^7) (disch:=try exact dI) only[hb,Wh,push_cast,seval]
          refine ab.lentK hcq [] rfl qsZ qsZ ?_
          simp(maxSteps:=9^7) (disch:=try exact dI) only[hqj,push_cast,seval]
          refine ab.lentK hcall [0,1,2,3] rfl (by simp(maxSteps:=9^7) (disch:=try exact dI) only[hqj,push_cast,seval]) (by simp(maxSteps:=9^7) (disch:=try exact dI) only[hqj,NzL.refl,push_cast,seval]) ?_
          simp(maxSteps:=9^7) (disch:=try exact dI) only[push_cast,seval]
          exact⟨j+1,aJ (by simp(maxSteps:=9^7) (disch:=try exact dI) only[hB2,push_cast,seval]),by omega,by omega⟩
         ·have hljI:¬ (j:Int)<wb.length:=by omega
          have hle:wb.take j=wb:=WY (by omega)
          rw[hle]
          simp(maxSteps:=9^7) (disch:=try exact dI) only[push_cast,seval]
          exact⟨0+1,aJ (by simp(maxSteps:=9^7) (disch:=try exact dI) only[hO',hFO,hFN,push_cast,seval]),by omega,by omega⟩
      ·obtain⟨m1,rfl⟩:∃ m',m=m'+1:=⟨m - 1,by omega⟩
       obtain⟨y,hy⟩:∃ y,l[m1]? = some y:=⟨_,WT (by omega)⟩
       rw[KD hy] at a3
       have hey:=En y (hl2 y (WV hy))
       have hmI:(0:Int)<((m1:Int)+1):=by omega
       obtain⟨y1,y2,y3,y4,y5,y6,y7,y8,y9,ya,yb⟩:=y
       generalize de (.mk y1 y2 y3 y4 y5 y6 y7 y8 y9 ya yb)=eb at *
       rw[WF] at hey
       simp(maxSteps:=9^7) (disch:=try exact dI) only[hn0,hN2,hmI,hy,WF,push_cast,seval]
       refine ab.pure hey rfl ?_
       simp(maxSteps:=9^7) (disch:=try exact dI) only[hmI,push_cast,seval]
       refine ab.lentK a3 [0,18] rfl qsZ qsZ ?_
       simp(maxSteps:=9^7) (disch:=try exact dI) only[hn0,push_cast,seval]
       refine ab.lentK hfx [2] rfl (by simp(maxSteps:=9^7) (disch:=try exact dI) only[hn0,push_cast,seval]) qsZ ?_
       simp(maxSteps:=9^7) (disch:=try exact dI) only[push_cast,seval]
       cases fs with
       | true=>
         simp only[if_true] at hFO k4
         simp(maxSteps:=9^7) (disch:=try exact dI) only[push_cast,seval]
         generalize o3++sp=o4 at *
         refine ab.lentK a5 [0,21] rfl qsZ qsZ ?_
         simp(maxSteps:=9^7) (disch:=try exact dI) only[hn0,push_cast,seval]
         refine au ([]) (fun j:Nat=>[(95,.pv (.int .i64 (j:Int)))]) (fun j=>[(0,.cells 85 true [.pv (.str rn),.any,.olist 3 4 ((o4++(ixO G N2 0 (wb.take j)).1).map Prb.pv)]),(1,.mp (mpS (ixO G N2 0 (wb.take j)).2))]) (fun j=>j<=wb.length) (fun j=>wb.length - j) (0) ?_;intro e0 σ0 n0 h0;simp(maxSteps:=9^7) (disch:=try exact dI) only[push_cast,seval] at h0;obtain⟨rfl,rfl,rfl⟩:=h0;refine⟨?_,?_,?_⟩
         ·simp(maxSteps:=9^7) (disch:=try exact dI) only[cu,Xc,push_cast,seval]
         ·omega
         intro j hj
         by_cases hlj:j<wb.length
         ·have hljI:(j:Int)<wb.length:=by omega
          obtain⟨b,hb⟩:∃ b,wb[j]? = some b:=⟨_,WT hlj⟩
          have hbm:=WV hb
          have hsn:=bK G N2 hb
          have hgl:=ca G (42*cnt n) wb N2 j hlj 3 hb1 hGl
          have hGb:=congrFun (congrFun (congrFun hG (ixO G N2 0 (wb.take j)).2) b) j
          generalize hB2:ixO G N2 0 (wb.take (j+1))=B2 at *
          generalize ixO G N2 0 (wb.take j)=B at *
          obtain⟨bo,bN⟩:=B
          simp only at hsn hgl hGb
          have hcall:=hih b hbm j (by omega) (o4++bo) bN (by rw[W0];omega)
          rw[hGb] at hcall
          have hqj:q.map (PV.int .i64)++[PV.int .i64 (j:Int)]=(q++[(j:Int)]).map (PV.int .i64):=by simp
          have e2:(o4++bo)++(G bN b j).1=o4++B2.1:=by rw[hsn,W7]
          have e3:(G bN b j).2=B2.2:=by rw[hsn]
          rw[e2,e3] at hcall
          generalize o4++bo=o5 at *
          obtain⟨b1,b2⟩:=b
          simp only[Bra.steps] at hcall
          simp(maxSteps:=9^7) (disch:=try exact dI) only[hb,Wh,push_cast,seval]
          refine ab.lentK hcq [] rfl qsZ qsZ ?_
          simp(maxSteps:=9^7) (disch:=try exact dI) only[hqj,push_cast,seval]
          refine ab.lentK hcall [0,1,2,3] rfl (by simp(maxSteps:=9^7) (disch:=try exact dI) only[hqj,push_cast,seval]) (by simp(maxSteps:=9^7) (disch:=try exact dI) only[hqj,NzL.refl,push_cast,seval]) ?_
          simp(maxSteps:=9^7) (disch:=try exact dI) only[push_cast,seval]
          exact⟨j+1,aJ (by simp(maxSteps:=9^7) (disch:=try exact dI) only[hB2,push_cast,seval]),by omega,by omega⟩
         ·have hljI:¬ (j:Int)<wb.length:=by omega
          have hle:wb.take j=wb:=WY (by omega)
          rw[hle]
          simp(maxSteps:=9^7) (disch:=try exact dI) only[push_cast,seval]
          exact⟨m1+1+1,aJ (by simp(maxSteps:=9^7) (disch:=try exact dI) only[hO',hFO,hFN,push_cast,seval]),by omega,by omega⟩
       | false=>
         simp only[Bool.false_eq_true,if_false] at hFO k4
         simp(maxSteps:=9^7) (disch:=try exact dI) only[push_cast,seval]
         generalize o3++aG rn q true 5 []=o4 at *
         refine ab.lentK a4 [0,21] rfl qsZ qsZ ?_
         simp(maxSteps:=9^7) (disch:=try exact dI) only[hn0,push_cast,seval]
         refine au ([]) (fun j:Nat=>[(95,.pv (.int .i64 (j:Int)))]) (fun j=>[(0,.cells 85 true [.pv (.str rn),.any,.olist 3 4 ((o4++(ixO G N2 0 (wb.take j)).1).map Prb.pv)]),(1,.mp (mpS (ixO G N2 0 (wb.take j)).2))]) (fun j=>j<=wb.length) (fun j=>wb.length - j) (0) ?_;intro e0 σ0 n0 h0;simp(maxSteps:=9^7) (disch:=try exact dI) only[push_cast,seval] at h0;obtain⟨rfl,rfl,rfl⟩:=h0;refine⟨?_,?_,?_⟩
         ·simp(maxSteps:=9^7) (disch:=try exact dI) only[cu,Xc,push_cast,seval]
         ·omega
         intro j hj
         by_cases hlj:j<wb.length
         ·have hljI:(j:Int)<wb.length:=by omega
          obtain⟨b,hb⟩:∃ b,wb[j]? = some b:=⟨_,WT hlj⟩
          have hbm:=WV hb
          have hsn:=bK G N2 hb
          have hgl:=ca G (42*cnt n) wb N2 j hlj 3 hb1 hGl
          have hGb:=congrFun (congrFun (congrFun hG (ixO G N2 0 (wb.take j)).2) b) j
          generalize hB2:ixO G N2 0 (wb.take (j+1))=B2 at *
          generalize ixO G N2 0 (wb.take j)=B at *
          obtain⟨bo,bN⟩:=B
          simp only at hsn hgl hGb
          have hcall:=hih b hbm j (by omega) (o4++bo) bN (by rw[W0];omega)
          rw[hGb] at hcall
          have hqj:q.map (PV.int .i64)++[PV.int .i64 (j:Int)]=(q++[(j:Int)]).map (PV.int .i64):=by simp
          have e2:(o4++bo)++(G bN b j).1=o4++B2.1:=by rw[hsn,W7]
          have e3:(G bN b j).2=B2.2:=by rw[hsn]
          rw[e2,e3] at hcall
          generalize o4++bo=o5 at *
          obtain⟨b1,b2⟩:=b
          simp only[Bra.steps] at hcall
          simp(maxSteps:=9^7) (disch:=try exact dI) only[hb,Wh,push_cast,seval]
          refine ab.lentK hcq [] rfl qsZ qsZ ?_
          simp(maxSteps:=9^7) (disch:=try exact dI) only[hqj,push_cast,seval]
          refine ab.lentK hcall [0,1,2,3] rfl (by simp(maxSteps:=9^7) (disch:=try exact dI) only[hqj,push_cast,seval]) (by simp(maxSteps:=9^7) (disch:=try exact dI) only[hqj,NzL.refl,push_cast,seval]) ?_
          simp(maxSteps:=9^7) (disch:=try exact dI) only[push_cast,seval]
          exact⟨j+1,aJ (by simp(maxSteps:=9^7) (disch:=try exact dI) only[hB2,push_cast,seval]),by omega,by omega⟩
         ·have hljI:¬ (j:Int)<wb.length:=by omega
          have hle:wb.take j=wb:=WY (by omega)
          rw[hle]
          simp(maxSteps:=9^7) (disch:=try exact dI) only[push_cast,seval]
          exact⟨m1+1+1,aJ (by simp(maxSteps:=9^7) (disch:=try exact dI) only[hO',hFO,hFN,push_cast,seval]),by omega,by omega⟩
    ·have hltI:¬ (m:Int)<l.length:=by omega
     have hle:l.take m=l:=WY (by omega)
     rw[hle]
     simp(maxSteps:=9^7) (disch:=try exact dI) only[push_cast,seval]
     exact aH [] qsZ
