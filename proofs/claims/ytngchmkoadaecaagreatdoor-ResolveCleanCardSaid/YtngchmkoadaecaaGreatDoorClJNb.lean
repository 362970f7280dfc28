/- A part. -/
import Derived.Test.YtngchmkoadaecaaGreatDoorClJN9
import Derived.Test.YtngchmkoadaecaaGreatDoorClJNa
set_option linter.unusedVariables false
set_option linter.unusedSimpArgs false
set_option maxHeartbeats 16000000
set_option maxRecDepth 100000
open Nat renaming le_trans->UX,mul_le_mul_right->UA,le_refl->UI
open List renaming append_nil->UU,length_append->Uy,getElem?_eq_getElem->Uq,mem_of_getElem?->Us,mem_append->UY,append_assoc->UB,cons_append->U2,nil_append->UV,take_of_length_le->Ux
namespace Go.Proofs.YtngchmkoadaecaaGreatDoor
open Go Go.Ab
theorem tm (p:List Int)(hm:p.length<=1000000):bA Tryz.prog aB 0 85 [.pv (.list (p.map (PV.int .i64)))] [] (.olist 0 1 (p.map (PV.int .i64))) [.tok 3 1]:=by
 refine bA.intro Q85.2 (by simp[Q85]) ?_
 cases p with
 | nil=>
   simp(maxSteps:=9^7) (disch:=try exact dI) only[Q85,push_cast,seval]
   intro b
   cases b
   ·simp(maxSteps:=9^7) (disch:=try exact dI) only[push_cast,seval]
    exact aI [] qsZ
   ·simp(maxSteps:=9^7) (disch:=try exact dI) only[push_cast,seval]
    exact aI [(0,0,3,1)] qsZ
 | cons x r=>
   rw[List.length_cons] at hm
   simp(maxSteps:=9^7) (disch:=try exact dI) only[Q85,push_cast,seval]
   exact aI [] qsZ
def Jb (p:Prg)(route:Int)(rn:List UInt8)(n:Nat):Prop:=∀ (pl:List Int) (l:List Stp) (N:NS) (out:List Prb),Bnd n l->M6 n l->okL l->pl.length+2*n<=900->(∀ x∈pl,I64 x)->out.length+42*cnt n<=9000000000 ->
 bA Tryz.prog aB 3 36 [.ptr 0 0,.pv p.pv,.pv (.int .i64 route),.pv (.list (l.map Stp.pv)),.mp 1,.mp 2] [fD rn pl out 3,.mp (mpS N),.mp aT,.tok 82 4] (.pv (.tup []))
  [fD rn pl (out++(bx aE p route rn n pl l N).1) 3,.mp (mpS (bx aE p route rn n pl l N).2),.mp aT,.tok 82 4]
theorem ID (l:List Stp):iW l 0=false:=by simp[iW]
theorem IE {l:List Stp}{m:Nat}{y:Stp}(h:l[m]? = some y):iW l (m+1)=ey y:=by simp[iW,h,wL]
theorem bQ {α:Type}(F:NS->α->Nat->List Prb×NS)(c:Nat)(l:List α)(N:NS)(m:Nat)(hl:m<l.length)(k:Nat)(hk:l.length<=k+1)(h:∀ x∈l,∀ N i,(F N x i).1.length<=c):(ixO F N 0 (l.take m)).1.length<=k*c:=
 UX (dG F c (l.take m) N 0 fun x hx=>h x (List.mem_of_mem_take hx)) (UA _ (by rw[List.length_take];omega))
theorem JH (p:Prg)(hok:p.ok)(route:Int)(hr:I64 route)(rn:List UInt8):∀ n:Nat,Jb p route rn n:=by
 intro n
 induction n with
 | zero=>
   intro pl l N out hB hC hl hp hI ho
   obtain rfl:l=[]:=hB
   have e0:bx aE p route rn 0 pl [] N=([],N):=by simp[bx]
   rw[e0]
   simp only[UU,fD]
   generalize aT=RL
   obtain⟨pv,ps,pe,pw,pr⟩:=p
   refine bA.intro Q36.2 (by simp[Q36]) ?_
   simp(maxSteps:=9^7) (disch:=try exact dI) only[Q36,T4,push_cast,seval]
   refine aw ([]) (fun m:Nat=>[]) (fun m=>[]) (fun m=>m=0) (fun m=>m) (0) ?_;intro e0 σ0 n0 h0;simp(maxSteps:=9^7) (disch:=try exact dI) only[push_cast,seval] at h0;obtain⟨rfl,rfl,rfl⟩:=h0;refine⟨?_,?_,?_⟩
   ·simp(maxSteps:=9^7) (disch:=try exact dI) only[push_cast,seval]
   ·rfl
   ·intro m hm
    simp(maxSteps:=9^7) (disch:=try exact dI) only[push_cast,seval]
    exact aI [] qsZ
 | succ n ih=>
   intro pl l N out hB hC hl hp hI ho
   obtain⟨hB1,hB2⟩:=hB
   obtain⟨hl1,hl2⟩:=hl
   rw[bx]
   generalize hF:(fun (N:NS) (s:Stp) (i:Nat)=>
    ((stO aE p route rn N s (pl++[(i:Int)]) (aL rn (pl++[(i:Int)]) (iW l i) 7 [])).1 ++
      (ixO (fun N b j=>bx aE p route rn n ((pl++[(i:Int)])++[(j:Int)]) (Bra.steps b) N) (stO aE p route rn N s (pl++[(i:Int)]) (aL rn (pl++[(i:Int)]) (iW l i) 7 [])).2 0 s.branches).1,
     (ixO (fun N b j=>bx aE p route rn n ((pl++[(i:Int)])++[(j:Int)]) (Bra.steps b) N) (stO aE p route rn N s (pl++[(i:Int)]) (aL rn (pl++[(i:Int)]) (iW l i) 7 [])).2 0 s.branches).2))=F
   have hFl:∀ x∈l,∀ N i,(F N x i).1.length<=42*(1+4*cnt n):=by
    intro s hs N i
    rw[<- hF]
    obtain⟨h3,h4⟩:=hB2 s hs
    obtain⟨h5,h6⟩:=hC s hs
    have ha:=zf aE p route rn N s (pl++[(i:Int)]) (aL rn (pl++[(i:Int)]) (iW l i) 7 []) h5 (am _ _ _ _ _)
    have hb:=dG (fun N b j=>bx aE p route rn n ((pl++[(i:Int)])++[(j:Int)]) (Bra.steps b) N) (42*cnt n) s.branches (stO aE p route rn N s (pl++[(i:Int)]) (aL rn (pl++[(i:Int)]) (iW l i) 7 [])).2 0
     fun b hb N j=>fl aE p route rn n _ _ N (h4 b hb) (h6 b hb)
    have h7:s.branches.length*(42*cnt n)<=4*(42*cnt n):=UA _ h3
    simp only[Uy]
    omega
   simp only[cnt] at ho
   have hppv:∃ pc,p.pv = .agg pc/\pc.length=5/\∀ q∈pc,q.one=true:=p.row
   have hst:=fun (s:Stp) (hs:s.ok) (q:List Int) (o:List Prb) (h1:q.length<=1000000) (h2:o.length<=10000000000) (h3:s.calls.length<=18)=>NG p s rn q o hok hs h1 h2 h3
   have hfm:=fun (s:Stp) (hs:s.ok)=>Pa s hs
   have hib:=ih
   unfold Jb at hib
   obtain⟨pv,ps,pe,pw,pr⟩:=p
   generalize aT=RL at *
   simp only[T4] at hib hst
   refine bA.intro Q36.2 (by simp[Q36]) ?_
   simp only[fD] at *
   simp(maxSteps:=9^7) (disch:=try exact dI) only[Q36,T4,push_cast,seval]
   refine aw ([]) (fun m:Nat=>[(25,.pv (.int .i64 (m:Int)))]) (fun m=>[(0,.cells 85 true [.pv (.str rn),.any,.olist 3 4 ((out++(ixO F N 0 (l.take m)).1).map Prb.pv)]),(1,.mp (mpS (ixO F N 0 (l.take m)).2))]) (fun m=>m<=l.length) (fun m=>l.length - m) (0) ?_;intro e0 σ0 n0 h0;simp(maxSteps:=9^7) (disch:=try exact dI) only[push_cast,seval] at h0;obtain⟨rfl,rfl,rfl⟩:=h0;refine⟨?_,?_,?_⟩
   ·simp(maxSteps:=9^7) (disch:=try exact dI) only[cL,UU,push_cast,seval]
   ·omega
   ·intro m hm
    by_cases hlt:m<l.length
    ·have hltI:(m:Int)<l.length:=by omega
     obtain⟨x,hx⟩:∃ x,l[m]? = some x:=⟨_,Uq hlt⟩
     have hxm:=Us hx
     have hxo:=hl2 x hxm
     obtain⟨hb1,hb2⟩:=hB2 x hxm
     obtain⟨hc1,hc2⟩:=hC x hxm
     have hsn:=bX F N hx
     have hol:=bQ F (42*(1+4*cnt n)) l N m hlt 7 hB1 hFl
     obtain⟨q,hq⟩:∃ q:List Int,q=pl++[(m:Int)]:=⟨_,rfl⟩
     have hql:q.length=pl.length+1:=by rw[hq];simp
     have hqI:∀ x∈q,I64 x:=by
      intro x hx
      rw[hq] at hx
      rcases UY.1 hx with hx | hx
      ·exact hI x hx
      ·rw[List.mem_singleton] at hx;subst hx;unfold I64;omega
     have hcl:=tm pl (by omega)
     have hcq:=tm q (by omega)
     have hqm:pl.map (PV.int .i64)++[PV.int .i64 (m:Int)]=q.map (PV.int .i64):=by rw[hq];simp
     have hnm:=Gr (.mk route q x) hr (by simp only[Wkd.place];omega) (by simpa only[Wkd.place] using hqI)
     simp only[Wkd.route,Wkd.place,Wkd.step] at hnm
     have hFx:=congrFun (congrFun (congrFun hF (ixO F N 0 (l.take m)).2) x) m
     simp only[<- hq,stO] at hFx
     generalize hO':ixO F N 0 (l.take (m+1))=O' at *
     generalize ixO F N 0 (l.take m)=O at *
     obtain⟨oo,N1⟩:=O
     simp only at hsn hol hFx
     generalize nmW route q x=nm at *
     generalize hN2:ff N1 nm=N2 at *
     generalize hG:(fun (N:NS) (b:Bra) (j:Nat)=>bx aE ⟨pv,ps,pe,pw,pr⟩ route rn n (q++[(j:Int)]) (Bra.steps b) N)=G at *
     have hGl:∀ b∈x.branches,∀ N j,(G N b j).1.length<=42*cnt n:=fun b hb N j=>by
      rw[<- hG];exact fl aE _ route rn n _ _ N (hb2 b hb) (hc2 b hb)
     have hnB:=gz x.name
     have hstx:=hst x hxo q
     have hfx:=hfm x hxo
     generalize hfs:eN x=fs at *
     generalize hpx:JF ⟨pv,ps,pe,pw,pr⟩ rn q x=sp at *
     have hspl:sp.length<=39:=by rw[<- hpx];exact se _ _ _ _ hc1
     have ho0:(out++oo).length+42*(1+4*cnt n)<=9000000000:=by rw[Uy];omega
     obtain⟨w1,w2,w3,w4,w5,w6,w7,w8,w9,wa,wb⟩:=x
     simp only[Stp.name,Stp.branches,Stp.calls] at hnB hFx hb1 hb2 hc1 hc2 hGl hstx
     have hwo:=hxo
     rw[Uc] at hwo
     have hwb:=hwo.2.2.2.2.2.2.2.2.2.2.2.2.2.2
     clear hwo
     unfold stF at hFx
     have a1:=bp rn q (out++oo) (!decide (w1=[])&&!aE w1) 1 w1 (by omega) (by omega)
     have k1:=aD (UI (out++oo).length) (am rn q (!decide (w1=[])&&!aE w1) 1 w1)
     generalize hA1:aL rn q (!decide (w1=[])&&!aE w1) 1 w1=A1 at *
     have a2:=bp rn q ((out++oo)++A1) (decide (nm∈N1)) 2 nm (by omega) (by omega)
     have k2:=aD (UI ((out++oo)++A1).length) (am rn q (decide (nm∈N1)) 2 nm)
     generalize hA2:aL rn q (decide (nm∈N1)) 2 nm=A2 at *
     have a3:=bp rn q (((out++oo)++A1)++A2) (iW l m) 7 [] (by omega) (by omega)
     have k3:=aD (UI (((out++oo)++A1)++A2).length) (am rn q (iW l m) 7 [])
     generalize hA3:aL rn q (iW l m) 7 []=A3 at *
     have a4:=bp rn q ((((out++oo)++A1)++A2)++A3) true 5 [] (by omega) (by omega)
     have a5:=hstx ((((out++oo)++A1)++A2)++A3) (by omega) (by omega) hc1
     have hFO:out++O'.1=(((((out++oo)++A1)++A2)++A3)++(if fs=true then sp else aL rn q true 5 []))++(ixO G N2 0 wb).1:=by
      rw[hsn,<- hFx];simp only[UB]
     have hFN:O'.2=(ixO G N2 0 wb).2:=by rw[hsn,<- hFx]
     clear hsn hFx hA1 hA2 hA3
     have k4:(((((out++oo)++A1)++A2)++A3)++(if fs=true then sp else aL rn q true 5 [])).length<=((((out++oo)++A1)++A2)++A3).length+39:=by
      refine aD (UI _) ?_
      split
      ·exact hspl
      ·exact UX (am _ _ _ _ _) (by omega)
     generalize ((((out++oo)++A1)++A2)++A3)=o3 at *
     generalize (((out++oo)++A1)++A2)=o2 at *
     generalize ((out++oo)++A1)=o1 at *
     generalize out++oo=o0 at *
     simp only[fD] at a1 a2 a3 a4 a5
     have hih:=fun (b:Bra) (hb:b∈wb) (j:Nat) (hj:j<10) (o:List Prb) (N:NS) (ho:o.length+42*cnt n<=9000000000)=>hib (q++[(j:Int)]) b.steps N o (hb2 b hb) (hc2 b hb) (by
       have hbo:=hwb b hb
       obtain⟨b1,b2⟩:=b
       rw[TP] at hbo
       exact⟨hbo.2.2.1,hbo.2.2.2⟩) (by simp;omega) (by
       intro x hx
       rcases UY.1 hx with hx | hx
       ·exact hqI x hx
       ·rw[List.mem_singleton] at hx;subst hx;unfold I64;omega) ho
     clear hib hst hfm hB2 hC ih
     by_cases hn0:w1=[]
     ·subst hn0
      have e1:(!decide (([]:List UInt8)=[])&&!aE [])=false:=by simp
      rw[e1] at a1
      simp(maxSteps:=9^7) (disch:=try exact dI) only[hx,Ud,push_cast,seval]
      refine ab.lentK hcl [] rfl qsZ qsZ ?_
      simp(maxSteps:=9^7) (disch:=try exact dI) only[hqm,push_cast,seval]
      simp only[Up,Ud,ae,U2,UV] at hnm
      simp only[Ud] at hfx a5
      refine ab.pure hnm rfl ?_
      simp(maxSteps:=9^7) (disch:=try exact dI) only[hx,push_cast,seval]
      refine ab.lentK a1 [0,3] rfl qsZ (by simp(maxSteps:=9^7) (disch:=try exact dI) only[NzL.refl,push_cast,seval]) ?_
      simp(maxSteps:=9^7) (disch:=try exact dI) only[hx,push_cast,seval]
      refine ab.lentK a2 [0,15] rfl qsZ qsZ ?_
      by_cases hm0:m=0
      ·subst hm0
       rw[ID l] at a3
       simp(maxSteps:=9^7) (disch:=try exact dI) only[hx,hN2,push_cast,seval]
       refine ab.lentK a3 [0,17] rfl qsZ qsZ ?_
       simp(maxSteps:=9^7) (disch:=try exact dI) only[hx,push_cast,seval]
       refine ab.lentK hfx [2] rfl (by simp(maxSteps:=9^7) (disch:=try exact dI) only[hx,push_cast,seval]) qsZ ?_
       simp(maxSteps:=9^7) (disch:=try exact dI) only[push_cast,seval]
       cases fs with
       | true=>
         simp only[if_true] at hFO k4
         simp(maxSteps:=9^7) (disch:=try exact dI) only[push_cast,seval]
         generalize o3++sp=o4 at *
         refine ab.lentK a5 [0,19] rfl qsZ qsZ ?_
         simp(maxSteps:=9^7) (disch:=try exact dI) only[hx,push_cast,seval]
         refine aw ([]) (fun j:Nat=>[(95,.pv (.int .i64 (j:Int)))]) (fun j=>[(0,.cells 85 true [.pv (.str rn),.any,.olist 3 4 ((o4++(ixO G N2 0 (wb.take j)).1).map Prb.pv)]),(1,.mp (mpS (ixO G N2 0 (wb.take j)).2))]) (fun j=>j<=wb.length) (fun j=>wb.length - j) (0) ?_;intro e0 σ0 n0 h0;simp(maxSteps:=9^7) (disch:=try exact dI) only[push_cast,seval] at h0;obtain⟨rfl,rfl,rfl⟩:=h0;refine⟨?_,?_,?_⟩
         ·simp(maxSteps:=9^7) (disch:=try exact dI) only[cL,UU,push_cast,seval]
         ·omega
         intro j hj
         by_cases hlj:j<wb.length
         ·have hljI:(j:Int)<wb.length:=by omega
          obtain⟨b,hb⟩:∃ b,wb[j]? = some b:=⟨_,Uq hlj⟩
          have hbm:=Us hb
          have hsn:=bX G N2 hb
          have hgl:=bQ G (42*cnt n) wb N2 j hlj 3 hb1 hGl
          have hGb:=congrFun (congrFun (congrFun hG (ixO G N2 0 (wb.take j)).2) b) j
          generalize hB2:ixO G N2 0 (wb.take (j+1))=B2 at *
          generalize ixO G N2 0 (wb.take j)=B at *
          obtain⟨bo,bN⟩:=B
          simp only at hsn hgl hGb
          have hcall:=hih b hbm j (by omega) (o4++bo) bN (by rw[Uy];omega)
          rw[hGb] at hcall
          have hqj:q.map (PV.int .i64)++[PV.int .i64 (j:Int)]=(q++[(j:Int)]).map (PV.int .i64):=by simp
          have e2:(o4++bo)++(G bN b j).1=o4++B2.1:=by rw[hsn,UB]
          have e3:(G bN b j).2=B2.2:=by rw[hsn]
          rw[e2,e3] at hcall
          generalize o4++bo=o5 at *
          obtain⟨b1,b2⟩:=b
          simp only[Bra.steps] at hcall
          simp(maxSteps:=9^7) (disch:=try exact dI) only[hb,TQ,push_cast,seval]
          refine ab.lentK hcq [] rfl qsZ qsZ ?_
          simp(maxSteps:=9^7) (disch:=try exact dI) only[hqj,push_cast,seval]
          refine ab.lentK hcall [0,1,2,3] rfl (by simp(maxSteps:=9^7) (disch:=try exact dI) only[hqj,push_cast,seval]) (by simp(maxSteps:=9^7) (disch:=try exact dI) only[hqj,NzL.refl,push_cast,seval]) ?_
          simp(maxSteps:=9^7) (disch:=try exact dI) only[push_cast,seval]
          exact⟨j+1,aN (by simp(maxSteps:=9^7) (disch:=try exact dI) only[hB2,push_cast,seval]),by omega,by omega⟩
         ·have hljI:¬ (j:Int)<wb.length:=by omega
          have hle:wb.take j=wb:=Ux (by omega)
          rw[hle]
          simp(maxSteps:=9^7) (disch:=try exact dI) only[push_cast,seval]
          exact⟨0+1,aN (by simp(maxSteps:=9^7) (disch:=try exact dI) only[hO',hFO,hFN,push_cast,seval]),by omega,by omega⟩
       | false=>
         simp only[Bool.false_eq_true,if_false] at hFO k4
         simp(maxSteps:=9^7) (disch:=try exact dI) only[push_cast,seval]
         generalize o3++aL rn q true 5 []=o4 at *
         refine ab.lentK a4 [0,19] rfl qsZ qsZ ?_
         simp(maxSteps:=9^7) (disch:=try exact dI) only[hx,push_cast,seval]
         refine aw ([]) (fun j:Nat=>[(95,.pv (.int .i64 (j:Int)))]) (fun j=>[(0,.cells 85 true [.pv (.str rn),.any,.olist 3 4 ((o4++(ixO G N2 0 (wb.take j)).1).map Prb.pv)]),(1,.mp (mpS (ixO G N2 0 (wb.take j)).2))]) (fun j=>j<=wb.length) (fun j=>wb.length - j) (0) ?_;intro e0 σ0 n0 h0;simp(maxSteps:=9^7) (disch:=try exact dI) only[push_cast,seval] at h0;obtain⟨rfl,rfl,rfl⟩:=h0;refine⟨?_,?_,?_⟩
         ·simp(maxSteps:=9^7) (disch:=try exact dI) only[cL,UU,push_cast,seval]
         ·omega
         intro j hj
         by_cases hlj:j<wb.length
         ·have hljI:(j:Int)<wb.length:=by omega
          obtain⟨b,hb⟩:∃ b,wb[j]? = some b:=⟨_,Uq hlj⟩
          have hbm:=Us hb
          have hsn:=bX G N2 hb
          have hgl:=bQ G (42*cnt n) wb N2 j hlj 3 hb1 hGl
          have hGb:=congrFun (congrFun (congrFun hG (ixO G N2 0 (wb.take j)).2) b) j
          generalize hB2:ixO G N2 0 (wb.take (j+1))=B2 at *
          generalize ixO G N2 0 (wb.take j)=B at *
          obtain⟨bo,bN⟩:=B
          simp only at hsn hgl hGb
          have hcall:=hih b hbm j (by omega) (o4++bo) bN (by rw[Uy];omega)
          rw[hGb] at hcall
          have hqj:q.map (PV.int .i64)++[PV.int .i64 (j:Int)]=(q++[(j:Int)]).map (PV.int .i64):=by simp
          have e2:(o4++bo)++(G bN b j).1=o4++B2.1:=by rw[hsn,UB]
          have e3:(G bN b j).2=B2.2:=by rw[hsn]
          rw[e2,e3] at hcall
          generalize o4++bo=o5 at *
          obtain⟨b1,b2⟩:=b
          simp only[Bra.steps] at hcall
          simp(maxSteps:=9^7) (disch:=try exact dI) only[hb,TQ,push_cast,seval]
          refine ab.lentK hcq [] rfl qsZ qsZ ?_
          simp(maxSteps:=9^7) (disch:=try exact dI) only[hqj,push_cast,seval]
          refine ab.lentK hcall [0,1,2,3] rfl (by simp(maxSteps:=9^7) (disch:=try exact dI) only[hqj,push_cast,seval]) (by simp(maxSteps:=9^7) (disch:=try exact dI) only[hqj,NzL.refl,push_cast,seval]) ?_
          simp(maxSteps:=9^7) (disch:=try exact dI) only[push_cast,seval]
          exact⟨j+1,aN (by simp(maxSteps:=9^7) (disch:=try exact dI) only[hB2,push_cast,seval]),by omega,by omega⟩
         ·have hljI:¬ (j:Int)<wb.length:=by omega
          have hle:wb.take j=wb:=Ux (by omega)
          rw[hle]
          simp(maxSteps:=9^7) (disch:=try exact dI) only[push_cast,seval]
          exact⟨0+1,aN (by simp(maxSteps:=9^7) (disch:=try exact dI) only[hO',hFO,hFN,push_cast,seval]),by omega,by omega⟩
      ·obtain⟨m1,rfl⟩:∃ m',m=m'+1:=⟨m - 1,by omega⟩
       obtain⟨y,hy⟩:∃ y,l[m1]? = some y:=⟨_,Uq (by omega)⟩
       rw[IE hy] at a3
       have hey:=CO y (hl2 y (Us hy))
       have hmI:(0:Int)<((m1:Int)+1):=by omega
       obtain⟨y1,y2,y3,y4,y5,y6,y7,y8,y9,ya,yb⟩:=y
       generalize ey (.mk y1 y2 y3 y4 y5 y6 y7 y8 y9 ya yb)=eb at *
       rw[Ud] at hey
       simp(maxSteps:=9^7) (disch:=try exact dI) only[hx,hN2,hmI,hy,Ud,push_cast,seval]
       refine ab.pure hey rfl ?_
       simp(maxSteps:=9^7) (disch:=try exact dI) only[hmI,push_cast,seval]
       refine ab.lentK a3 [0,17] rfl qsZ qsZ ?_
       simp(maxSteps:=9^7) (disch:=try exact dI) only[hx,push_cast,seval]
       refine ab.lentK hfx [2] rfl (by simp(maxSteps:=9^7) (disch:=try exact dI) only[hx,push_cast,seval]) qsZ ?_
       simp(maxSteps:=9^7) (disch:=try exact dI) only[push_cast,seval]
       cases fs with
       | true=>
         simp only[if_true] at hFO k4
         simp(maxSteps:=9^7) (disch:=try exact dI) only[push_cast,seval]
         generalize o3++sp=o4 at *
         refine ab.lentK a5 [0,20] rfl qsZ qsZ ?_
         simp(maxSteps:=9^7) (disch:=try exact dI) only[hx,push_cast,seval]
         refine aw ([]) (fun j:Nat=>[(95,.pv (.int .i64 (j:Int)))]) (fun j=>[(0,.cells 85 true [.pv (.str rn),.any,.olist 3 4 ((o4++(ixO G N2 0 (wb.take j)).1).map Prb.pv)]),(1,.mp (mpS (ixO G N2 0 (wb.take j)).2))]) (fun j=>j<=wb.length) (fun j=>wb.length - j) (0) ?_;intro e0 σ0 n0 h0;simp(maxSteps:=9^7) (disch:=try exact dI) only[push_cast,seval] at h0;obtain⟨rfl,rfl,rfl⟩:=h0;refine⟨?_,?_,?_⟩
         ·simp(maxSteps:=9^7) (disch:=try exact dI) only[cL,UU,push_cast,seval]
         ·omega
         intro j hj
         by_cases hlj:j<wb.length
         ·have hljI:(j:Int)<wb.length:=by omega
          obtain⟨b,hb⟩:∃ b,wb[j]? = some b:=⟨_,Uq hlj⟩
          have hbm:=Us hb
          have hsn:=bX G N2 hb
          have hgl:=bQ G (42*cnt n) wb N2 j hlj 3 hb1 hGl
          have hGb:=congrFun (congrFun (congrFun hG (ixO G N2 0 (wb.take j)).2) b) j
          generalize hB2:ixO G N2 0 (wb.take (j+1))=B2 at *
          generalize ixO G N2 0 (wb.take j)=B at *
          obtain⟨bo,bN⟩:=B
          simp only at hsn hgl hGb
          have hcall:=hih b hbm j (by omega) (o4++bo) bN (by rw[Uy];omega)
          rw[hGb] at hcall
          have hqj:q.map (PV.int .i64)++[PV.int .i64 (j:Int)]=(q++[(j:Int)]).map (PV.int .i64):=by simp
          have e2:(o4++bo)++(G bN b j).1=o4++B2.1:=by rw[hsn,UB]
          have e3:(G bN b j).2=B2.2:=by rw[hsn]
          rw[e2,e3] at hcall
          generalize o4++bo=o5 at *
          obtain⟨b1,b2⟩:=b
          simp only[Bra.steps] at hcall
          simp(maxSteps:=9^7) (disch:=try exact dI) only[hb,TQ,push_cast,seval]
          refine ab.lentK hcq [] rfl qsZ qsZ ?_
          simp(maxSteps:=9^7) (disch:=try exact dI) only[hqj,push_cast,seval]
          refine ab.lentK hcall [0,1,2,3] rfl (by simp(maxSteps:=9^7) (disch:=try exact dI) only[hqj,push_cast,seval]) (by simp(maxSteps:=9^7) (disch:=try exact dI) only[hqj,NzL.refl,push_cast,seval]) ?_
          simp(maxSteps:=9^7) (disch:=try exact dI) only[push_cast,seval]
          exact⟨j+1,aN (by simp(maxSteps:=9^7) (disch:=try exact dI) only[hB2,push_cast,seval]),by omega,by omega⟩
         ·have hljI:¬ (j:Int)<wb.length:=by omega
          have hle:wb.take j=wb:=Ux (by omega)
          rw[hle]
          simp(maxSteps:=9^7) (disch:=try exact dI) only[push_cast,seval]
          exact⟨m1+1+1,aN (by simp(maxSteps:=9^7) (disch:=try exact dI) only[hO',hFO,hFN,push_cast,seval]),by omega,by omega⟩
       | false=>
         simp only[Bool.false_eq_true,if_false] at hFO k4
         simp(maxSteps:=9^7) (disch:=try exact dI) only[push_cast,seval]
         generalize o3++aL rn q true 5 []=o4 at *
         refine ab.lentK a4 [0,20] rfl qsZ qsZ ?_
         simp(maxSteps:=9^7) (disch:=try exact dI) only[hx,push_cast,seval]
         refine aw ([]) (fun j:Nat=>[(95,.pv (.int .i64 (j:Int)))]) (fun j=>[(0,.cells 85 true [.pv (.str rn),.any,.olist 3 4 ((o4++(ixO G N2 0 (wb.take j)).1).map Prb.pv)]),(1,.mp (mpS (ixO G N2 0 (wb.take j)).2))]) (fun j=>j<=wb.length) (fun j=>wb.length - j) (0) ?_;intro e0 σ0 n0 h0;simp(maxSteps:=9^7) (disch:=try exact dI) only[push_cast,seval] at h0;obtain⟨rfl,rfl,rfl⟩:=h0;refine⟨?_,?_,?_⟩
         ·simp(maxSteps:=9^7) (disch:=try exact dI) only[cL,UU,push_cast,seval]
         ·omega
         intro j hj
         by_cases hlj:j<wb.length
         ·have hljI:(j:Int)<wb.length:=by omega
          obtain⟨b,hb⟩:∃ b,wb[j]? = some b:=⟨_,Uq hlj⟩
          have hbm:=Us hb
          have hsn:=bX G N2 hb
          have hgl:=bQ G (42*cnt n) wb N2 j hlj 3 hb1 hGl
          have hGb:=congrFun (congrFun (congrFun hG (ixO G N2 0 (wb.take j)).2) b) j
          generalize hB2:ixO G N2 0 (wb.take (j+1))=B2 at *
          generalize ixO G N2 0 (wb.take j)=B at *
          obtain⟨bo,bN⟩:=B
          simp only at hsn hgl hGb
          have hcall:=hih b hbm j (by omega) (o4++bo) bN (by rw[Uy];omega)
          rw[hGb] at hcall
          have hqj:q.map (PV.int .i64)++[PV.int .i64 (j:Int)]=(q++[(j:Int)]).map (PV.int .i64):=by simp
          have e2:(o4++bo)++(G bN b j).1=o4++B2.1:=by rw[hsn,UB]
          have e3:(G bN b j).2=B2.2:=by rw[hsn]
          rw[e2,e3] at hcall
          generalize o4++bo=o5 at *
          obtain⟨b1,b2⟩:=b
          simp only[Bra.steps] at hcall
          simp(maxSteps:=9^7) (disch:=try exact dI) only[hb,TQ,push_cast,seval]
          refine ab.lentK hcq [] rfl qsZ qsZ ?_
          simp(maxSteps:=9^7) (disch:=try exact dI) only[hqj,push_cast,seval]
          refine ab.lentK hcall [0,1,2,3] rfl (by simp(maxSteps:=9^7) (disch:=try exact dI) only[hqj,push_cast,seval]) (by simp(maxSteps:=9^7) (disch:=try exact dI) only[hqj,NzL.refl,push_cast,seval]) ?_
          simp(maxSteps:=9^7) (disch:=try exact dI) only[push_cast,seval]
          exact⟨j+1,aN (by simp(maxSteps:=9^7) (disch:=try exact dI) only[hB2,push_cast,seval]),by omega,by omega⟩
         ·have hljI:¬ (j:Int)<wb.length:=by omega
          have hle:wb.take j=wb:=Ux (by omega)
          rw[hle]
          simp(maxSteps:=9^7) (disch:=try exact dI) only[push_cast,seval]
          exact⟨m1+1+1,aN (by simp(maxSteps:=9^7) (disch:=try exact dI) only[hO',hFO,hFN,push_cast,seval]),by omega,by omega⟩
     ·have e1:(!decide (w1=[])&&!aE w1)=!aE w1:=by rw[decide_eq_false hn0];simp
      rw[e1] at a1
      simp(maxSteps:=9^7) (disch:=try exact dI) only[hx,Ud,push_cast,seval]
      refine ab.lentK hcl [] rfl qsZ qsZ ?_
      simp(maxSteps:=9^7) (disch:=try exact dI) only[hqm,push_cast,seval]
      simp only[Up,Ud,ae,U2,UV] at hnm
      simp only[Ud] at hfx a5
      refine ab.pure hnm rfl ?_
      simp(maxSteps:=9^7) (disch:=try exact dI) only[hn0,push_cast,seval]
      refine au hnB rfl ?_
      simp(maxSteps:=9^7) (disch:=try exact dI) only[hn0,push_cast,seval]
      refine ab.lentK a1 [0,3] rfl (by simp(maxSteps:=9^7) (disch:=try exact dI) only[hn0,push_cast,seval]) (by simp(maxSteps:=9^7) (disch:=try exact dI) only[NzL.refl,push_cast,seval]) ?_
      simp(maxSteps:=9^7) (disch:=try exact dI) only[hn0,push_cast,seval]
      refine ab.lentK a2 [0,16] rfl qsZ qsZ ?_
      by_cases hm0:m=0
      ·subst hm0
       rw[ID l] at a3
       simp(maxSteps:=9^7) (disch:=try exact dI) only[hn0,hN2,push_cast,seval]
       refine ab.lentK a3 [0,18] rfl qsZ qsZ ?_
       simp(maxSteps:=9^7) (disch:=try exact dI) only[hn0,push_cast,seval]
       refine ab.lentK hfx [2] rfl (by simp(maxSteps:=9^7) (disch:=try exact dI) only[hn0,push_cast,seval]) qsZ ?_
       simp(maxSteps:=9^7) (disch:=try exact dI) only[push_cast,seval]
       cases fs with
       | true=>
         simp only[if_true] at hFO k4
         simp(maxSteps:=9^7) (disch:=try exact dI) only[push_cast,seval]
         generalize o3++sp=o4 at *
         refine ab.lentK a5 [0,20] rfl qsZ qsZ ?_
         simp(maxSteps:=9^7) (disch:=try exact dI) only[hn0,push_cast,seval]
         refine aw ([]) (fun j:Nat=>[(95,.pv (.int .i64 (j:Int)))]) (fun j=>[(0,.cells 85 true [.pv (.str rn),.any,.olist 3 4 ((o4++(ixO G N2 0 (wb.take j)).1).map Prb.pv)]),(1,.mp (mpS (ixO G N2 0 (wb.take j)).2))]) (fun j=>j<=wb.length) (fun j=>wb.length - j) (0) ?_;intro e0 σ0 n0 h0;simp(maxSteps:=9^7) (disch:=try exact dI) only[push_cast,seval] at h0;obtain⟨rfl,rfl,rfl⟩:=h0;refine⟨?_,?_,?_⟩
         ·simp(maxSteps:=9^7) (disch:=try exact dI) only[cL,UU,push_cast,seval]
         ·omega
         intro j hj
         by_cases hlj:j<wb.length
         ·have hljI:(j:Int)<wb.length:=by omega
          obtain⟨b,hb⟩:∃ b,wb[j]? = some b:=⟨_,Uq hlj⟩
          have hbm:=Us hb
          have hsn:=bX G N2 hb
          have hgl:=bQ G (42*cnt n) wb N2 j hlj 3 hb1 hGl
          have hGb:=congrFun (congrFun (congrFun hG (ixO G N2 0 (wb.take j)).2) b) j
          generalize hB2:ixO G N2 0 (wb.take (j+1))=B2 at *
          generalize ixO G N2 0 (wb.take j)=B at *
          obtain⟨bo,bN⟩:=B
          simp only at hsn hgl hGb
          have hcall:=hih b hbm j (by omega) (o4++bo) bN (by rw[Uy];omega)
          rw[hGb] at hcall
          have hqj:q.map (PV.int .i64)++[PV.int .i64 (j:Int)]=(q++[(j:Int)]).map (PV.int .i64):=by simp
          have e2:(o4++bo)++(G bN b j).1=o4++B2.1:=by rw[hsn,UB]
          have e3:(G bN b j).2=B2.2:=by rw[hsn]
          rw[e2,e3] at hcall
          generalize o4++bo=o5 at *
          obtain⟨b1,b2⟩:=b
          simp only[Bra.steps] at hcall
          simp(maxSteps:=9^7) (disch:=try exact dI) only[hb,TQ,push_cast,seval]
          refine ab.lentK hcq [] rfl qsZ qsZ ?_
          simp(maxSteps:=9^7) (disch:=try exact dI) only[hqj,push_cast,seval]
          refine ab.lentK hcall [0,1,2,3] rfl (by simp(maxSteps:=9^7) (disch:=try exact dI) only[hqj,push_cast,seval]) (by simp(maxSteps:=9^7) (disch:=try exact dI) only[hqj,NzL.refl,push_cast,seval]) ?_
          simp(maxSteps:=9^7) (disch:=try exact dI) only[push_cast,seval]
          exact⟨j+1,aN (by simp(maxSteps:=9^7) (disch:=try exact dI) only[hB2,push_cast,seval]),by omega,by omega⟩
         ·have hljI:¬ (j:Int)<wb.length:=by omega
          have hle:wb.take j=wb:=Ux (by omega)
          rw[hle]
          simp(maxSteps:=9^7) (disch:=try exact dI) only[push_cast,seval]
          exact⟨0+1,aN (by simp(maxSteps:=9^7) (disch:=try exact dI) only[hO',hFO,hFN,push_cast,seval]),by omega,by omega⟩
       | false=>
         simp only[Bool.false_eq_true,if_false] at hFO k4
         simp(maxSteps:=9^7) (disch:=try exact dI) only[push_cast,seval]
         generalize o3++aL rn q true 5 []=o4 at *
         refine ab.lentK a4 [0,20] rfl qsZ qsZ ?_
         simp(maxSteps:=9^7) (disch:=try exact dI) only[hn0,push_cast,seval]
         refine aw ([]) (fun j:Nat=>[(95,.pv (.int .i64 (j:Int)))]) (fun j=>[(0,.cells 85 true [.pv (.str rn),.any,.olist 3 4 ((o4++(ixO G N2 0 (wb.take j)).1).map Prb.pv)]),(1,.mp (mpS (ixO G N2 0 (wb.take j)).2))]) (fun j=>j<=wb.length) (fun j=>wb.length - j) (0) ?_;intro e0 σ0 n0 h0;simp(maxSteps:=9^7) (disch:=try exact dI) only[push_cast,seval] at h0;obtain⟨rfl,rfl,rfl⟩:=h0;refine⟨?_,?_,?_⟩
         ·simp(maxSteps:=9^7) (disch:=try exact dI) only[cL,UU,push_cast,seval]
         ·omega
         intro j hj
         by_cases hlj:j<wb.length
         ·have hljI:(j:Int)<wb.length:=by omega
          obtain⟨b,hb⟩:∃ b,wb[j]? = some b:=⟨_,Uq hlj⟩
          have hbm:=Us hb
          have hsn:=bX G N2 hb
          have hgl:=bQ G (42*cnt n) wb N2 j hlj 3 hb1 hGl
          have hGb:=congrFun (congrFun (congrFun hG (ixO G N2 0 (wb.take j)).2) b) j
          generalize hB2:ixO G N2 0 (wb.take (j+1))=B2 at *
          generalize ixO G N2 0 (wb.take j)=B at *
          obtain⟨bo,bN⟩:=B
          simp only at hsn hgl hGb
          have hcall:=hih b hbm j (by omega) (o4++bo) bN (by rw[Uy];omega)
          rw[hGb] at hcall
          have hqj:q.map (PV.int .i64)++[PV.int .i64 (j:Int)]=(q++[(j:Int)]).map (PV.int .i64):=by simp
          have e2:(o4++bo)++(G bN b j).1=o4++B2.1:=by rw[hsn,UB]
          have e3:(G bN b j).2=B2.2:=by rw[hsn]
          rw[e2,e3] at hcall
          generalize o4++bo=o5 at *
          obtain⟨b1,b2⟩:=b
          simp only[Bra.steps] at hcall
          simp(maxSteps:=9^7) (disch:=try exact dI) only[hb,TQ,push_cast,seval]
          refine ab.lentK hcq [] rfl qsZ qsZ ?_
          simp(maxSteps:=9^7) (disch:=try exact dI) only[hqj,push_cast,seval]
          refine ab.lentK hcall [0,1,2,3] rfl (by simp(maxSteps:=9^7) (disch:=try exact dI) only[hqj,push_cast,seval]) (by simp(maxSteps:=9^7) (disch:=try exact dI) only[hqj,NzL.refl,push_cast,seval]) ?_
          simp(maxSteps:=9^7) (disch:=try exact dI) only[push_cast,seval]
          exact⟨j+1,aN (by simp(maxSteps:=9^7) (disch:=try exact dI) only[hB2,push_cast,seval]),by omega,by omega⟩
         ·have hljI:¬ (j:Int)<wb.length:=by omega
          have hle:wb.take j=wb:=Ux (by omega)
          rw[hle]
          simp(maxSteps:=9^7) (disch:=try exact dI) only[push_cast,seval]
          exact⟨0+1,aN (by simp(maxSteps:=9^7) (disch:=try exact dI) only[hO',hFO,hFN,push_cast,seval]),by omega,by omega⟩
      ·obtain⟨m1,rfl⟩:∃ m',m=m'+1:=⟨m - 1,by omega⟩
       obtain⟨y,hy⟩:∃ y,l[m1]? = some y:=⟨_,Uq (by omega)⟩
       rw[IE hy] at a3
       have hey:=CO y (hl2 y (Us hy))
       have hmI:(0:Int)<((m1:Int)+1):=by omega
       obtain⟨y1,y2,y3,y4,y5,y6,y7,y8,y9,ya,yb⟩:=y
       generalize ey (.mk y1 y2 y3 y4 y5 y6 y7 y8 y9 ya yb)=eb at *
       rw[Ud] at hey
       simp(maxSteps:=9^7) (disch:=try exact dI) only[hn0,hN2,hmI,hy,Ud,push_cast,seval]
       refine ab.pure hey rfl ?_
       simp(maxSteps:=9^7) (disch:=try exact dI) only[hmI,push_cast,seval]
       refine ab.lentK a3 [0,18] rfl qsZ qsZ ?_
       simp(maxSteps:=9^7) (disch:=try exact dI) only[hn0,push_cast,seval]
       refine ab.lentK hfx [2] rfl (by simp(maxSteps:=9^7) (disch:=try exact dI) only[hn0,push_cast,seval]) qsZ ?_
       simp(maxSteps:=9^7) (disch:=try exact dI) only[push_cast,seval]
       cases fs with
       | true=>
         simp only[if_true] at hFO k4
         simp(maxSteps:=9^7) (disch:=try exact dI) only[push_cast,seval]
         generalize o3++sp=o4 at *
         refine ab.lentK a5 [0,21] rfl qsZ qsZ ?_
         simp(maxSteps:=9^7) (disch:=try exact dI) only[hn0,push_cast,seval]
         refine aw ([]) (fun j:Nat=>[(95,.pv (.int .i64 (j:Int)))]) (fun j=>[(0,.cells 85 true [.pv (.str rn),.any,.olist 3 4 ((o4++(ixO G N2 0 (wb.take j)).1).map Prb.pv)]),(1,.mp (mpS (ixO G N2 0 (wb.take j)).2))]) (fun j=>j<=wb.length) (fun j=>wb.length - j) (0) ?_;intro e0 σ0 n0 h0;simp(maxSteps:=9^7) (disch:=try exact dI) only[push_cast,seval] at h0;obtain⟨rfl,rfl,rfl⟩:=h0;refine⟨?_,?_,?_⟩
         ·simp(maxSteps:=9^7) (disch:=try exact dI) only[cL,UU,push_cast,seval]
         ·omega
         intro j hj
         by_cases hlj:j<wb.length
         ·have hljI:(j:Int)<wb.length:=by omega
          obtain⟨b,hb⟩:∃ b,wb[j]? = some b:=⟨_,Uq hlj⟩
          have hbm:=Us hb
          have hsn:=bX G N2 hb
          have hgl:=bQ G (42*cnt n) wb N2 j hlj 3 hb1 hGl
          have hGb:=congrFun (congrFun (congrFun hG (ixO G N2 0 (wb.take j)).2) b) j
          generalize hB2:ixO G N2 0 (wb.take (j+1))=B2 at *
          generalize ixO G N2 0 (wb.take j)=B at *
          obtain⟨bo,bN⟩:=B
          simp only at hsn hgl hGb
          have hcall:=hih b hbm j (by omega) (o4++bo) bN (by rw[Uy];omega)
          rw[hGb] at hcall
          have hqj:q.map (PV.int .i64)++[PV.int .i64 (j:Int)]=(q++[(j:Int)]).map (PV.int .i64):=by simp
          have e2:(o4++bo)++(G bN b j).1=o4++B2.1:=by rw[hsn,UB]
          have e3:(G bN b j).2=B2.2:=by rw[hsn]
          rw[e2,e3] at hcall
          generalize o4++bo=o5 at *
          obtain⟨b1,b2⟩:=b
          simp only[Bra.steps] at hcall
          simp(maxSteps:=9^7) (disch:=try exact dI) only[hb,TQ,push_cast,seval]
          refine ab.lentK hcq [] rfl qsZ qsZ ?_
          simp(maxSteps:=9^7) (disch:=try exact dI) only[hqj,push_cast,seval]
          refine ab.lentK hcall [0,1,2,3] rfl (by simp(maxSteps:=9^7) (disch:=try exact dI) only[hqj,push_cast,seval]) (by simp(maxSteps:=9^7) (disch:=try exact dI) only[hqj,NzL.refl,push_cast,seval]) ?_
          simp(maxSteps:=9^7) (disch:=try exact dI) only[push_cast,seval]
          exact⟨j+1,aN (by simp(maxSteps:=9^7) (disch:=try exact dI) only[hB2,push_cast,seval]),by omega,by omega⟩
         ·have hljI:¬ (j:Int)<wb.length:=by omega
          have hle:wb.take j=wb:=Ux (by omega)
          rw[hle]
          simp(maxSteps:=9^7) (disch:=try exact dI) only[push_cast,seval]
          exact⟨m1+1+1,aN (by simp(maxSteps:=9^7) (disch:=try exact dI) only[hO',hFO,hFN,push_cast,seval]),by omega,by omega⟩
       | false=>
         simp only[Bool.false_eq_true,if_false] at hFO k4
         simp(maxSteps:=9^7) (disch:=try exact dI) only[push_cast,seval]
         generalize o3++aL rn q true 5 []=o4 at *
         refine ab.lentK a4 [0,21] rfl qsZ qsZ ?_
         simp(maxSteps:=9^7) (disch:=try exact dI) only[hn0,push_cast,seval]
         refine aw ([]) (fun j:Nat=>[(95,.pv (.int .i64 (j:Int)))]) (fun j=>[(0,.cells 85 true [.pv (.str rn),.any,.olist 3 4 ((o4++(ixO G N2 0 (wb.take j)).1).map Prb.pv)]),(1,.mp (mpS (ixO G N2 0 (wb.take j)).2))]) (fun j=>j<=wb.length) (fun j=>wb.length - j) (0) ?_;intro e0 σ0 n0 h0;simp(maxSteps:=9^7) (disch:=try exact dI) only[push_cast,seval] at h0;obtain⟨rfl,rfl,rfl⟩:=h0;refine⟨?_,?_,?_⟩
         ·simp(maxSteps:=9^7) (disch:=try exact dI) only[cL,UU,push_cast,seval]
         ·omega
         intro j hj
         by_cases hlj:j<wb.length
         ·have hljI:(j:Int)<wb.length:=by omega
          obtain⟨b,hb⟩:∃ b,wb[j]? = some b:=⟨_,Uq hlj⟩
          have hbm:=Us hb
          have hsn:=bX G N2 hb
          have hgl:=bQ G (42*cnt n) wb N2 j hlj 3 hb1 hGl
          have hGb:=congrFun (congrFun (congrFun hG (ixO G N2 0 (wb.take j)).2) b) j
          generalize hB2:ixO G N2 0 (wb.take (j+1))=B2 at *
          generalize ixO G N2 0 (wb.take j)=B at *
          obtain⟨bo,bN⟩:=B
          simp only at hsn hgl hGb
          have hcall:=hih b hbm j (by omega) (o4++bo) bN (by rw[Uy];omega)
          rw[hGb] at hcall
          have hqj:q.map (PV.int .i64)++[PV.int .i64 (j:Int)]=(q++[(j:Int)]).map (PV.int .i64):=by simp
          have e2:(o4++bo)++(G bN b j).1=o4++B2.1:=by rw[hsn,UB]
          have e3:(G bN b j).2=B2.2:=by rw[hsn]
          rw[e2,e3] at hcall
          generalize o4++bo=o5 at *
          obtain⟨b1,b2⟩:=b
          simp only[Bra.steps] at hcall
          simp(maxSteps:=9^7) (disch:=try exact dI) only[hb,TQ,push_cast,seval]
          refine ab.lentK hcq [] rfl qsZ qsZ ?_
          simp(maxSteps:=9^7) (disch:=try exact dI) only[hqj,push_cast,seval]
          refine ab.lentK hcall [0,1,2,3] rfl (by simp(maxSteps:=9^7) (disch:=try exact dI) only[hqj,push_cast,seval]) (by simp(maxSteps:=9^7) (disch:=try exact dI) only[hqj,NzL.refl,push_cast,seval]) ?_
          simp(maxSteps:=9^7) (disch:=try exact dI) only[push_cast,seval]
          exact⟨j+1,aN (by simp(maxSteps:=9^7) (disch:=try exact dI) only[hB2,push_cast,seval]),by omega,by omega⟩
         ·have hljI:¬ (j:Int)<wb.length:=by omega
          have hle:wb.take j=wb:=Ux (by omega)
          rw[hle]
          simp(maxSteps:=9^7) (disch:=try exact dI) only[push_cast,seval]
          exact⟨m1+1+1,aN (by simp(maxSteps:=9^7) (disch:=try exact dI) only[hO',hFO,hFN,push_cast,seval]),by omega,by omega⟩
    ·have hltI:¬ (m:Int)<l.length:=by omega
     have hle:l.take m=l:=Ux (by omega)
     rw[hle]
     simp(maxSteps:=9^7) (disch:=try exact dI) only[push_cast,seval]
     exact aI [] qsZ
