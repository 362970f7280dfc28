/- A part. -/
import Derived.Test.YtngchmkoadaecaaGreatDoorPbJC
import Derived.Test.YtngchmkoadaecaaGreatDoorPbJTy
set_option linter.unusedVariables false
set_option linter.unusedSimpArgs false
set_option maxHeartbeats 16000000
set_option maxRecDepth 100000
open List renaming length_append->W0,getElem?_eq_getElem->WT,mem_of_getElem?->WV,take->X9,take_of_length_le->WY,map_append->Xe,mem_of_mem_take->XL,length_cons->Xa,length_take->Xf,length_nil->Xn,append_assoc->W7,cons_append->XA,nil_append->Xl,map_nil->XT
open Nat renaming le_trans->Xu,mul_le_mul_right->W8
namespace Go.Proofs.YtngchmkoadaecaaGreatDoor
open Go Go.Ab
def iO (route:Int)(p:List Int)(ws:List Wkd):List Blk:=
 [.cells 35 true [.row 4 1 0 p.length],.cells 141 true [.clo 97 [] [.ptr 3 0,.pv (.eptr [.int .i64 route] 0 0)]],.cells 156 true [.clo 113 [] [.ptr 0 0,.ptr 1 0,.ptr 2 0]],.cells 42 true [.olist 5 13 (ws.map Wkd.pv)],
  .cells 3 false ((p.map (PV.int .i64)).map .pv),.tok 53 13]
theorem gT {α β:Type}(F:α->Nat->List β)(l:List α)(m:Nat):(aF F (l.take m)).length<=(aF F l).length:=by
 have e:aF F l=aF F (l.take m)++((l.drop m).zipIdx (l.take m).length).flatMap fun q=>F q.1 q.2:=by
  conv=>lhs;rw[<- List.take_append_drop m l]
  simp only[aF,List.zipIdx_append,List.flatMap_append,Nat.zero_add]
 rw[e,W0];omega
theorem Gf (route:Int):∀ (n:Nat) (p:List Int) (l:List Stp) (ws:List Wkd),Bnd n l->okL l->p.length+2*n<=1000->ws.length+cnt n<=900000000 ->
  bz Tryz.prog aC 4 113 [.pv (.list (l.map Stp.pv)),.ptr 0 0,.ptr 1 0,.ptr 2 0] (iO route p ws) (.pv (.tup [])) (iO route p (ws++aL route n p l)):=by
 intro n
 induction n with
 | zero=>
   intro p l ws hB hl hp hw
   obtain rfl:l=[]:=hB
   refine bz.intro Lc.2 (by simp[Lc]) ?_
   simp(maxSteps:=9^7) (disch:=try exact dI) only[Lc,iO,aL,push_cast,seval]
   refine au ([]) (fun m:Nat=>[]) (fun m=>[]) (fun m=>m=0) (fun m=>m) (0) ?_;intro e0 σ0 n0 h0;simp(maxSteps:=9^7) (disch:=try exact dI) only[push_cast,seval] at h0;obtain⟨rfl,rfl,rfl⟩:=h0;refine⟨?_,?_,?_⟩
   ·simp(maxSteps:=9^7) (disch:=try exact dI) only[push_cast,seval]
   ·rfl
   ·intro m hm
    simp(maxSteps:=9^7) (disch:=try exact dI) only[push_cast,seval]
    exact aH [] (by simp(maxSteps:=9^7) (disch:=try exact dI) only[iO,push_cast,seval])
 | succ n ih=>
   intro p l ws hB hl hp hw
   have hcw:=bd route (n+1) p l hB
   obtain⟨hB1,hB2⟩:=hB
   obtain⟨hl1,hl2⟩:=hl
   refine bz.intro Lc.2 (by simp[Lc]) ?_
   rw[aL] at hcw ⊢
   generalize hF:(fun (s:Stp) (i:Nat)=>Wkd.mk route (p++[(i:Int)]) s::aF (fun b j=>aL route n ((p++[(i:Int)])++[(j:Int)]) b.steps) s.branches)=F at hcw ⊢
   simp(maxSteps:=9^7) (disch:=try exact dI) only[Lc,iO,push_cast,seval]
   refine au ([]) (fun m:Nat=>[(9,.pv (.int .i64 (m:Int)))]) (fun m=>[(3,.cells 42 true [.olist 5 13 ((ws++aF F (l.take m)).map Wkd.pv)])]) (fun m=>m<=l.length) (fun m=>l.length - m) (0) ?_;intro e0 σ0 n0 h0;simp(maxSteps:=9^7) (disch:=try exact dI) only[push_cast,seval] at h0;obtain⟨rfl,rfl,rfl⟩:=h0;refine⟨?_,?_,?_⟩
   ·simp(maxSteps:=9^7) (disch:=try exact dI) only[aU,push_cast,seval]
   ·omega
   ·intro m hm
    by_cases hlt:m<l.length
    ·have hltI:(m:Int)<l.length:=by omega
     obtain⟨x,hx⟩:∃ x,l[m]? = some x:=⟨_,WT hlt⟩
     have hxo:=hl2 x (WV hx)
     obtain⟨hb1,hb2⟩:=hB2 x (WV hx)
     have hcat:∀ (q:List Int) (k:Int),List.map AV.pv (List.map (PV.int .i64) (X9 (q.length*1) q))++cw [PV.int .i64 k]=List.map AV.pv (List.map (PV.int .i64) (q++[k])):=by
      intro q k
      rw[WY (by omega)]
      simp[cw,PV.cells]
     have hwl:(aF F (l.take m)).length<=cnt (n+1):=Xu (gT F l m) hcw
     have hws:(ws++aF F (l.take m)).length<=900000000:=by rw[W0];omega
     have h92:=PO (p++[(m:Int)]) (by simp) (by simp;omega) (ws++aF F (l.take m)) (by omega) l m x hx hxo route
     have hpl:(p++[(m:Int)]).length=p.length+1:=by simp
     rw[hpl] at h92
     have hcat3:∀ (q:List Int) (k:Int),List.map AV.pv (List.map (PV.int .i64) (X9 (q.length*1) q))++[AV.pv (PV.int .i64 k)]=List.map AV.pv (List.map (PV.int .i64) (q++[k])):=fun q k=>hcat q k
     have hpre:AVzP (List.map AV.pv (List.map (PV.int .i64) (p++[(m:Int)]))) (List.map AV.pv (List.map (PV.int .i64) p)):=by
      rw[Xe,Xe];exact Wd _ _
     have hwl7:(aF F (l.take m)).length<=7*(1+4*cnt n):=Xu (bh F (1+4*cnt n) (l.take m) (fun x hx i=>by
      obtain⟨h3,h4⟩:=hB2 x (XL hx)
      rw[<- hF]
      have:=bh (fun b j=>aL route n ((p++[(i:Int)])++[(j:Int)]) b.steps) (cnt n) x.branches fun b hb j=>bd route n _ _ (h4 b hb)
      have h5:x.branches.length*cnt n<=4*cnt n:=W8 _ h3
      simp only[Xa]
      omega)) (W8 _ (by rw[Xf];omega))
     have hpl2:∀ j:Int,((p++[(m:Int)])++[j]).length=p.length+1+1:=fun j=>by simp
     have hcat2:∀ (k:Int),List.map AV.pv (List.map (PV.int .i64) (X9 ((p.length+1)*1) (p++[(m:Int)])))++cw [PV.int .i64 k]=List.map AV.pv (List.map (PV.int .i64) ((p++[(m:Int)])++[k])):=by
      intro k
      rw[WY (by simp)]
      simp[cw,PV.cells]
     have hFx:=congrFun (congrFun hF x) m
     have hsn:=aN F hx
     obtain⟨x1,x2,x3,x4,x5,x6,x7,x8,x9,x10,k⟩:=x
     simp only[Stp.branches] at hb1 hb2 hFx
     rw[WE] at hxo
     obtain⟨_,_,_,_,_,_,_,_,_,_,_,_,_,hk1,hk2⟩:=hxo
     have hcat4:∀ (k:Int),List.map AV.pv (List.map (PV.int .i64) (X9 ((p.length+1)*1) (p++[(m:Int)])))++[AV.pv (PV.int .i64 k)]=List.map AV.pv (List.map (PV.int .i64) ((p++[(m:Int)])++[k])):=fun k=>hcat2 k
     simp(maxSteps:=9^7) (disch:=try exact dI) only[hx,WF,hcat,push_cast,seval]
     refine ab.lentK h92 [3,8,5] rfl qsZ (by simp(maxSteps:=9^7) (disch:=try exact dI) only[hcat3,push_cast,seval]) ?_
     generalize hW1:(ws++aF F (l.take m))++[Wkd.mk route (p++[(m:Int)]) (.mk x1 x2 x3 x4 x5 x6 x7 x8 x9 x10 k)]=W1
     simp(maxSteps:=9^7) (disch:=try exact dI) only[hx,WF,hW1,push_cast,seval]
     generalize hF2:(fun (b:Bra) (j:Nat)=>aL route n ((p++[(m:Int)])++[(j:Int)]) b.steps)=F2 at hFx
     refine au ([]) (fun j:Nat=>[(28,.pv (.int .i64 (j:Int)))]) (fun j=>[(3,.cells 42 true [.olist 5 13 ((W1++aF F2 (k.take j)).map Wkd.pv)])]) (fun j=>j<=k.length) (fun j=>k.length - j) (0) ?_;intro e0 σ0 n0 h0;simp(maxSteps:=9^7) (disch:=try exact dI) only[push_cast,seval] at h0;obtain⟨rfl,rfl,rfl⟩:=h0;refine⟨?_,?_,?_⟩
     ·simp(maxSteps:=9^7) (disch:=try exact dI) only[aU,push_cast,seval]
     ·omega
     ·intro j hj
      by_cases hlj:j<k.length
      ·have hljI:(j:Int)<k.length:=by omega
       obtain⟨b,hb⟩:∃ b,k[j]? = some b:=⟨_,WT hlj⟩
       have hbo:=hk2 b (WV hb)
       have hbB:=hb2 b (WV hb)
       have hsn2:=aN F2 hb
       have hF2b:=congrFun (congrFun hF2 b) j
       obtain⟨b1,b2⟩:=b
       rw[Wg] at hbo
       simp only[Bra.steps] at hbB hF2b
       have hl3:(aF F2 (k.take j)).length<=3*cnt n:=Xu (bh F2 (cnt n) (k.take j) (fun b hb i=>by rw[<- hF2];exact bd route n _ _ (hb2 b (XL hb)))) (W8 _ (by rw[Xf];omega))
       have hih:=ih ((p++[(m:Int)])++[(j:Int)]) b2 (W1++aF F2 (k.take j)) hbB ⟨hbo.2.2.1,hbo.2.2.2⟩ (by simp;omega) (by rw[W0,<- hW1,W0,W0];simp only[Xa,Xn];simp only[cnt] at hw;omega)
       simp only[iO,hpl2] at hih
       have hpre2:AVzP (List.map AV.pv (List.map (PV.int .i64) (p++[(m:Int),(j:Int)]))) (List.map AV.pv (List.map (PV.int .i64) (p++[(m:Int)]))):=by
        rw[show p++[(m:Int),(j:Int)]=(p++[(m:Int)])++[(j:Int)] by simp,Xe,Xe];exact Wd _ _
       simp(maxSteps:=9^7) (disch:=try exact dI) only[hx,hb,Wh,WF,hcat2,push_cast,seval]
       refine ab.lentK hih [0,1,2,3,8,5] rfl qsZ (by simp(maxSteps:=9^7) (disch:=try exact dI) only[hcat4,W7,XA,Xl,push_cast,seval]) ?_
       simp(maxSteps:=9^7) (disch:=try exact dI) only[hx,hb,Wh,WF,push_cast,seval]
       exact⟨j+1,aJ (by simp(maxSteps:=9^7) (disch:=try exact dI) only[hsn2,<- hF2b,W7,hpre2,push_cast,seval]),by omega,by omega⟩
      ·have hljI:¬ (j:Int)<k.length:=by omega
       have hle:k.take j=k:=WY (by omega)
       simp(maxSteps:=9^7) (disch:=try exact dI) only[hle,push_cast,seval]
       exact⟨m+1,aJ (by simp(maxSteps:=9^7) (disch:=try exact dI) only[hsn,<- hFx,<- hW1,W7,hpre,push_cast,seval]),by omega,by omega⟩
    ·have hltI:¬ (m:Int)<l.length:=by omega
     have hle:l.take m=l:=WY (by omega)
     simp(maxSteps:=9^7) (disch:=try exact dI) only[hle,push_cast,seval]
     exact aH [] (by simp(maxSteps:=9^7) (disch:=try exact dI) only[iO,push_cast,seval])
theorem Ls (route:Int)(n:Nat)(l:List Stp)(ws:List Wkd)(hB:Bnd n l)(hl:okL l)(hn:n<=400)(hw:ws.length+cnt n<=900000000) :
  bz Tryz.prog aC 1 96 [.pv (.list (l.map Stp.pv)),.clo 97 [] [.ptr 0 0,.pv (.eptr [.int .i64 route] 0 0)]] [.cells 42 true [.olist 1 13 (ws.map Wkd.pv)],.tok 53 13] (.pv (.tup []))
   [.cells 42 true [.olist 1 13 ((ws++aL route n [] l).map Wkd.pv)],.tok 53 13]:=by
 refine bz.intro Q96.2 (by simp[Q96]) ?_
 have h:=Gf route n [] l ws hB hl (by simp;omega) hw
 simp only[iO,Xn,XT] at h
 simp(maxSteps:=9^7) (disch:=try exact dI) only[Q96,push_cast,seval]
 refine ab.nilB 3 0 1000003 1 qsZ ?_
 simp(maxSteps:=9^7) (disch:=try exact dI) only[push_cast,seval]
 refine ab.lentK h [3,2,4,0,7,1] rfl qsZ qsZ ?_
 simp(maxSteps:=9^7) (disch:=try exact dI) only[push_cast,seval]
 exact aH [] qsZ
theorem PP (p:Prg)(i:Nat)(r:Rou)(hr:p.routes[i]? = some r)(n:Nat)(hB:Bnd n r.steps)(hl:okL r.steps)(hn:n<=400)(hc:cnt n<=900000000) :
  ap Tryz.prog aC 47 [p.pv,.int .i64 i] (.list ((aL i n [] r.steps).map Wkd.pv)):=by
 refine ap.intro Q47.2 (by simp[Q47]) ?_
 have h:=Ls i n r.steps [] hB hl hn (by simpa using hc)
 obtain⟨v,s,e,w,rs⟩:=p
 obtain⟨r1,r2,r3⟩:=r
 simp only[Prg.routes,Rou.steps] at hr h ⊢
 simp(maxSteps:=9^7) (disch:=try exact dI) only[Q47,Wv,hr,Wy,push_cast,seval]
 refine ab.nilB 2 0 53 13 qsZ ?_
 simp(maxSteps:=9^7) (disch:=try exact dI) only[push_cast,seval]
 refine ab.lentK h [2,6] rfl qsZ qsZ ?_
 simp(maxSteps:=9^7) (disch:=try exact dI) only[push_cast,seval]
def cW (n:Nat)(p:Prg):List Wkd:=aF (fun r i=>aL i n [] r.steps) p.routes
def okW (n:Nat)(p:Prg):Prop:=p.routes.length<=6/\∀ r∈p.routes,Bnd n r.steps/\okL r.steps
theorem qU (l:List Wkd):(l.all fun x=>x.pv.cells.length == 13)=true:=by simp[Wkd.cells_len]
theorem PQ (n:Nat)(hn:n<=400)(hc:cnt n<=100000000)(p:Prg)(hp:okW n p):ap Tryz.prog aC 22 [p.pv] (.list ((cW n p).map Wkd.pv)):=by
 have h68:=fun i r hr=>PP p i r hr n (hp.2 r (WV hr)).1 (hp.2 r (WV hr)).2 hn (by omega)
 have hlen:∀ m,(aF (fun (r:Rou) i=>aL i n [] r.steps) (p.routes.take m)).length<=6*cnt n:=fun m=>by
  refine Xu (bh _ (cnt n) _ fun r hr i=>bd _ n _ _ (hp.2 r (XL hr)).1) (W8 _ ?_)
  have:=hp.1
  rw[Xf];omega
 have hl1:∀ i (r:Rou),r∈p.routes->(aL i n [] r.steps).length<=cnt n:=fun i r hr=>bd _ n _ _ (hp.2 r hr).1
 refine ap.intro Q22.2 (by simp[Q22]) ?_
 obtain⟨v,s,e,w,rs⟩:=p
 simp only[Prg.routes] at h68 hlen hl1
 have hr6:rs.length<=6:=hp.1
 rw[cW]
 simp only[Prg.routes]
 simp(maxSteps:=9^7) (disch:=try exact dI) only[Q22,Wv,push_cast,seval]
 refine au ([(3,0,53,13)]) (fun m:Nat=>[(3,.olist 0 13 ((aF (fun (r:Rou) i=>aL i n [] r.steps) (rs.take m)).map Wkd.pv)),(8,.pv (.int .i64 (m:Int)))]) (fun m=>[]) (fun m=>m<=rs.length) (fun m=>rs.length - m) (0) ?_;intro e0 σ0 n0 h0;simp(maxSteps:=9^7) (disch:=try exact dI) only[push_cast,seval] at h0;obtain⟨rfl,rfl,rfl⟩:=h0;refine⟨?_,?_,?_⟩
 ·simp(maxSteps:=9^7) (disch:=try exact dI) only[aU,push_cast,seval]
 ·omega
 ·intro m hm
  by_cases hlt:m<rs.length
  ·have hltI:(m:Int)<rs.length:=by omega
   obtain⟨r,hr⟩:∃ r,rs[m]? = some r:=⟨_,WT hlt⟩
   have hcall:=h68 m r hr
   rw[Wv] at hcall
   have hsn:=aN (fun (r:Rou) i=>aL i n [] r.steps) hr
   have hk1:=hlen m
   have hk2:=hl1 m r (WV hr)
   simp(maxSteps:=9^7) (disch:=try exact dI) only[hr,push_cast,seval]
   refine ab.pure hcall rfl ?_
   simp(maxSteps:=9^7) (disch:=try exact dI) only[qU,push_cast,seval]
   exact⟨m+1,aJ (by simp(maxSteps:=9^7) (disch:=try exact dI) only[hsn,Xe,push_cast,seval]),by omega,by omega⟩
  ·have hltI:¬ (m:Int)<rs.length:=by omega
   have hle:rs.take m=rs:=WY (by omega)
   simp(maxSteps:=9^7) (disch:=try exact dI) only[hle,push_cast,seval]
theorem Bh (route:Int):∀ (n:Nat) (p:List Int) (l:List Stp),Bnd n l->p.length+2*n<=1000->cnt n<=100000000 ->
  ap Tryz.prog aC 43 [.int .i64 route,.list (p.map (PV.int .i64)),.list (l.map Stp.pv)] (.list ((aL route n p l).map Wkd.pv)):=by
 intro n
 induction n with
 | zero=>
   intro p l hB hp hc
   obtain rfl:l=[]:=hB
   refine ap.intro Q43.2 (by simp[Q43]) ?_
   simp(maxSteps:=9^7) (disch:=try exact dI) only[Q43,aL,push_cast,seval]
   refine au ([(7,0,53,13)]) (fun m:Nat=>[]) (fun m=>[]) (fun m=>m=0) (fun m=>m) (0) ?_;intro e0 σ0 n0 h0;simp(maxSteps:=9^7) (disch:=try exact dI) only[push_cast,seval] at h0;obtain⟨rfl,rfl,rfl⟩:=h0;refine⟨?_,?_,?_⟩
   ·simp(maxSteps:=9^7) (disch:=try exact dI) only[push_cast,seval]
   ·rfl
   ·intro m hm
    simp(maxSteps:=9^7) (disch:=try exact dI) only[push_cast,seval]
 | succ n ih=>
   intro p l hB hp hc
   have hcw:=bd route (n+1) p l hB
   obtain⟨hB1,hB2⟩:=hB
   have hcn:cnt n<=100000000:=by simp only[cnt] at hc;omega
   refine ap.intro Q43.2 (by simp[Q43]) ?_
   rw[aL] at hcw ⊢
   generalize hF:(fun (s:Stp) (i:Nat)=>Wkd.mk route (p++[(i:Int)]) s::aF (fun b j=>aL route n ((p++[(i:Int)])++[(j:Int)]) b.steps) s.branches)=F at hcw ⊢
   simp(maxSteps:=9^7) (disch:=try exact dI) only[Q43,push_cast,seval]
   refine au ([(7,0,53,13)]) (fun m:Nat=>[(7,.olist 0 13 ((aF F (l.take m)).map Wkd.pv)),(8,.pv (.int .i64 (m:Int)))]) (fun m=>[]) (fun m=>m<=l.length) (fun m=>l.length - m) (0) ?_;intro e0 σ0 n0 h0;simp(maxSteps:=9^7) (disch:=try exact dI) only[push_cast,seval] at h0;obtain⟨rfl,rfl,rfl⟩:=h0;refine⟨?_,?_,?_⟩
   ·simp(maxSteps:=9^7) (disch:=try exact dI) only[aU,push_cast,seval]
   ·omega
   ·intro m hm
    by_cases hlt:m<l.length
    ·have hltI:(m:Int)<l.length:=by omega
     obtain⟨x,hx⟩:∃ x,l[m]? = some x:=⟨_,WT hlt⟩
     obtain⟨hb1,hb2⟩:=hB2 x (WV hx)
     have hwl:(aF F (l.take m)).length<=cnt (n+1):=Xu (gT F l m) hcw
     have hFx:=congrFun (congrFun hF x) m
     have hsn:=aN F hx
     have hcat0:([]:List PV)++p.map (PV.int .i64)++[PV.int .i64 (m:Int)]=(p++[(m:Int)]).map (PV.int .i64):=by simp
     obtain⟨x1,x2,x3,x4,x5,x6,x7,x8,x9,x10,k⟩:=x
     simp only[Stp.branches] at hb1 hb2 hFx
     generalize hF2:(fun (b:Bra) (j:Nat)=>aL route n ((p++[(m:Int)])++[(j:Int)]) b.steps)=F2 at hFx
     have hk3:∀ j,(aF F2 (k.take j)).length<=4*cnt n:=fun j=>Xu (bh F2 (cnt n) (k.take j) (fun b hb i=>by rw[<- hF2];exact bd route n _ _ (hb2 b (XL hb)))) (W8 _ (by rw[Xf];omega))
     simp(maxSteps:=9^7) (disch:=try exact dI) only[hx,WF,push_cast,seval]
     refine au ([]) (fun j:Nat=>[(7,.olist 0 13 ((aF F (l.take m)++Wkd.mk route (p++[(m:Int)]) (.mk x1 x2 x3 x4 x5 x6 x7 x8 x9 x10 k)::aF F2 (k.take j)).map Wkd.pv)),(10,.pv (.int .i64 (j:Int)))]) (fun j=>[]) (fun j=>j<=k.length) (fun j=>k.length - j) (0) ?_;intro e0 σ0 n0 h0;simp(maxSteps:=9^7) (disch:=try exact dI) only[push_cast,seval] at h0;obtain⟨rfl,rfl,rfl⟩:=h0;refine⟨?_,?_,?_⟩
     ·simp(maxSteps:=9^7) (disch:=try exact dI) only[aU,WR,WF,Xe,push_cast,seval]
     ·omega
     ·intro j hj
      by_cases hlj:j<k.length
      ·have hljI:(j:Int)<k.length:=by omega
       obtain⟨b,hb⟩:∃ b,k[j]? = some b:=⟨_,WT hlj⟩
       have hbB:=hb2 b (WV hb)
       have hsn2:=aN F2 hb
       have hF2b:=congrFun (congrFun hF2 b) j
       have hl4:=bd route n ((p++[(m:Int)])++[(j:Int)]) b.steps hbB
       obtain⟨b1,b2⟩:=b
       simp only[Bra.steps] at hbB hF2b hl4
       have hih:=ih ((p++[(m:Int)])++[(j:Int)]) b2 hbB (by simp;omega) hcn
       have hk3j:=hk3 j
       simp only[Xe,List.map_cons,XT,W7,XA,Xl] at hih hl4
       simp(maxSteps:=9^7) (disch:=try exact dI) only[hx,hb,Wh,WF,push_cast,seval]
       refine ag hih rfl ?_
       simp(maxSteps:=9^7) (disch:=try exact dI) only[qU,push_cast,seval]
       exact⟨j+1,aJ (by simp(maxSteps:=9^7) (disch:=try exact dI) only[hsn2,<- hF2b,W7,Xe,push_cast,seval]),by omega,by omega⟩
      ·have hljI:¬ (j:Int)<k.length:=by omega
       have hle:k.take j=k:=WY (by omega)
       simp(maxSteps:=9^7) (disch:=try exact dI) only[hx,hle,WF,push_cast,seval]
       exact⟨m+1,aJ (by simp(maxSteps:=9^7) (disch:=try exact dI) only[hsn,<- hFx,W7,push_cast,seval]),by omega,by omega⟩
    ·have hltI:¬ (m:Int)<l.length:=by omega
     have hle:l.take m=l:=WY (by omega)
     simp(maxSteps:=9^7) (disch:=try exact dI) only[hle,push_cast,seval]
theorem Km (n:Nat)(hn:n<=400)(hc:cnt n<=100000000)(p:Prg)(hp:okW n p):ap Tryz.prog aC 11 [p.pv] (.list ((cW n p).map Wkd.pv)):=by
 have h69:=fun (i:Nat) r hr=>Bh i n [] r.steps (hp.2 r (WV (i:=i) hr)).1 (by simp;omega) hc
 have hlen:∀ m,(aF (fun (r:Rou) i=>aL i n [] r.steps) (p.routes.take m)).length<=6*cnt n:=fun m=>by
  refine Xu (bh _ (cnt n) _ fun r hr i=>bd _ n _ _ (hp.2 r (XL hr)).1) (W8 _ ?_)
  have:=hp.1
  rw[Xf];omega
 have hl1:∀ i (r:Rou),r∈p.routes->(aL i n [] r.steps).length<=cnt n:=fun i r hr=>bd _ n _ _ (hp.2 r hr).1
 refine ap.intro Q11.2 (by simp[Q11]) ?_
 obtain⟨v,s,e,w,rs⟩:=p
 simp only[Prg.routes] at h69 hlen hl1
 have hr6:rs.length<=6:=hp.1
 rw[cW]
 simp only[Prg.routes]
 simp(maxSteps:=9^7) (disch:=try exact dI) only[Q11,Wv,push_cast,seval]
 refine au ([(3,0,53,13)]) (fun m:Nat=>[(3,.olist 0 13 ((aF (fun (r:Rou) i=>aL i n [] r.steps) (rs.take m)).map Wkd.pv)),(4,.pv (.int .i64 (m:Int)))]) (fun m=>[]) (fun m=>m<=rs.length) (fun m=>rs.length - m) (0) ?_;intro e0 σ0 n0 h0;simp(maxSteps:=9^7) (disch:=try exact dI) only[push_cast,seval] at h0;obtain⟨rfl,rfl,rfl⟩:=h0;refine⟨?_,?_,?_⟩
 ·simp(maxSteps:=9^7) (disch:=try exact dI) only[aU,push_cast,seval]
 ·omega
 ·intro m hm
  by_cases hlt:m<rs.length
  ·have hltI:(m:Int)<rs.length:=by omega
   obtain⟨r,hr⟩:∃ r,rs[m]? = some r:=⟨_,WT hlt⟩
   have hcall:=h69 m r hr
   have hsn:=aN (fun (r:Rou) i=>aL i n [] r.steps) hr
   have hk1:=hlen m
   have hk2:=hl1 m r (WV hr)
   obtain⟨r1,r2,r3⟩:=r
   have hst:(Rou.mk r1 r2 r3).steps=r3:=_root_.id rfl
   rw[hst] at hcall hk2
   simp only[hst] at hsn
   simp(maxSteps:=9^7) (disch:=try exact dI) only[hr,Wy,push_cast,seval]
   refine ab.pureN hcall rfl qsZ ?_
   simp(maxSteps:=9^7) (disch:=try exact dI) only[qU,push_cast,seval]
   exact⟨m+1,aJ (by simp(maxSteps:=9^7) (disch:=try exact dI) only[hsn,Xe,push_cast,seval]),by omega,by omega⟩
  ·have hltI:¬ (m:Int)<rs.length:=by omega
   have hle:rs.take m=rs:=WY (by omega)
   simp(maxSteps:=9^7) (disch:=try exact dI) only[hle,push_cast,seval]
theorem LY (n:Nat)(hn:n<=400)(hc:cnt n<=100000000)(p:Prg)(hp:okW n p):ap Tryz.prog aC 7 [p.pv] (.bool (decide ((cW n p).length<=300))):=by
 refine ap.intro Q7.2 (by simp[Q7]) ?_
 have h:=Km n hn hc p hp
 by_cases hle:(cW n p).length<=300
 ·have hleI:((cW n p).length:Int)<=300:=by omega
  simp(maxSteps:=9^7) (disch:=try exact dI) only[Q7,Prg.cells_len,Prg.isAgg,Prg.ones,hle,push_cast,seval]
  refine ab.pure h rfl ?_
  simp(maxSteps:=9^7) (disch:=try exact dI) only[push_cast,seval]
 ·have hleI:¬ ((cW n p).length:Int)<=300:=by omega
  simp(maxSteps:=9^7) (disch:=try exact dI) only[Q7,Prg.cells_len,Prg.isAgg,Prg.ones,hle,push_cast,seval]
  refine ab.pure h rfl ?_
  simp(maxSteps:=9^7) (disch:=try exact dI) only[push_cast,seval]
theorem Np (a b:List Int)(ha:a.length<=1000000)(hb:b.length<=9223372036854775807):ap Tryz.prog aC 23 [.list (a.map (PV.int .i64)),.list (b.map (PV.int .i64))] (.bool (decide (a=b))):=by
 refine ap.intro Q23.2 (by simp[Q23]) ?_
 by_cases hab:a.length=b.length
 ·have habI:(a.length:Int)=b.length:=by omega
  simp(maxSteps:=9^7) (disch:=try exact dI) only[Q23,habI,push_cast,seval]
  refine au ([]) (fun m:Nat=>[(5,.pv (.int .i64 (m:Int)))]) (fun m=>[]) (fun m=>m<=a.length/\a.take m=b.take m) (fun m=>a.length - m) (0) ?_;intro e0 σ0 n0 h0;simp(maxSteps:=9^7) (disch:=try exact dI) only[push_cast,seval] at h0;obtain⟨rfl,rfl,rfl⟩:=h0;refine⟨?_,?_,?_⟩
  ·simp(maxSteps:=9^7) (disch:=try exact dI) only[push_cast,seval]
  ·exact⟨by omega,rfl⟩
  ·rintro m ⟨hm,he⟩
   by_cases hlt:m<a.length
   ·have hltI:(m:Int)<b.length:=by omega
    obtain⟨x,hx⟩:∃ x,a[m]? = some x:=⟨_,WT hlt⟩
    obtain⟨y,hy⟩:∃ y,b[m]? = some y:=⟨_,WT (by omega)⟩
    by_cases hxy:x=y
    ·subst hxy
     simp(maxSteps:=9^7) (disch:=try exact dI) only[hx,hy,push_cast,seval]
     exact⟨m+1,aJ qsZ,⟨by omega,by rw[aE hx,aE hy,he]⟩,by omega⟩
    ·have hne:¬ a=b:=by rintro rfl;rw[hx] at hy;cases hy;exact hxy rfl
     simp(maxSteps:=9^7) (disch:=try exact dI) only[hx,hy,hxy,hne,push_cast,seval]
   ·have hltI:¬ (m:Int)<b.length:=by omega
    have hab':a=b:=by rw[WY (by omega),WY (by omega)] at he;exact he
    simp(maxSteps:=9^7) (disch:=try exact dI) only[hab',push_cast,seval]
 ·have habI:¬ (a.length:Int)=b.length:=by omega
  have hne:¬ a=b:=by rintro rfl;exact hab rfl
  simp(maxSteps:=9^7) (disch:=try exact dI) only[Q23,habI,hne,push_cast,seval]
