/- A part. -/
import Derived.Test.YtngchmkoadaecaaGreatDoorClJC
import Derived.Test.YtngchmkoadaecaaGreatDoorClJP
set_option linter.unusedVariables false
set_option linter.unusedSimpArgs false
set_option maxHeartbeats 16000000
set_option maxRecDepth 100000
open List renaming map_append->UH,length_take->UJ,length_append->Uy,length_cons->UC,getElem?_eq_getElem->Uq,mem_of_getElem?->Us,take->Vw,take_of_length_le->Ux,mem_of_mem_take->Vf,length_nil->UR,append_assoc->UB
open Nat renaming le_trans->UX,mul_le_mul_right->UA
namespace Go.Proofs.YtngchmkoadaecaaGreatDoor
open Go Go.Ab
theorem Mr (p:List Int)(hp:0<p.length)(hm:p.length<=1000000):bA Tryz.prog aB 1 85 [.row 0 1 0 p.length] [.cells 3 false ((p.map (PV.int .i64)).map .pv)] (.pv (.list (p.map (PV.int .i64)))) [.cells 3 false ((p.map (PV.int .i64)).map .pv)]:=by
 refine bA.intro Q85.2 (by simp[Q85]) ?_
 simp(maxSteps:=9^7) (disch:=try exact dI) only[Q85,push_cast,seval]
 exact LK [] (.pv (.list (p.map (PV.int .i64)))) (.list _ _ _ _ (NzL.refl _)) qsZ
theorem Np (p:List Int)(hp:0<p.length)(hm:p.length<=1000000)(ws:List Wkd)(hw:ws.length<=1000000000)(l:List Stp)(i:Nat)(s:Stp)(hs:l[i]? = some s)(ho:s.ok)(route:Int) :
  bA Tryz.prog aB 2 97 [.row 1 1 0 p.length,.pv (.eptr (l.map Stp.pv) i 0),.ptr 0 0,.pv (.eptr [.int .i64 route] 0 0)]
   [.cells 42 true [.olist 2 13 (ws.map Wkd.pv)],.cells 3 false ((p.map (PV.int .i64)).map .pv),.tok 53 13] (.pv (.tup []))
   [.cells 42 true [.olist 2 13 ((ws++[Wkd.mk route p s]).map Wkd.pv)],.cells 3 false ((p.map (PV.int .i64)).map .pv),.tok 53 13]:=by
 refine bA.intro Q97.2 (by simp[Q97]) ?_
 have hcall:=C4 _ s (Nat.lt_succ_self _) ho
 obtain⟨w1,w2,w3,w4,w5,w6,w7,w8,w9,w10,w11⟩:=s
 rw[Ud] at hcall
 simp(maxSteps:=9^7) (disch:=try exact dI) only[Q97,hs,Ud,push_cast,seval]
 refine oV (Mr p hp hm) [1] rfl qsZ qsZ ?_
 simp(maxSteps:=9^7) (disch:=try exact dI) only[hs,Ud,push_cast,seval]
 refine au hcall rfl ?_
 simp(maxSteps:=9^7) (disch:=try exact dI) only[push_cast,seval]
 exact aI [] (by simp(maxSteps:=9^7) (disch:=try exact dI) only[UH,Up,Ud,push_cast,seval])
def aJ {α β:Type}(F:α->Nat->List β)(l:List α):List β:=l.zipIdx.flatMap fun q=>F q.1 q.2
theorem bv {α β:Type}(F:α->Nat->List β):aJ F []=[]:=_root_.id rfl
theorem bc {α β:Type}(F:α->Nat->List β){l:List α}{m:Nat}{x:α}(h:l[m]? = some x):aJ F (l.take (m+1))=aJ F (l.take m)++F x m:=by
 have hm:m<l.length:=(List.getElem?_eq_some_iff.1 h).1
 have hl:(l.take m).length=m:=by rw[UJ];omega
 rw[aC h]
 simp[aJ,List.zipIdx_append,List.flatMap_append,hl]
def aF (route:Int):Nat->List Int->List Stp->List Wkd
 | 0,_,_=>[]
 | n+1,p,l=>aJ (fun s i=>Wkd.mk route (p++[(i:Int)]) s::aJ (fun b j=>aF route n ((p++[(i:Int)])++[(j:Int)]) b.steps) s.branches) l
def Bnd:Nat->List Stp->Prop
 | 0,l=>l=[]
 | n+1,l=>l.length<=8/\∀ s∈l,s.branches.length<=4/\∀ b∈s.branches,Bnd n b.steps
def cnt:Nat->Nat
 | 0=>0
 | n+1=>8*(1+4*cnt n)
theorem bn {α β:Type}(F:α->Nat->List β)(c:Nat):∀ (l:List α),(∀ x∈l,∀ i,(F x i).length<=c)->(aJ F l).length<=l.length*c:=by
 intro l h
 have key:∀ (l:List α) (k:Nat),(∀ x∈l,∀ i,(F x i).length<=c)->((l.zipIdx k).flatMap fun q=>F q.1 q.2).length<=l.length*c:=by
  intro l
  induction l with
  | nil=>intro k _;simp
  | cons x r ih=>
    intro k h
    have h1:=h x (by simp) k
    have h2:=ih (k+1) (fun y hy=>h y (by simp[hy]))
    simp only[List.zipIdx_cons,List.flatMap_cons,Uy,UC,Nat.succ_mul]
    omega
 exact key l 0 h
theorem ba (route:Int):∀ (n:Nat) (p:List Int) (l:List Stp),Bnd n l->(aF route n p l).length<=cnt n
 | 0,p,l,h=>by simp[aF]
 | n+1,p,l,h=>by
   obtain⟨h1,h2⟩:=h
   rw[aF,cnt]
   refine UX (bn _ (1+4*cnt n) l fun s hs i=>?_) (UA _ h1)
   obtain⟨h3,h4⟩:=h2 s hs
   have:=bn (fun b j=>aF route n ((p++[(i:Int)])++[(j:Int)]) b.steps) (cnt n) s.branches fun b hb j=>ba route n _ _ (h4 b hb)
   have h5:s.branches.length*cnt n<=4*cnt n:=UA _ h3
   simp only[UC]
   omega
def io (route:Int)(p:List Int)(ws:List Wkd):List Blk:=
 [.cells 35 true [.row 4 1 0 p.length],.cells 141 true [.clo 97 [] [.ptr 3 0,.pv (.eptr [.int .i64 route] 0 0)]],.cells 156 true [.clo 113 [] [.ptr 0 0,.ptr 1 0,.ptr 2 0]],.cells 42 true [.olist 5 13 (ws.map Wkd.pv)],
  .cells 3 false ((p.map (PV.int .i64)).map .pv),.tok 53 13]
theorem gy {α β:Type}(F:α->Nat->List β)(l:List α)(m:Nat):(aJ F (l.take m)).length<=(aJ F l).length:=by
 have e:aJ F l=aJ F (l.take m)++((l.drop m).zipIdx (l.take m).length).flatMap fun q=>F q.1 q.2:=by
  conv=>lhs;rw[<- List.take_append_drop m l]
  simp only[aJ,List.zipIdx_append,List.flatMap_append,Nat.zero_add]
 rw[e,Uy];omega
theorem Eh (route:Int):∀ (n:Nat) (p:List Int) (l:List Stp) (ws:List Wkd),Bnd n l->okL l->p.length+2*n<=1000->ws.length+cnt n<=900000000 ->
  bA Tryz.prog aB 4 113 [.pv (.list (l.map Stp.pv)),.ptr 0 0,.ptr 1 0,.ptr 2 0] (io route p ws) (.pv (.tup [])) (io route p (ws++aF route n p l)):=by
 intro n
 induction n with
 | zero=>
   intro p l ws hB hl hp hw
   obtain rfl:l=[]:=hB
   refine bA.intro Jd.2 (by simp[Jd]) ?_
   simp(maxSteps:=9^7) (disch:=try exact dI) only[Jd,io,aF,push_cast,seval]
   refine aw ([]) (fun m:Nat=>[]) (fun m=>[]) (fun m=>m=0) (fun m=>m) (0) ?_;intro e0 σ0 n0 h0;simp(maxSteps:=9^7) (disch:=try exact dI) only[push_cast,seval] at h0;obtain⟨rfl,rfl,rfl⟩:=h0;refine⟨?_,?_,?_⟩
   ·simp(maxSteps:=9^7) (disch:=try exact dI) only[push_cast,seval]
   ·rfl
   ·intro m hm
    simp(maxSteps:=9^7) (disch:=try exact dI) only[push_cast,seval]
    exact aI [] (by simp(maxSteps:=9^7) (disch:=try exact dI) only[io,push_cast,seval])
 | succ n ih=>
   intro p l ws hB hl hp hw
   have hcw:=ba route (n+1) p l hB
   obtain⟨hB1,hB2⟩:=hB
   obtain⟨hl1,hl2⟩:=hl
   refine bA.intro Jd.2 (by simp[Jd]) ?_
   rw[aF] at hcw ⊢
   generalize hF:(fun (s:Stp) (i:Nat)=>Wkd.mk route (p++[(i:Int)]) s::aJ (fun b j=>aF route n ((p++[(i:Int)])++[(j:Int)]) b.steps) s.branches)=F at hcw ⊢
   simp(maxSteps:=9^7) (disch:=try exact dI) only[Jd,io,push_cast,seval]
   refine aw ([]) (fun m:Nat=>[(9,.pv (.int .i64 (m:Int)))]) (fun m=>[(3,.cells 42 true [.olist 5 13 ((ws++aJ F (l.take m)).map Wkd.pv)])]) (fun m=>m<=l.length) (fun m=>l.length - m) (0) ?_;intro e0 σ0 n0 h0;simp(maxSteps:=9^7) (disch:=try exact dI) only[push_cast,seval] at h0;obtain⟨rfl,rfl,rfl⟩:=h0;refine⟨?_,?_,?_⟩
   ·simp(maxSteps:=9^7) (disch:=try exact dI) only[bv,push_cast,seval]
   ·omega
   ·intro m hm
    by_cases hlt:m<l.length
    ·have hltI:(m:Int)<l.length:=by omega
     obtain⟨x,hx⟩:∃ x,l[m]? = some x:=⟨_,Uq hlt⟩
     have hxo:=hl2 x (Us hx)
     obtain⟨hb1,hb2⟩:=hB2 x (Us hx)
     have hcat:∀ (q:List Int) (k:Int),List.map AV.pv (List.map (PV.int .i64) (Vw (q.length*1) q))++cn [PV.int .i64 k]=List.map AV.pv (List.map (PV.int .i64) (q++[k])):=by
      intro q k
      rw[Ux (by omega)]
      simp[cn,PV.cells]
     have hwl:(aJ F (l.take m)).length<=cnt (n+1):=UX (gy F l m) hcw
     have hws:(ws++aJ F (l.take m)).length<=900000000:=by rw[Uy];omega
     have h92:=Np (p++[(m:Int)]) (by simp) (by simp;omega) (ws++aJ F (l.take m)) (by omega) l m x hx hxo route
     have hpl:(p++[(m:Int)]).length=p.length+1:=by simp
     rw[hpl] at h92
     have hcat3:∀ (q:List Int) (k:Int),List.map AV.pv (List.map (PV.int .i64) (Vw (q.length*1) q))++[AV.pv (PV.int .i64 k)]=List.map AV.pv (List.map (PV.int .i64) (q++[k])):=fun q k=>hcat q k
     have hpre:AVzP (List.map AV.pv (List.map (PV.int .i64) (p++[(m:Int)]))) (List.map AV.pv (List.map (PV.int .i64) p)):=by
      rw[UH,UH];exact TL _ _
     have hwl7:(aJ F (l.take m)).length<=7*(1+4*cnt n):=UX (bn F (1+4*cnt n) (l.take m) (fun x hx i=>by
      obtain⟨h3,h4⟩:=hB2 x (Vf hx)
      rw[<- hF]
      have:=bn (fun b j=>aF route n ((p++[(i:Int)])++[(j:Int)]) b.steps) (cnt n) x.branches fun b hb j=>ba route n _ _ (h4 b hb)
      have h5:x.branches.length*cnt n<=4*cnt n:=UA _ h3
      simp only[UC]
      omega)) (UA _ (by rw[UJ];omega))
     have hpl2:∀ j:Int,((p++[(m:Int)])++[j]).length=p.length+1+1:=fun j=>by simp
     have hcat2:∀ (k:Int),List.map AV.pv (List.map (PV.int .i64) (Vw ((p.length+1)*1) (p++[(m:Int)])))++cn [PV.int .i64 k]=List.map AV.pv (List.map (PV.int .i64) ((p++[(m:Int)])++[k])):=by
      intro k
      rw[Ux (by simp)]
      simp[cn,PV.cells]
     have hFx:=congrFun (congrFun hF x) m
     have hsn:=bc F hx
     obtain⟨x1,x2,x3,x4,x5,x6,x7,x8,x9,x10,k⟩:=x
     simp only[Stp.branches] at hb1 hb2 hFx
     rw[Uc] at hxo
     obtain⟨_,_,_,_,_,_,_,_,_,_,_,_,_,hk1,hk2⟩:=hxo
     have hcat4:∀ (k:Int),List.map AV.pv (List.map (PV.int .i64) (Vw ((p.length+1)*1) (p++[(m:Int)])))++[AV.pv (PV.int .i64 k)]=List.map AV.pv (List.map (PV.int .i64) ((p++[(m:Int)])++[k])):=fun k=>hcat2 k
     simp(maxSteps:=9^7) (disch:=try exact dI) only[hx,Ud,hcat,push_cast,seval]
     refine ab.lentK h92 [3,8,5] rfl qsZ (by simp(maxSteps:=9^7) (disch:=try exact dI) only[hcat3,push_cast,seval]) ?_
     generalize hW1:(ws++aJ F (l.take m))++[Wkd.mk route (p++[(m:Int)]) (.mk x1 x2 x3 x4 x5 x6 x7 x8 x9 x10 k)]=W1
     simp(maxSteps:=9^7) (disch:=try exact dI) only[hx,Ud,hW1,push_cast,seval]
     generalize hF2:(fun (b:Bra) (j:Nat)=>aF route n ((p++[(m:Int)])++[(j:Int)]) b.steps)=F2 at hFx
     refine aw ([]) (fun j:Nat=>[(28,.pv (.int .i64 (j:Int)))]) (fun j=>[(3,.cells 42 true [.olist 5 13 ((W1++aJ F2 (k.take j)).map Wkd.pv)])]) (fun j=>j<=k.length) (fun j=>k.length - j) (0) ?_;intro e0 σ0 n0 h0;simp(maxSteps:=9^7) (disch:=try exact dI) only[push_cast,seval] at h0;obtain⟨rfl,rfl,rfl⟩:=h0;refine⟨?_,?_,?_⟩
     ·simp(maxSteps:=9^7) (disch:=try exact dI) only[bv,push_cast,seval]
     ·omega
     ·intro j hj
      by_cases hlj:j<k.length
      ·have hljI:(j:Int)<k.length:=by omega
       obtain⟨b,hb⟩:∃ b,k[j]? = some b:=⟨_,Uq hlj⟩
       have hbo:=hk2 b (Us hb)
       have hbB:=hb2 b (Us hb)
       have hsn2:=bc F2 hb
       have hF2b:=congrFun (congrFun hF2 b) j
       obtain⟨b1,b2⟩:=b
       rw[TP] at hbo
       simp only[Bra.steps] at hbB hF2b
       have hl3:(aJ F2 (k.take j)).length<=3*cnt n:=UX (bn F2 (cnt n) (k.take j) (fun b hb i=>by rw[<- hF2];exact ba route n _ _ (hb2 b (Vf hb)))) (UA _ (by rw[UJ];omega))
       have hih:=ih ((p++[(m:Int)])++[(j:Int)]) b2 (W1++aJ F2 (k.take j)) hbB ⟨hbo.2.2.1,hbo.2.2.2⟩ (by simp;omega) (by rw[Uy,<- hW1,Uy,Uy];simp only[UC,UR];simp only[cnt] at hw;omega)
       simp only[io,hpl2] at hih
       have hpre2:AVzP (List.map AV.pv (List.map (PV.int .i64) (p++[(m:Int),(j:Int)]))) (List.map AV.pv (List.map (PV.int .i64) (p++[(m:Int)]))):=by
        rw[show p++[(m:Int),(j:Int)]=(p++[(m:Int)])++[(j:Int)] by simp,UH,UH];exact TL _ _
       simp(maxSteps:=9^7) (disch:=try exact dI) only[hx,hb,TQ,Ud,hcat2,push_cast,seval]
       refine ab.lentK hih [0,1,2,3,8,5] rfl qsZ (by simp(maxSteps:=9^7) (disch:=try exact dI) only[hcat4,UB,List.cons_append,List.nil_append,push_cast,seval]) ?_
       simp(maxSteps:=9^7) (disch:=try exact dI) only[hx,hb,TQ,Ud,push_cast,seval]
       exact⟨j+1,aN (by simp(maxSteps:=9^7) (disch:=try exact dI) only[hsn2,<- hF2b,UB,hpre2,push_cast,seval]),by omega,by omega⟩
      ·have hljI:¬ (j:Int)<k.length:=by omega
       have hle:k.take j=k:=Ux (by omega)
       simp(maxSteps:=9^7) (disch:=try exact dI) only[hle,push_cast,seval]
       exact⟨m+1,aN (by simp(maxSteps:=9^7) (disch:=try exact dI) only[hsn,<- hFx,<- hW1,UB,hpre,push_cast,seval]),by omega,by omega⟩
    ·have hltI:¬ (m:Int)<l.length:=by omega
     have hle:l.take m=l:=Ux (by omega)
     simp(maxSteps:=9^7) (disch:=try exact dI) only[hle,push_cast,seval]
     exact aI [] (by simp(maxSteps:=9^7) (disch:=try exact dI) only[io,push_cast,seval])
theorem Jm (route:Int)(n:Nat)(l:List Stp)(ws:List Wkd)(hB:Bnd n l)(hl:okL l)(hn:n<=400)(hw:ws.length+cnt n<=900000000) :
  bA Tryz.prog aB 1 96 [.pv (.list (l.map Stp.pv)),.clo 97 [] [.ptr 0 0,.pv (.eptr [.int .i64 route] 0 0)]] [.cells 42 true [.olist 1 13 (ws.map Wkd.pv)],.tok 53 13] (.pv (.tup []))
   [.cells 42 true [.olist 1 13 ((ws++aF route n [] l).map Wkd.pv)],.tok 53 13]:=by
 refine bA.intro Q96.2 (by simp[Q96]) ?_
 have h:=Eh route n [] l ws hB hl (by simp;omega) hw
 simp only[io,UR,List.map_nil] at h
 simp(maxSteps:=9^7) (disch:=try exact dI) only[Q96,push_cast,seval]
 refine ab.nilB 3 0 1000003 1 qsZ ?_
 simp(maxSteps:=9^7) (disch:=try exact dI) only[push_cast,seval]
 refine ab.lentK h [3,2,4,0,7,1] rfl qsZ qsZ ?_
 simp(maxSteps:=9^7) (disch:=try exact dI) only[push_cast,seval]
 exact aI [] qsZ
theorem Nq (p:Prg)(i:Nat)(r:Rou)(hr:p.routes[i]? = some r)(n:Nat)(hB:Bnd n r.steps)(hl:okL r.steps)(hn:n<=400)(hc:cnt n<=900000000) :
  ap Tryz.prog aB 47 [p.pv,.int .i64 i] (.list ((aF i n [] r.steps).map Wkd.pv)):=by
 refine ap.intro Q47.2 (by simp[Q47]) ?_
 have h:=Jm i n r.steps [] hB hl hn (by simpa using hc)
 obtain⟨v,s,e,w,rs⟩:=p
 obtain⟨r1,r2,r3⟩:=r
 simp only[Prg.routes,Rou.steps] at hr h ⊢
 simp(maxSteps:=9^7) (disch:=try exact dI) only[Q47,T4,hr,T6,push_cast,seval]
 refine ab.nilB 2 0 53 13 qsZ ?_
 simp(maxSteps:=9^7) (disch:=try exact dI) only[push_cast,seval]
 refine ab.lentK h [2,6] rfl qsZ qsZ ?_
 simp(maxSteps:=9^7) (disch:=try exact dI) only[push_cast,seval]
def cJ (n:Nat)(p:Prg):List Wkd:=aJ (fun r i=>aF i n [] r.steps) p.routes
def okW (n:Nat)(p:Prg):Prop:=p.routes.length<=6/\∀ r∈p.routes,Bnd n r.steps/\okL r.steps
theorem pL (l:List Wkd):(l.all fun x=>x.pv.cells.length == 13)=true:=by simp[Wkd.cells_len]
theorem Nr (n:Nat)(hn:n<=400)(hc:cnt n<=100000000)(p:Prg)(hp:okW n p):ap Tryz.prog aB 22 [p.pv] (.list ((cJ n p).map Wkd.pv)):=by
 have h68:=fun i r hr=>Nq p i r hr n (hp.2 r (Us hr)).1 (hp.2 r (Us hr)).2 hn (by omega)
 have hlen:∀ m,(aJ (fun (r:Rou) i=>aF i n [] r.steps) (p.routes.take m)).length<=6*cnt n:=fun m=>by
  refine UX (bn _ (cnt n) _ fun r hr i=>ba _ n _ _ (hp.2 r (Vf hr)).1) (UA _ ?_)
  have:=hp.1
  rw[UJ];omega
 have hl1:∀ i (r:Rou),r∈p.routes->(aF i n [] r.steps).length<=cnt n:=fun i r hr=>ba _ n _ _ (hp.2 r hr).1
 refine ap.intro Q22.2 (by simp[Q22]) ?_
 obtain⟨v,s,e,w,rs⟩:=p
 simp only[Prg.routes] at h68 hlen hl1
 have hr6:rs.length<=6:=hp.1
 rw[cJ]
 simp only[Prg.routes]
 simp(maxSteps:=9^7) (disch:=try exact dI) only[Q22,T4,push_cast,seval]
 refine aw ([(3,0,53,13)]) (fun m:Nat=>[(3,.olist 0 13 ((aJ (fun (r:Rou) i=>aF i n [] r.steps) (rs.take m)).map Wkd.pv)),(8,.pv (.int .i64 (m:Int)))]) (fun m=>[]) (fun m=>m<=rs.length) (fun m=>rs.length - m) (0) ?_;intro e0 σ0 n0 h0;simp(maxSteps:=9^7) (disch:=try exact dI) only[push_cast,seval] at h0;obtain⟨rfl,rfl,rfl⟩:=h0;refine⟨?_,?_,?_⟩
 ·simp(maxSteps:=9^7) (disch:=try exact dI) only[bv,push_cast,seval]
 ·omega
 ·intro m hm
  by_cases hlt:m<rs.length
  ·have hltI:(m:Int)<rs.length:=by omega
   obtain⟨r,hr⟩:∃ r,rs[m]? = some r:=⟨_,Uq hlt⟩
   have hcall:=h68 m r hr
   rw[T4] at hcall
   have hsn:=bc (fun (r:Rou) i=>aF i n [] r.steps) hr
   have hk1:=hlen m
   have hk2:=hl1 m r (Us hr)
   simp(maxSteps:=9^7) (disch:=try exact dI) only[hr,push_cast,seval]
   refine ab.pure hcall rfl ?_
   simp(maxSteps:=9^7) (disch:=try exact dI) only[pL,push_cast,seval]
   exact⟨m+1,aN (by simp(maxSteps:=9^7) (disch:=try exact dI) only[hsn,UH,push_cast,seval]),by omega,by omega⟩
  ·have hltI:¬ (m:Int)<rs.length:=by omega
   have hle:rs.take m=rs:=Ux (by omega)
   simp(maxSteps:=9^7) (disch:=try exact dI) only[hle,push_cast,seval]
