/- A part. -/
import Derived.Test.YtngchmkoadaecaaGreatDoorClJNd
set_option linter.unusedVariables false
set_option linter.unusedSimpArgs false
set_option maxRecDepth 100000
open List renaming mem_of_getElem?->Us,getElem?_eq_some_iff->Ur,mem_append->UY,mem_cons->UP,append_eq_nil_iff->Vd,map_cons->UQ,length_cons->UC,flatMap_cons->Vx,length_map->U0,mem_map->UO
namespace Go.Proofs.YtngchmkoadaecaaGreatDoor
open Go Go.Ab
theorem kP (route:Int):∀ (n:Nat) (p:List Int) (l:List Stp) (w:Wkd),Bnd n l->okL l->M6 n l->(∀ x∈p,I64 x)->w∈aF route n p l ->
  w.route=route/\w.step.ok/\w.step.calls.length<=18/\(∃ (q:List Int) (z:Nat),w.place=q++[(z:Int)])/\∀ x∈w.place,I64 x
 | 0,p,l,w,_,_,_,_,h=>by simp[aF] at h
 | n+1,p,l,w,hB,hl,hC,hI,h=>by
   rw[aF] at h
   obtain⟨i,s,hs,hw⟩:=bD h
   have hsm:=Us hs
   obtain⟨hB1,hB2⟩:=hB
   have hi:i<l.length:=(Ur.1 hs).1
   have hpi:∀ x∈p++[(i:Int)],I64 x:=by
    intro x hx
    rcases UY.1 hx with hx | hx
    ·exact hI x hx
    ·rw[List.mem_singleton] at hx;subst hx;unfold I64;omega
   rcases UP.1 hw with rfl | hw
   ·exact⟨rfl,hl.2 s hsm,(hC s hsm).1,⟨p,i,rfl⟩,hpi⟩
   ·obtain⟨j,b,hb,hw⟩:=bD hw
    have hbm:=Us hb
    obtain⟨hb4,hbB⟩:=hB2 s hsm
    have hj:j<s.branches.length:=(Ur.1 hb).1
    refine kP route n _ _ w (hbB b hbm) ?_ ((hC s hsm).2 b hbm) ?_ hw
    ·have hso:=hl.2 s hsm
     obtain⟨a,k,c,d,e,f,g,h,i',cl,m⟩:=s
     rw[Uc] at hso
     have hbo:=hso.2.2.2.2.2.2.2.2.2.2.2.2.2.2 b hbm
     obtain⟨w',l'⟩:=b
     rw[TP] at hbo
     exact⟨hbo.2.2.1,hbo.2.2.2⟩
    ·intro x hx
     rcases UY.1 hx with hx | hx
     ·exact hpi x hx
     ·rw[List.mem_singleton] at hx;subst hx;unfold I64;omega
abbrev TI (pp:PV)(ws:List Wkd)(m:Nat):List (Nat×AV):=[(2,.mp 0),(3,.pv pp),(8,.ptr 1 0),(9,.clo 93 [] [.ptr 1 0,.ptr 2 0]),(15,.pv (.list (ws.map Wkd.pv))),(16,.pv (.int .i64 (m:Int)))]
abbrev TF (N:NS)(out:List Prb)(a b:List UInt8)(c:List PV):List (Nat×Blk):=[(0,.mp (mpS N)),(1,.cells 32 true [.olist 3 4 (out.map Prb.pv)]),(2,.cells 64 true [.pv (.str a),.pv (.str b),.pv (.list c)]),(3,.tok 82 4)]
abbrev TK (pp:PV)(ws:List Wkd)(m:Nat)(pl:List Int)(k:Nat):List (Nat×AV):=[(2,.mp 0),(3,.pv pp),(8,.ptr 1 0),(9,.clo 93 [] [.ptr 1 0,.ptr 2 0]),(15,.pv (.list (ws.map Wkd.pv))),(16,.pv (.int .i64 (m:Int))),(17,.ptr 3 0),(18,.pv (.list (pl.map (PV.int .i64)))),(23,.pv (.int .i64 (k:Int)))]
abbrev TH (N:NS)(out:List Prb)(a b:List UInt8)(c:List PV)(s:Stp):List (Nat×Blk):=[(0,.mp (mpS N)),(1,.cells 32 true [.olist 4 4 (out.map Prb.pv)]),(2,.cells 64 true [.pv (.str a),.pv (.str b),.pv (.list c)]),(3,pW s),(4,.tok 82 4)]
abbrev TJ (pp:PV)(ws:List Wkd)(m:Nat)(pl:List Int)(n:Nat):List (Nat×AV):=[(2,.mp 0),(3,.pv pp),(8,.ptr 1 0),(9,.clo 93 [] [.ptr 1 0,.ptr 2 0]),(15,.pv (.list (ws.map Wkd.pv))),(16,.pv (.int .i64 (m:Int))),(17,.ptr 3 0),(18,.pv (.list (pl.map (PV.int .i64)))),(19,.row 4 1 0 n),(20,.pv (.int .i64 (m:Int))),(176,.pv (.bool false))]
abbrev TG (N:NS)(out:List Prb)(a b:List UInt8)(c:List PV)(s:Stp)(bf:List Int):List (Nat×Blk):=[(0,.mp (mpS N)),(1,.cells 32 true [.olist 5 4 (out.map Prb.pv)]),(2,.cells 64 true [.pv (.str a),.pv (.str b),.pv (.list c)]),(3,pW s),(4,.cells 3 false ((bf.map (PV.int .i64)).map .pv)),(5,.tok 82 4)]
abbrev KM (Q:AExit->St->Prop):AExit->St->Prop:=fj 3 (Ic (vc Tryz.prog aB 1 (.ops QU [2,3,8,9,15,16]) Q) Q)
theorem ek {r:List UInt8}{pl:List Int}{b:Bool}{c:Int}{nm:List UInt8}:aL r pl b c nm=[]↔b=false:=by cases b<;>simp[aL]
theorem mS {N:NS}{x:List UInt8}(h:decide (x∈N)=false):(ff N x).length=N.length+1:=by
 rw[decide_eq_false_iff_not] at h
 rw[ff,if_neg h];simp
theorem mq {α β:Type}{F:α->Nat->List β}{l:List α}(h:aJ F l=[]){i:Nat}{x:α}(hx:l[i]? = some x):F x i=[]:=by
 unfold aJ at h
 rw[List.flatMap_eq_nil_iff] at h
 exact h (x,i) (List.mem_zipIdx_iff_getElem?.2 (by simpa using hx))
theorem sW (isN:List UInt8->Bool)(p:Prg):∀ (l:List Enp) (N:NS) (i:Nat),(ixO (xS isN p) N i l).1=[] ->
  (ixO (xS isN p) N i l).2=(l.map Enp.name).foldl ff N/\((l.map Enp.name).foldl ff N).length=N.length+l.length
 | [],N,i,_=>⟨rfl,by simp⟩
 | x::r,N,i,h=>by
   rw[ixO] at h ⊢
   simp only[Vd] at h
   have hd:decide (x.name∈N)=false:=by
    have:=h.1
    simp only[xS,Vd,ek] at this
    exact this.2.1
   have:=sW isN p r (xS isN p N x i).2 (i+1) h.2
   have e:(xS isN p N x i).2=ff N x.name:=rfl
   rw[e] at this
   refine⟨?_,?_⟩
   ·rw[e];simpa using this.1
   ·have h2:=this.2
    rw[mS hd] at h2
    simp only[UQ,List.foldl_cons,UC]
    omega
theorem sV (isN:List UInt8->Bool)(p:Prg):∀ (l:List Svc) (N:NS) (i:Nat),(ixO (D0 isN p) N i l).1=[] ->
  (ixO (D0 isN p) N i l).2=(l.map Svc.name).foldl ff N/\((l.map Svc.name).foldl ff N).length=N.length+l.length
 | [],N,i,_=>⟨rfl,by simp⟩
 | x::r,N,i,h=>by
   rw[ixO] at h ⊢
   simp only[Vd] at h
   have hd:decide (x.name∈N)=false:=by
    have:=h.1
    simp only[D0,Vd,ek] at this
    exact this.2.1
   have:=sV isN p r (D0 isN p N x i).2 (i+1) h.2
   have e:(D0 isN p N x i).2=ff N x.name:=rfl
   rw[e] at this
   refine⟨?_,?_⟩
   ·rw[e];simpa using this.1
   ·have h2:=this.2
    rw[mS hd] at h2
    simp only[UQ,List.foldl_cons,UC]
    omega
def QC (p:Prg)(s:Stp):Prop:=(s.kind=13->fa p s.text=true)/\(decide (s.schema=[])=false->dN p s.schema=true)/\∀ c∈s.calls,ci p c.service=true
theorem ut {p:Prg}{rn:List UInt8}{pl:List Int}{s:Stp}(h:JF p rn pl s=[]):QC p s:=by
 simp only[JF,ND,toO,Vd,ek] at h
 obtain⟨h1,h2,h3⟩:=h
 refine⟨fun hk=>?_,fun hs=>?_,fun c hc=>?_⟩
 ·rw[if_pos hk] at h1
  simp only[Vd,ek] at h1
  simpa using h1.1
 ·rw[hs] at h2;simpa using h2
 ·obtain⟨i,hi⟩:=List.getElem?_of_mem hc
  have:=mq h3 hi
  simp only[ME,Vd,ek] at this
  simpa using this.1
def vG (w:Wkd):List UInt8:=nmW w.route w.place w.step
theorem sJ (isN:List UInt8->Bool)(p:Prg)(route:Int)(rn:List UInt8):∀ (ws:List Wkd) (N:NS) (pre:List Wkd),(∀ w∈ws,w.route=route)->(mO isN p route rn N pre ws).1=[] ->
  (mO isN p route rn N pre ws).2=(ws.map vG).foldl ff N/\((ws.map vG).foldl ff N).length=N.length+ws.length/\∀ w∈ws,QC p w.step
 | [],N,pre,_,_=>⟨rfl,by simp,by simp⟩
 | w::r,N,pre,hr,h=>by
   rw[mO] at h ⊢
   simp only[Vd] at h
   have hw:w.route=route:=hr w (by simp)
   have h1:=h.1
   simp only[stO,stF,Vd,ek] at h1
   obtain⟨_,hd,_,hf⟩:=h1
   have hsc:QC p w.step:=by
    split at hf
    ·exact ut hf
    ·simp[aL] at hf
   have:=sJ isN p route rn r (stO isN p route rn N w.step w.place (xA rn pre w.place)).2 (pre++[w]) (fun w hw=>hr w (by simp[hw])) h.2
   have e:(stO isN p route rn N w.step w.place (xA rn pre w.place)).2=ff N (vG w):=by rw[vG,hw];rfl
   rw[e] at this
   have hd':decide (vG w∈N)=false:=by rw[vG,hw];exact hd
   refine⟨?_,?_,?_⟩
   ·rw[e];simpa using this.1
   ·have h2:=this.2.1
    rw[mS hd'] at h2
    simp only[UQ,List.foldl_cons,UC]
    omega
   ·intro y hy
    rcases UP.1 hy with rfl | hy
    ·exact hsc
    ·exact this.2.2 y hy
theorem ip (route:Int):∀ (n:Nat) (p:List Int) (l:List Stp) (w:Wkd),w∈aF route n p l->w.route=route
 | 0,p,l,w,h=>by simp[aF] at h
 | n+1,p,l,w,h=>by
   rw[aF] at h
   obtain⟨i,s,hs,hw⟩:=bD h
   rcases UP.1 hw with rfl | hw
   ·rfl
   ·obtain⟨j,b,hb,hw⟩:=bD hw
    exact ip route n _ _ w hw
def Tw (p:Prg)(r:Rou):Prop:=fa p r.src=true/\px p r.src 2=false/\dZ r.steps=true
theorem nw (isN:List UInt8->Bool)(p:Prg)(n:Nat):∀ (l:List Rou) (N:NS) (k:Nat),(ixO (Oj isN p n) N k l).1=[] ->
  ((((l.zipIdx k).flatMap fun q=>aF q.2 n [] q.1.steps).map vG).foldl ff N).length=N.length+((l.zipIdx k).flatMap fun q=>aF q.2 n [] q.1.steps).length /\
  (∀ w∈(l.zipIdx k).flatMap fun q=>aF q.2 n [] q.1.steps,QC p w.step)/\∀ r∈l,Tw p r
 | [],N,k,_=>by simp
 | r::l,N,k,h=>by
   rw[ixO] at h
   simp only[Vd,Oj] at h
   obtain⟨⟨hA,hS⟩,hR⟩:=h
   have hmS:=sI isN p (k:Int) r.name n [] r.steps [] N (by simp)
   rw[<- hmS] at hS hR
   obtain⟨c1,c2,c3⟩:=sJ isN p (k:Int) r.name (aF (k:Int) n [] r.steps) N [] (fun w hw=>ip _ _ _ _ w hw) hS
   rw[c1] at hR
   obtain⟨d1,d2,d3⟩:=nw isN p n l _ (k+1) hR
   refine⟨?_,?_,?_⟩
   ·simp only[List.zipIdx_cons,Vx,List.map_append,List.foldl_append,List.length_append]
    rw[d1,c2];omega
   ·intro w hw
    simp only[List.zipIdx_cons,Vx] at hw
    rcases UY.1 hw with hw | hw
    ·exact c3 w hw
    ·exact d2 w hw
   ·intro x hx
    rcases UP.1 hx with rfl | hx
    ·simp only[Q1,Vd,ek] at hA
     exact⟨by simpa using hA.2.2.1,hA.2.2.2.1,by simpa using hA.2.2.2.2.2⟩
    ·exact d3 x hx
def Bp (n:Nat)(p:Prg):NS:=((cJ n p).map vG).foldl ff ((p.services.map Svc.name).foldl ff ((p.endpoints.map Enp.name).foldl ff []))
theorem vh (isN:List UInt8->Bool)(chk:Sch->Bool)(p:Prg)(n:Nat)(h:AN isN chk p n=[]) :
  (Bp n p).length=p.endpoints.length+p.services.length+(cJ n p).length/\(∀ w∈cJ n p,QC p w.step)/\∀ r∈p.routes,Tw p r:=by
 unfold AN at h
 split at h
 ·rename_i hL
  simp only[KQ,Vd] at h
  obtain⟨hT,hR⟩:=h
  simp only[thO,Vd] at hT hR
  obtain⟨_,_,hE,hS⟩:=hT
  obtain⟨e1,e2⟩:=sW isN p p.endpoints [] 0 hE
  rw[e1] at hS hR
  obtain⟨s1,s2⟩:=sV isN p p.services _ 0 hS
  rw[s1] at hR
  obtain⟨r1,r2,r3⟩:=nw isN p n p.routes _ 0 hR
  refine⟨?_,r2,r3⟩
  have:Bp n p=(((p.routes.zipIdx 0).flatMap fun q=>aF q.2 n [] q.1.steps).map vG).foldl ff ((p.services.map Svc.name).foldl ff ((p.endpoints.map Enp.name).foldl ff [])):=rfl
  rw[this,r1,s2,e2]
  have hw:cJ n p=(p.routes.zipIdx 0).flatMap fun q=>aF q.2 n [] q.1.steps:=rfl
  rw[hw]
  simp only[List.length_nil]
  omega
 ·rename_i hL
  exact absurd h hL
def yX:List PV->Option (List (List UInt8))
 | []=>some []
 | .str s::r=>match yX r with
   | some l=>some (s::l)
   | none=>none
 | _=>none
theorem sd:∀ {l:List PV} {ss:List (List UInt8)},yX l=some ss->l=ss.map .str
 | [],ss,h=>by simp only[yX,Option.some.injEq] at h;subst h;rfl
 | x::r,ss,h=>by
   unfold yX at h
   split at h
   ·cases ‹_::_=[]›
   ·rename_i s r' he
    cases he
    split at h
    ·rename_i l hl
     cases h
     rw[sd hl];rfl
    ·cases h
   ·cases h
def orc (f:Nat)(ps:List PV):Option PV:=
 match f with
 | 99=>match ps with
   | [.int .i64 n]=>if -9223372036854775808<=n/\n<=9223372036854775807 then some (.str (dQ n)) else none
   | _=>none
 | 100=>match ps with
   | [.list l,.str s]=>match yX l with
     | some ss=>if ss.length<=140737488355328/\(dj s ss).length<=140737488355328 then some (.str (dj s ss)) else none
     | none=>none
   | _=>none
 | _=>none
theorem OH:∀ f ps r,orc f ps=some r->ap Tryz.prog aB f ps r:=by
 intro f ps r h
 unfold orc at h
 split at h
 ·split at h
  ·split at h
   ·rename_i hh
    cases h
    exact B3 _ hh.1 hh.2
   ·cases h
  ·cases h
 ·split at h
  ·split at h
   ·rename_i hs
    split at h
    ·rename_i hh
     cases h
     rw[sd hs]
     exact BZ _ _ hh.1 hh.2
    ·cases h
   ·cases h
  ·cases h
 ·cases h
noncomputable def tab:List TabRow:=[
 ⟨6,[],gF Tryz.prog 6 []⟩,
 ⟨20,[],gF Tryz.prog 20 []⟩,
 ⟨21,[],gF Tryz.prog 21 []⟩,
 ⟨22,[1],Q22.1⟩,
 ⟨47,[2,3],Q47.1⟩,
 ⟨96,[],Q96.1⟩,
 ⟨113,[15,34],Jd.1⟩,
 ⟨97,[],Q97.1⟩,
 ⟨85,[],Q85.1⟩,
 ⟨98,[],Q98.1⟩,
 ⟨121,[],QJ.1⟩,
 ⟨114,[],QQ.1⟩,
 ⟨117,[],QN.1⟩,
 ⟨118,[],QM.1⟩,
 ⟨119,[],QL.1⟩,
 ⟨120,[1],QK.1⟩,
 ⟨115,[1],QP.1⟩,
 ⟨116,[1],QO.1⟩,
 ⟨23,[],gF Tryz.prog 23 []⟩,
 ⟨24,[],Q24.1⟩,
 ⟨48,[],Q48.1⟩,
 ⟨25,[],Q25.1⟩,
 ⟨26,[1],Q26.1⟩,
 ⟨49,[],Q49.1⟩,
 ⟨50,[1],Q50.1⟩,
 ⟨101,[],QS.1⟩]
theorem Ny:∀ r∈tab,cFn Tryz.prog r.muts r.f=some r.fn:=by
 intro r hr
 simp only[tab,UP,List.not_mem_nil,or_false] at hr
 rcases hr with rfl | rfl | rfl | rfl | rfl | rfl | rfl | rfl | rfl | rfl | rfl | rfl | rfl | rfl | rfl | rfl | rfl | rfl | rfl | rfl | rfl | rfl | rfl | rfl | rfl | rfl
 ·kernel_rfl
 ·kernel_rfl
 ·kernel_rfl
 ·exact Q22.2
 ·exact Q47.2
 ·exact Q96.2
 ·exact Jd.2
 ·exact Q97.2
 ·exact Q85.2
 ·exact Q98.2
 ·exact QJ.2
 ·exact QQ.2
 ·exact QN.2
 ·exact QM.2
 ·exact QL.2
 ·exact QK.2
 ·exact QP.2
 ·exact QO.2
 ·kernel_rfl
 ·exact Q24.2
 ·exact Q48.2
 ·exact Q25.2
 ·exact Q26.2
 ·exact Q49.2
 ·exact Q50.2
 ·exact QS.2
theorem GN:AS (exF tab orc aB 2000 30) 6 []=some (.bool true):=by kernel_rfl
theorem GM:ap Tryz.prog aB 6 [] (.bool true):=ap.of_ex Ny OH GN
theorem kQ {rec:Val->Val}{on:Bool}(hr:on=true->∀ v,v.ok->(rec v).ok)(v:Val)(h:v.ok):(gS rec on v).ok:=by
 obtain⟨a,b,c,d,e,f⟩:=v
 rw[Un] at h
 rw[gS,Un]
 obtain⟨h1,h2,h3,h4,h5,h6,h7,h8⟩:=h
 refine⟨h1,h2,h3,(by first | exact aO h4 | exact aH h4),?_,?_,?_,?_⟩
 ·split
  ·rw[U0];exact (by first | exact aO h5 | exact aH h5)
  ·simp
 ·split
  ·rename_i hon
   intro x hx
   obtain⟨y,hy,rfl⟩:=UO.1 hx
   exact hr hon y (bm h6 _ hy)
  ·simp
 ·split
  ·rw[U0];exact (by first | exact aO h7 | exact aH h7)
  ·simp
 ·split
  ·rename_i hon
   intro x hx
   obtain⟨⟨y,z⟩,hy,rfl⟩:=UO.1 hx
   have:=bm h8 _ hy
   rw[TX] at this
   rw[jm,TX]
   exact⟨(by first | exact aO this.1 | exact aH this.1),hr hon z this.2⟩
  ·simp
theorem nl:∀ (n:Nat) (v:Val),v.ok->(bU n v).ok
 | 0,v,h=>kQ (fun h=>by cases h) v h
 | n+1,v,h=>kQ (fun _ v hv=>nl n v hv) v h
theorem kR {rec:Typ->Typ}{on:Bool}(hr:on=true->∀ v,v.ok->(rec v).ok)(v:Typ)(h:v.ok):(gT rec on v).ok:=by
 obtain⟨a,b,c,d,w,e,f⟩:=v
 rw[Ul] at h
 rw[gT,Ul]
 obtain⟨h1,h2,h3,h4,h5,h6,h7,h8,h9,h10⟩:=h
 refine⟨h1,h2,h3,h4,?_,?_,?_,?_,?_,?_⟩
 ·rw[U0];exact (by first | exact aO h5 | exact aH h5)
 ·intro x hx
  obtain⟨y,hy,rfl⟩:=UO.1 hx
  exact (by first | exact aO (bm h6 _ hy) | exact aH (bm h6 _ hy))
 ·split
  ·rw[U0];exact (by first | exact aO h7 | exact aH h7)
  ·simp
 ·split
  ·rename_i hon
   intro x hx
   obtain⟨y,hy,rfl⟩:=UO.1 hx
   exact hr hon y (bm h8 _ hy)
  ·simp
 ·split
  ·rw[U0];exact (by first | exact aO h9 | exact aH h9)
  ·simp
 ·split
  ·rename_i hon
   intro x hx
   obtain⟨⟨a,b,c,t,d⟩,hy,rfl⟩:=UO.1 hx
   have:=bm h10 _ hy
   rw[Ug] at this
   rw[fP,Ug]
   obtain⟨k1,k2,k3,k4,k5,k6⟩:=this
   refine⟨k1,(by first | exact aO k2 | exact aH k2),k3,hr hon t k4,by rw[U0];exact (by first | exact aO k5 | exact aH k5),fun x hx=>?_⟩
   obtain⟨y,hy,rfl⟩:=UO.1 hx
   exact nl 3 y (bm k6 _ hy)
  ·simp
theorem np:∀ (n:Nat) (v:Typ),v.ok->(cq n v).ok
 | 0,v,h=>kR (fun h=>by cases h) v h
 | n+1,v,h=>kR (fun _ v hv=>np n v hv) v h
theorem zq (p:Prg)(h:p.ok):(eE p).ok:=by
 obtain⟨v,ss,es,ws,rs⟩:=p
 rw[T3] at h
 rw[eE,T3]
 obtain⟨h1,h2,h3,h4,h5,h6,h7,h8,h9⟩:=h
 refine⟨h1,?_,?_,?_,?_,?_,?_,?_,?_⟩
 ·rw[U0];exact (by first | exact aO h2 | exact aH h2)
 ·intro x hx
  obtain⟨⟨a,b,c⟩,hy,rfl⟩:=UO.1 hx
  have:=bm h3 _ hy
  rw[Ua] at this
  rw[j1,Ua]
  exact⟨(by first | exact aO this.1 | exact aH this.1),this.2.1,np 4 _ this.2.2⟩
 ·rw[U0];exact (by first | exact aO h4 | exact aH h4)
 ·intro x hx
  obtain⟨⟨a,b,c,d,⟨e,f,g⟩⟩,hy,rfl⟩:=UO.1 hx
  have:=bm h5 _ hy
  rw[TT,TZ] at this
  rw[j2,C2,TT,TZ]
  obtain⟨k1,k2,k3,k4,k5,k6,k7,k8⟩:=this
  exact⟨(by first | exact aO k1 | exact aH k1),k2,(by first | exact aO k3 | exact aH k3),k4,k5,k6,(by first | exact aO k7 | exact aH k7),bm k8⟩
 ·rw[U0];exact (by first | exact aO h6 | exact aH h6)
 ·intro x hx
  obtain⟨⟨a,b,c,d⟩,hy,rfl⟩:=UO.1 hx
  have:=bm h7 _ hy
  rw[Ue] at this
  rw[j0,Ue]
  exact⟨(by first | exact aO this.1 | exact aH this.1),(by first | exact aO this.2.1 | exact aH this.2.1),(by first | exact aO this.2.2 | exact aH this.2.2)⟩
 ·rw[U0];exact (by first | exact aO h8 | exact aH h8)
 ·intro x hx
  obtain⟨⟨a,b,c⟩,hy,rfl⟩:=UO.1 hx
  have:=bm h9 _ hy
  rw[T5] at this
  rw[gH,T5]
  have hq:=jk 4 c ⟨this.2.2.1,this.2.2.2⟩
  exact⟨(by first | exact aO this.1 | exact aH this.1),(by first | exact aO this.2.1 | exact aH this.2.1),hq.1,hq.2⟩
theorem kV:∀ (n:Nat) (l:List Stp),Bnd (n+1) (bC n l)
 | 0,l=>by
   refine⟨fm 0 l,fun s hs=>?_⟩
   rw[bC] at hs
   obtain⟨y,hy,rfl⟩:=UO.1 hs
   obtain⟨a,b,c,d,e,f,g,h,i,j,k⟩:=y
   have hb:(dx id false (Stp.mk a b c d e f g h i j k)).branches=[]:=_root_.id rfl
   rw[hb]
   exact⟨by simp,by simp⟩
 | n+1,l=>by
   refine⟨fm (n+1) l,fun s hs=>?_⟩
   rw[bC] at hs
   obtain⟨y,hy,rfl⟩:=UO.1 hs
   obtain⟨a,b,c,d,e,f,g,h,i,j,k⟩:=y
   have hb:(dx (bC n) true (Stp.mk a b c d e f g h i j k)).branches=(k.take 4).map (Mn (bC n)):=_root_.id rfl
   rw[hb]
   refine⟨by simp;omega,fun x hx=>?_⟩
   obtain⟨⟨w,m⟩,_,rfl⟩:=UO.1 hx
   exact kV n m
theorem iD (r:Rou):(gH r).steps=bC 4 r.steps:=by
 obtain⟨a,b,c⟩:=r;rfl
theorem gd (p:Prg):(eE p).routes=(p.routes.take 6).map gH:=by
 obtain⟨v,ss,es,ws,rs⟩:=p;rfl
theorem uB (p:Prg)(hp:p.ok):okW 5 (eE p):=by
 rw[okW,gd]
 refine⟨by simp;omega,fun r hr=>?_⟩
 obtain⟨y,hy,rfl⟩:=UO.1 hr
 rw[iD]
 refine⟨kV 4 _,jk 4 _ ?_⟩
 obtain⟨v,ss,es,ws,rs⟩:=p
 rw[T3] at hp
 obtain⟨_,_,_,_,_,_,_,_,hro⟩:=hp
 have:=hro y (List.mem_of_mem_take hy)
 obtain⟨a,b,c⟩:=y
 rw[T5] at this
 exact⟨this.2.2.1,this.2.2.2⟩
