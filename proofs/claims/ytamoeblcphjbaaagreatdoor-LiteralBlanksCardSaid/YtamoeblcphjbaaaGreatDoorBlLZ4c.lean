/- A part. -/
import Derived.Test.YtamoeblcphjbaaaGreatDoorBlLZ3
set_option linter.unusedVariables false
set_option linter.unusedSimpArgs false
set_option maxHeartbeats 16000000
set_option maxRecDepth 100000
open List renaming cons_append->UJ,nil_append->UK,mem_cons->UX,length_append->Us,length_nil->Ux,map_cons->UE,map_nil->Vi,length_singleton->UL,length_cons->Ut
open Nat renaming le_refl->UA,zero_le->U8
namespace Go.Proofs.YtamoeblcphjbaaaGreatDoor
open Go Go.Ab
attribute [local irreducible] vc
theorem Aw (x:TFd):∃ cs,x.pv = .agg cs/\cs.length=11/\∀ q∈cs,q.one=true:=by
 obtain⟨n,nm,nd,⟨k,m,M,s,w,e,f⟩,d⟩:=x
 refine⟨_,by rw[Ue,Ul],rfl,fun q hq=>?_⟩
 simp only[PV.cells,UJ,UK,UX,List.not_mem_nil,or_false] at hq
 rcases hq with rfl | rfl | rfl | rfl | rfl | rfl | rfl | rfl | rfl | rfl | rfl<;>rfl
def zTC:List PV:=[.int .i64 0,.str [],.int .i64 0,.int .i64 0,.int .i64 0,.int .i64 0,.int .i64 0,.nils,.nils,.nils,.nils]
theorem iN (l:List TFd):(bD (l.map TFd.pv)).length=l.length*11:=by
 exact fX TFd.cells_len l
def KQ (l:List TFd):List AV:=bD (l.map TFd.pv)++zTC.map .pv
theorem oh (l:List TFd):(KQ l).length=l.length*11+11:=by unfold KQ;rw[Us,iN];rfl
theorem Qy (l:List TFd)(hl:l.length<=65540)(new q:Nat):tH 60 11 160 new q 11 0 l.length [.agg zTC] (.cells 60 false (bD (l.map TFd.pv)))=some (.row new 11 0 (l.length+1),[(q,.none),(new,.cells 60 false (KQ l))]):=by
 rw[kC (by rw[iN];exact UA _) (by simp;omega) (by simp;omega),List.take_of_length_le (by rw[iN];exact UA _)]
 rfl
theorem oc (r:Nat)(l:List TFd)(x:TFd):AL r 60 false (KQ l) 11 (l.length*11) (x.pv.cells.map AV.pv) true=some [(r,.cells 60 false (bD ((l++[x]).map TFd.pv)))]:=by
 rw[um]
 have e1:(KQ l).take (l.length*11)=bD (l.map TFd.pv):=by unfold KQ;exact List.take_left' (iN l)
 have e2:(KQ l).drop (l.length*11+11)=[]:=List.drop_eq_nil_of_le (by rw[oh];exact UA _)
 have e3:bD ((l++[x]).map TFd.pv)=bD (l.map TFd.pv)++x.pv.cells.map AV.pv:=by simp[bD]
 rw[e1,e2,e3,List.append_nil]
section
variable {T:Nat}{p:PV}
theorem CO (K:Int)(hK:K=9\/K=10)(R:Rd)(d:Nat)(hd:d<8)(hR:OkR R)(hT:OkT R)(h0:R.e=0)(hk:R.now.kind=1)(hw:bt R.now.text=K)(kd:Rd->Typ×Rd)(val:Rd->Val×Rd)(s:List UInt8)(hsl:s.length<=65536)(hks:zm kd s)(hkc:N2 T p kd s (d+1))(hv:mI val s)(hvc:Nd T p val s 0)(hs:R.s=s) :
  aI Tryz.prog (bE T p) 1 56 [.ptr 0 0,.pv (.int .i64 (d:Int))] [rdB R] (.pv (bX kd val K (aq (aT R) [40])).1.pv) [rdB (aq (bX kd val K (aq (aT R) [40])).2 [41])]:=by
 have h0I:(R.e=0)=True:=eq_true h0
 have hkI:(R.now.kind=1)=True:=eq_true hk
 have hdI:¬ (8:Int)<=(d:Int):=by omega
 have hadv:=bx (T:=T) (p:=p) R hR
 have hfind:=toE (T:=T) (p:=p) (e9 R.now.text)
 have hst:=(aQ hR hT).1
 have hK0:¬ K=0:=by omega
 rw[hw,if_neg hK0] at hfind
 have hop:=aJ (T:=T) (p:=p) (aT R) [40] hst.1
 have s0:=aG (t:=[40]) hst.1 hst.2.1
 have hs2:(aq (aT R) [40]).s=s:=s0.2.2.1.trans (hst.2.2.1.trans hs)
 clear hst hR hT
 generalize aT R=R1 at *
 generalize aq R1 [40]=R2 at *
 have hI:=yc (T:=T) (p:=p) R2 [41]
 have hfld:=fun L h1 h2 h3=>HD (T:=T) (p:=p) kd val s d (by omega) hks hkc hvc L h1 h2 h3
 have hfs:Rs (pl kd val) s:=fun R h ht q=>j8 hks hv h ht q
 have e1:bX kd val K R2=(.mk K 0 0 0 [] [] (gq (pl kd val) (R2.s.length+3) (!isT R2 [41]) [] R2).1,(gq (pl kd val) (R2.s.length+3) (!isT R2 [41]) [] R2).2):=by
  rcases hK with rfl | rfl<;>rfl
 rw[e1]
 clear e1 hks hkc hv hvc
 generalize pl kd val=fld at *
 obtain⟨Z,hZ⟩:∃ Z,Z=gq fld (R2.s.length+3) (!isT R2 [41]) [] R2:=⟨_,rfl⟩
 have hbz:jk 11 1 [.pv (.agg zTC)]=some (.pv (.list [.agg zTC]),[]):=fS rfl rfl
 simp only[zTC] at hbz
 rw[<- hZ]
 rw[hs2] at hZ
 generalize isT R2 [41]=fi at *
 simp only[rdB,rdC,tkP] at hadv hop hI ⊢
 rcases hK with rfl | rfl
 ·refine aI.intro zj.2 (by simp[zj]) ?_
  simp(maxSteps:=9^7) (disch:=try exact dI) only[zj,h0I,hkI,hdI,push_cast,seval]
  refine ae.lentK hadv [0] rfl qsZ qsZ ?_
  simp(maxSteps:=9^7) (disch:=try exact dI) only[push_cast,seval]
  refine ae.pure hfind rfl ?_
  simp(maxSteps:=9^7) (disch:=try exact dI) only[push_cast,seval]
  refine ae.lentK hop [0] rfl qsZ qsZ ?_
  simp(maxSteps:=9^7) (disch:=try exact dI) only[push_cast,seval]
  refine ae.lentK hI [0] rfl qsZ qsZ ?_
  simp(maxSteps:=9^7) (disch:=try exact dI) only[push_cast,seval]
  refine aK ([(8,7,1000060,11)]) (fun y:Bool×List TFd×Rd=>[(9,.pv (.bool y.1))]) (fun y=>[(0,rdB y.2.2),(3,.cells 48 true [.pv (.int .i64 9),.pv (.int .i64 0),.pv (.int .i64 0),.pv (.int .i64 0),.pv .nils,.pv .nils,.row 4 11 0 y.2.1.length]),(4,.cells 60 false (bD (y.2.1.map TFd.pv)))]) (fun y=>OkR y.2.2/\OkT y.2.2/\y.2.2.s=s/\y.2.1.length+msr y.2.2<=s.length+1/\∃ k,msr y.2.2<k/\Z=gq fld k y.1 y.2.1 y.2.2) (fun y=>msr y.2.2) ((!fi,[],R2)) ?_;intro e0 σ0 n0 h0;simp(maxSteps:=9^7) (disch:=try exact dI) only[push_cast,seval] at h0;obtain⟨rfl,rfl,rfl⟩:=h0;refine⟨?_,?_,?_⟩
  ·simp(maxSteps:=9^7) (disch:=try exact dI) only[rdB,rdC,bD,List.flatMap_nil,push_cast,seval]
  ·refine⟨s0.1,s0.2.1,hs2,?_,s.length+3,?_,hZ⟩
   ·simp only[Ux,msr,hs2];split<;>omega
   ·simp only[msr,hs2];split<;>omega
  rintro⟨b,l,L⟩ ⟨h1,h2,h3,h4,k,hk',hZk⟩
  simp only at h1 h2 h3 h4 hk' hZk
  obtain⟨k,rfl⟩:∃ j,k=j+1:=⟨k - 1,by omega⟩
  have hex:=aJ (T:=T) (p:=p) L [41] h1
  have hl:l.length<=65540:=by omega
  have hfz:=fun (n r:Nat) (hn:n=l.length)=>oN (sz:=11) (f:=TFd.pv) Aw (by omega) l (n:=n) (r:=r) (T:=60) (b:=false) hn
  have hap:=Qy l hl
  simp only[zTC] at hap
  have hzl:=oh l
  by_cases he:L.e=0
  rotate_left
  ·rw[qN he] at hZk
   subst hZk
   simp only[rdB,rdC] at hex
   simp(maxSteps:=9^7) (disch:=try exact dI) only[rdB,rdC,he,push_cast,seval]
   refine ae.lentK hex [0] rfl qsZ qsZ ?_
   simp(maxSteps:=9^7) (disch:=try exact dI) only[hfz,push_cast,seval]
   exact am [] (by simp(maxSteps:=9^7) (disch:=try exact dI) only[rdB,rdC,Ul,push_cast,seval])
  have heI:(L.e=0)=True:=eq_true he
  cases b with
  | true=>
    rw[qR he] at hZk
    have hcall:=hfld L h1 h2 h3
    obtain⟨g1,g2,g3⟩:=hfs L h1 h2 h3
    have hm:=fo h1 he g2 g3
    generalize fld L=q at *
    obtain⟨x,L2⟩:=q
    simp only at hcall hZk g1 g2 g3 hm
    have hst:=fun r=>oc r l x
    have hml:l.length+1+msr L2<=s.length+1:=by omega
    obtain⟨n,nm,nd,⟨t1,t2,t3,t4,t5,t6,t7⟩,dv⟩:=x
    simp only[Ue,Ul,aw,PV.cells,UE,Vi,UJ,UK] at hst hcall
    simp only[rdB,rdC] at hcall
    simp(maxSteps:=9^7) (disch:=try exact dI) only[rdB,rdC,heI,push_cast,seval]
    refine aX hcall [0] rfl qsZ qsZ ?_
    simp(maxSteps:=9^7) (disch:=try exact dI) only[hbz,hap,hzl,hst,push_cast,seval]
    exact⟨(false,l++[.mk n nm nd (.mk t1 t2 t3 t4 t5 t6 t7) dv],L2),bu (by simp(maxSteps:=9^7) (disch:=try exact dI) only[rdB,rdC,Us,push_cast,seval]),⟨g2.1,g2.2.1,g2.2.2.1.trans h3,by simp only[Us,UL];omega,k,by simp only;omega,hZk⟩,by simp only;omega⟩
  | false=>
    by_cases hl0:0<l.length
    rotate_left
    ·rw[qO hl0] at hZk
     subst hZk
     have hl0I:¬ (0:Int)<(l.length:Int):=by omega
     simp only[rdB,rdC] at hex
     simp(maxSteps:=9^7) (disch:=try exact dI) only[rdB,rdC,heI,hl0I,push_cast,seval]
     refine ae.lentK hex [0] rfl qsZ qsZ ?_
     simp(maxSteps:=9^7) (disch:=try exact dI) only[hfz,push_cast,seval]
     exact am [] (by simp(maxSteps:=9^7) (disch:=try exact dI) only[rdB,rdC,Ul,push_cast,seval])
    have hl0I:(0:Int)<(l.length:Int):=by omega
    have hac:=eM (T:=T) (p:=p) L [44] h1
    have hav:bp L [44]=if isT L [44]=true then (true,aT L) else (false,L):=rfl
    rw[hav] at hac
    cases hi:isT L [44] with
    | true=>
      rw[hi,if_pos rfl] at hac
      rw[qQ he hl0 hi] at hZk
      obtain⟨a1,a2⟩:=aQ h1 h2
      have hcall:=hfld (aT L) a1.1 a1.2.1 (a1.2.2.1.trans h3)
      obtain⟨g1,g0,g3⟩:=hfs (aT L) a1.1 a1.2.1 (a1.2.2.1.trans h3)
      have g2:=a1.trans g0
      have hm:msr (fld (aT L)).2<msr L:=fo h1 he g2 fun q=>by
       have:=g3 q
       have:=(a1.2.2.2 (g0.2.2.2 q).1).2
       omega
      clear g0
      generalize aT L=L1 at *
      generalize fld L1=q at *
      obtain⟨x,L2⟩:=q
      simp only at hcall hZk g1 g2 g3 hm
      have hst:=fun r=>oc r l x
      have hml:l.length+1+msr L2<=s.length+1:=by omega
      obtain⟨n,nm,nd,⟨t1,t2,t3,t4,t5,t6,t7⟩,dv⟩:=x
      simp only[Ue,Ul,aw,PV.cells,UE,Vi,UJ,UK] at hst hcall
      simp only[rdB,rdC] at hcall hac
      simp(maxSteps:=9^7) (disch:=try exact dI) only[rdB,rdC,heI,hl0I,push_cast,seval]
      refine ae.lentK hac [0] rfl qsZ qsZ ?_
      simp(maxSteps:=9^7) (disch:=try exact dI) only[push_cast,seval]
      refine aX hcall [0] rfl qsZ qsZ ?_
      simp(maxSteps:=9^7) (disch:=try exact dI) only[hbz,hap,hzl,hst,push_cast,seval]
      exact⟨(false,l++[.mk n nm nd (.mk t1 t2 t3 t4 t5 t6 t7) dv],L2),bu (by simp(maxSteps:=9^7) (disch:=try exact dI) only[rdB,rdC,Us,push_cast,seval]),⟨g2.1,g2.2.1,g2.2.2.1.trans h3,by simp only[Us,UL];omega,k,by simp only;omega,hZk⟩,by simp only;omega⟩
    | false=>
      rw[hi,if_neg (by decide)] at hac
      rw[qP he hl0 hi] at hZk
      subst hZk
      simp only[rdB,rdC] at hex hac
      simp(maxSteps:=9^7) (disch:=try exact dI) only[rdB,rdC,heI,hl0I,push_cast,seval]
      refine ae.lentK hac [0] rfl qsZ qsZ ?_
      simp(maxSteps:=9^7) (disch:=try exact dI) only[push_cast,seval]
      refine ae.lentK hex [0] rfl qsZ qsZ ?_
      simp(maxSteps:=9^7) (disch:=try exact dI) only[hfz,push_cast,seval]
      exact am [] (by simp(maxSteps:=9^7) (disch:=try exact dI) only[rdB,rdC,Ul,push_cast,seval])
 ·refine aI.intro zj.2 (by simp[zj]) ?_
  simp(maxSteps:=9^7) (disch:=try exact dI) only[zj,h0I,hkI,hdI,push_cast,seval]
  refine ae.lentK hadv [0] rfl qsZ qsZ ?_
  simp(maxSteps:=9^7) (disch:=try exact dI) only[push_cast,seval]
  refine ae.pure hfind rfl ?_
  simp(maxSteps:=9^7) (disch:=try exact dI) only[push_cast,seval]
  refine ae.lentK hop [0] rfl qsZ qsZ ?_
  simp(maxSteps:=9^7) (disch:=try exact dI) only[push_cast,seval]
  refine ae.lentK hI [0] rfl qsZ qsZ ?_
  simp(maxSteps:=9^7) (disch:=try exact dI) only[push_cast,seval]
  refine aK ([(8,7,1000060,11)]) (fun y:Bool×List TFd×Rd=>[(9,.pv (.bool y.1))]) (fun y=>[(0,rdB y.2.2),(3,.cells 48 true [.pv (.int .i64 10),.pv (.int .i64 0),.pv (.int .i64 0),.pv (.int .i64 0),.pv .nils,.pv .nils,.row 4 11 0 y.2.1.length]),(4,.cells 60 false (bD (y.2.1.map TFd.pv)))]) (fun y=>OkR y.2.2/\OkT y.2.2/\y.2.2.s=s/\y.2.1.length+msr y.2.2<=s.length+1/\∃ k,msr y.2.2<k/\Z=gq fld k y.1 y.2.1 y.2.2) (fun y=>msr y.2.2) ((!fi,[],R2)) ?_;intro e0 σ0 n0 h0;simp(maxSteps:=9^7) (disch:=try exact dI) only[push_cast,seval] at h0;obtain⟨rfl,rfl,rfl⟩:=h0;refine⟨?_,?_,?_⟩
  ·simp(maxSteps:=9^7) (disch:=try exact dI) only[rdB,rdC,bD,List.flatMap_nil,push_cast,seval]
  ·refine⟨s0.1,s0.2.1,hs2,?_,s.length+3,?_,hZ⟩
   ·simp only[Ux,msr,hs2];split<;>omega
   ·simp only[msr,hs2];split<;>omega
  rintro⟨b,l,L⟩ ⟨h1,h2,h3,h4,k,hk',hZk⟩
  simp only at h1 h2 h3 h4 hk' hZk
  obtain⟨k,rfl⟩:∃ j,k=j+1:=⟨k - 1,by omega⟩
  have hex:=aJ (T:=T) (p:=p) L [41] h1
  have hl:l.length<=65540:=by omega
  have hfz:=fun (n r:Nat) (hn:n=l.length)=>oN (sz:=11) (f:=TFd.pv) Aw (by omega) l (n:=n) (r:=r) (T:=60) (b:=false) hn
  have hap:=Qy l hl
  simp only[zTC] at hap
  have hzl:=oh l
  by_cases he:L.e=0
  rotate_left
  ·rw[qN he] at hZk
   subst hZk
   simp only[rdB,rdC] at hex
   simp(maxSteps:=9^7) (disch:=try exact dI) only[rdB,rdC,he,push_cast,seval]
   refine ae.lentK hex [0] rfl qsZ qsZ ?_
   simp(maxSteps:=9^7) (disch:=try exact dI) only[hfz,push_cast,seval]
   exact am [] (by simp(maxSteps:=9^7) (disch:=try exact dI) only[rdB,rdC,Ul,push_cast,seval])
  have heI:(L.e=0)=True:=eq_true he
  cases b with
  | true=>
    rw[qR he] at hZk
    have hcall:=hfld L h1 h2 h3
    obtain⟨g1,g2,g3⟩:=hfs L h1 h2 h3
    have hm:=fo h1 he g2 g3
    generalize fld L=q at *
    obtain⟨x,L2⟩:=q
    simp only at hcall hZk g1 g2 g3 hm
    have hst:=fun r=>oc r l x
    have hml:l.length+1+msr L2<=s.length+1:=by omega
    obtain⟨n,nm,nd,⟨t1,t2,t3,t4,t5,t6,t7⟩,dv⟩:=x
    simp only[Ue,Ul,aw,PV.cells,UE,Vi,UJ,UK] at hst hcall
    simp only[rdB,rdC] at hcall
    simp(maxSteps:=9^7) (disch:=try exact dI) only[rdB,rdC,heI,push_cast,seval]
    refine aX hcall [0] rfl qsZ qsZ ?_
    simp(maxSteps:=9^7) (disch:=try exact dI) only[hbz,hap,hzl,hst,push_cast,seval]
    exact⟨(false,l++[.mk n nm nd (.mk t1 t2 t3 t4 t5 t6 t7) dv],L2),bu (by simp(maxSteps:=9^7) (disch:=try exact dI) only[rdB,rdC,Us,push_cast,seval]),⟨g2.1,g2.2.1,g2.2.2.1.trans h3,by simp only[Us,UL];omega,k,by simp only;omega,hZk⟩,by simp only;omega⟩
  | false=>
    by_cases hl0:0<l.length
    rotate_left
    ·rw[qO hl0] at hZk
     subst hZk
     have hl0I:¬ (0:Int)<(l.length:Int):=by omega
     simp only[rdB,rdC] at hex
     simp(maxSteps:=9^7) (disch:=try exact dI) only[rdB,rdC,heI,hl0I,push_cast,seval]
     refine ae.lentK hex [0] rfl qsZ qsZ ?_
     simp(maxSteps:=9^7) (disch:=try exact dI) only[hfz,push_cast,seval]
     exact am [] (by simp(maxSteps:=9^7) (disch:=try exact dI) only[rdB,rdC,Ul,push_cast,seval])
    have hl0I:(0:Int)<(l.length:Int):=by omega
    have hac:=eM (T:=T) (p:=p) L [44] h1
    have hav:bp L [44]=if isT L [44]=true then (true,aT L) else (false,L):=rfl
    rw[hav] at hac
    cases hi:isT L [44] with
    | true=>
      rw[hi,if_pos rfl] at hac
      rw[qQ he hl0 hi] at hZk
      obtain⟨a1,a2⟩:=aQ h1 h2
      have hcall:=hfld (aT L) a1.1 a1.2.1 (a1.2.2.1.trans h3)
      obtain⟨g1,g0,g3⟩:=hfs (aT L) a1.1 a1.2.1 (a1.2.2.1.trans h3)
      have g2:=a1.trans g0
      have hm:msr (fld (aT L)).2<msr L:=fo h1 he g2 fun q=>by
       have:=g3 q
       have:=(a1.2.2.2 (g0.2.2.2 q).1).2
       omega
      clear g0
      generalize aT L=L1 at *
      generalize fld L1=q at *
      obtain⟨x,L2⟩:=q
      simp only at hcall hZk g1 g2 g3 hm
      have hst:=fun r=>oc r l x
      have hml:l.length+1+msr L2<=s.length+1:=by omega
      obtain⟨n,nm,nd,⟨t1,t2,t3,t4,t5,t6,t7⟩,dv⟩:=x
      simp only[Ue,Ul,aw,PV.cells,UE,Vi,UJ,UK] at hst hcall
      simp only[rdB,rdC] at hcall hac
      simp(maxSteps:=9^7) (disch:=try exact dI) only[rdB,rdC,heI,hl0I,push_cast,seval]
      refine ae.lentK hac [0] rfl qsZ qsZ ?_
      simp(maxSteps:=9^7) (disch:=try exact dI) only[push_cast,seval]
      refine aX hcall [0] rfl qsZ qsZ ?_
      simp(maxSteps:=9^7) (disch:=try exact dI) only[hbz,hap,hzl,hst,push_cast,seval]
      exact⟨(false,l++[.mk n nm nd (.mk t1 t2 t3 t4 t5 t6 t7) dv],L2),bu (by simp(maxSteps:=9^7) (disch:=try exact dI) only[rdB,rdC,Us,push_cast,seval]),⟨g2.1,g2.2.1,g2.2.2.1.trans h3,by simp only[Us,UL];omega,k,by simp only;omega,hZk⟩,by simp only;omega⟩
    | false=>
      rw[hi,if_neg (by decide)] at hac
      rw[qP he hl0 hi] at hZk
      subst hZk
      simp only[rdB,rdC] at hex hac
      simp(maxSteps:=9^7) (disch:=try exact dI) only[rdB,rdC,heI,hl0I,push_cast,seval]
      refine ae.lentK hac [0] rfl qsZ qsZ ?_
      simp(maxSteps:=9^7) (disch:=try exact dI) only[push_cast,seval]
      refine ae.lentK hex [0] rfl qsZ qsZ ?_
      simp(maxSteps:=9^7) (disch:=try exact dI) only[hfz,push_cast,seval]
      exact am [] (by simp(maxSteps:=9^7) (disch:=try exact dI) only[rdB,rdC,Ul,push_cast,seval])
end
theorem qH (c:UInt8):au Tryz.prog aH 111 [.int .u8 (c.toNat:Int)] (.bool (aM c)):=by
 refine au.intro Nj.2 (by simp[Nj]) ?_
 by_cases h1:97<=c.toNat
 ·have h1I:(97:Int)<=(c.toNat:Int):=by omega
  by_cases h2:c.toNat<=122
  ·have h2I:(c.toNat:Int)<=122:=by omega
   rw[show aM c=true by simp[aM,h1,h2]]
   simp(disch:=try exact dI) only[Nj,h1I,h2I,push_cast,seval]
  ·have h2I:¬ (c.toNat:Int)<=122:=by omega
   rw[show aM c=false by simp[aM,h2];omega]
   have h3I:(65:Int)<=(c.toNat:Int):=by omega
   have h4I:¬ (c.toNat:Int)<=90:=by omega
   simp(disch:=try exact dI) only[Nj,h1I,h2I,h3I,h4I,push_cast,seval]
 ·have h1I:¬ (97:Int)<=(c.toNat:Int):=by omega
  by_cases h3:65<=c.toNat
  ·have h3I:(65:Int)<=(c.toNat:Int):=by omega
   by_cases h4:c.toNat<=90
   ·have h4I:(c.toNat:Int)<=90:=by omega
    rw[show aM c=true by simp[aM,h3,h4]]
    simp(disch:=try exact dI) only[Nj,h1I,h3I,h4I,push_cast,seval]
   ·have h4I:¬ (c.toNat:Int)<=90:=by omega
    rw[show aM c=false by simp[aM,h1,h4]]
    simp(disch:=try exact dI) only[Nj,h1I,h3I,h4I,push_cast,seval]
  ·have h3I:¬ (65:Int)<=(c.toNat:Int):=by omega
   rw[show aM c=false by simp[aM,h1,h3]]
   simp(disch:=try exact dI) only[Nj,h1I,h3I,push_cast,seval]
theorem ec (c:UInt8):au Tryz.prog aH 112 [.int .u8 (c.toNat:Int)] (.bool (isD c)):=by
 refine au.intro QS.2 (by simp[QS]) ?_
 by_cases h1:48<=c.toNat
 ·have h1I:(48:Int)<=(c.toNat:Int):=by omega
  by_cases h2:c.toNat<=57
  ·have h2I:(c.toNat:Int)<=57:=by omega
   rw[show isD c=true by simp[isD,h1,h2]]
   simp(disch:=try exact dI) only[QS,h1I,h2I,push_cast,seval]
  ·have h2I:¬ (c.toNat:Int)<=57:=by omega
   rw[show isD c=false by simp[isD,h2]]
   simp(disch:=try exact dI) only[QS,h1I,h2I,push_cast,seval]
 ·have h1I:¬ (48:Int)<=(c.toNat:Int):=by omega
  rw[show isD c=false by simp[isD,h1]]
  simp(disch:=try exact dI) only[QS,h1I,push_cast,seval]
theorem PE {c:UInt8}(h:48<=c.toNat/\c.toNat<=57):mO c=(c.toNat:Int) - 48:=by
 unfold mO eP;rw[if_pos h];simp only;omega
theorem PD {c:UInt8}(h:¬ (48<=c.toNat/\c.toNat<=57))(h2:97<=c.toNat/\c.toNat<=102):mO c=(c.toNat:Int) - 97+10:=by
 unfold mO eP;rw[if_neg h,if_pos h2];simp only;omega
theorem PC {c:UInt8}(h:¬ (48<=c.toNat/\c.toNat<=57))(h2:¬ (97<=c.toNat/\c.toNat<=102))(h3:65<=c.toNat/\c.toNat<=70):mO c=(c.toNat:Int) - 65+10:=by
 unfold mO eP;rw[if_neg h,if_neg h2,if_pos h3];simp only;omega
theorem PB {c:UInt8}(h:¬ (48<=c.toNat/\c.toNat<=57))(h2:¬ (97<=c.toNat/\c.toNat<=102))(h3:¬ (65<=c.toNat/\c.toNat<=70)):mO c = -1:=by
 unfold mO eP;rw[if_neg h,if_neg h2,if_neg h3]
theorem Jn (c:UInt8):au Tryz.prog aH 183 [.int .u8 (c.toNat:Int)] (.int .i64 (mO c)):=by
 have hd:=ec c
 have hlt:c.toNat<256:=c.toNat_lt
 refine au.intro JI.2 (by simp[JI]) ?_
 by_cases h1:48<=c.toNat/\c.toNat<=57
 ·rw[PE h1]
  rw[show isD c=true by simp[isD,h1.1,h1.2]] at hd
  have e1:=fE (n:=(c.toNat:Int) - 48) (by omega) (by omega)
  simp(disch:=try exact dI) only[JI,push_cast,seval]
  refine ae.pure hd rfl ?_
  simp(disch:=try exact dI) only[e1,push_cast,seval]
 ·have hdf:isD c=false:=by
   unfold isD
   simp only[Bool.and_eq_false_iff,decide_eq_false_iff_not];omega
  rw[hdf] at hd
  by_cases h2:97<=c.toNat/\c.toNat<=102
  ·rw[PD h1 h2]
   have a1:(97:Int)<=(c.toNat:Int):=by omega
   have a2:(c.toNat:Int)<=102:=by omega
   have e1:=fE (n:=(c.toNat:Int) - 97) (by omega) (by omega)
   simp(disch:=try exact dI) only[JI,push_cast,seval]
   refine ae.pure hd rfl ?_
   simp(disch:=try exact dI) only[a1,a2,e1,push_cast,seval]
  ·by_cases h3:65<=c.toNat/\c.toNat<=70
   ·rw[PC h1 h2 h3]
    have a1:¬ (97:Int)<=(c.toNat:Int):=by omega
    have a3:(65:Int)<=(c.toNat:Int):=by omega
    have a4:(c.toNat:Int)<=70:=by omega
    have e1:=fE (n:=(c.toNat:Int) - 65) (by omega) (by omega)
    simp(disch:=try exact dI) only[JI,push_cast,seval]
    refine ae.pure hd rfl ?_
    simp(disch:=try exact dI) only[a1,a3,a4,e1,push_cast,seval]
   ·rw[PB h1 h2 h3]
    by_cases h4:97<=c.toNat
    ·have a1:(97:Int)<=(c.toNat:Int):=by omega
     have a2:¬ (c.toNat:Int)<=102:=by omega
     have a3:(65:Int)<=(c.toNat:Int):=by omega
     have a4:¬ (c.toNat:Int)<=70:=by omega
     simp(disch:=try exact dI) only[JI,push_cast,seval]
     refine ae.pure hd rfl ?_
     simp(disch:=try exact dI) only[a1,a2,a3,a4,push_cast,seval]
    ·have a1:¬ (97:Int)<=(c.toNat:Int):=by omega
     by_cases h5:65<=c.toNat
     ·have a3:(65:Int)<=(c.toNat:Int):=by omega
      have a4:¬ (c.toNat:Int)<=70:=by omega
      simp(disch:=try exact dI) only[JI,push_cast,seval]
      refine ae.pure hd rfl ?_
      simp(disch:=try exact dI) only[a1,a3,a4,push_cast,seval]
     ·have a3:¬ (65:Int)<=(c.toNat:Int):=by omega
      simp(disch:=try exact dI) only[JI,push_cast,seval]
      refine ae.pure hd rfl ?_
      simp(disch:=try exact dI) only[a1,a3,push_cast,seval]
def A (s:List UInt8)(i:Nat):Rd:=aT ⟨s,i,{},0,0⟩
theorem Ik {R:Rd}(he:R.e=0)(ho:R.off=0):aT R=A R.s R.next:=by
 obtain⟨s,n,w,e,o⟩:=R
 simp only at he ho
 subst he;subst ho
 rfl
theorem Nw {s:List UInt8}{i:Nat}(h:s.length<=i):A s i=⟨s,i,{ pos:=i },0,0⟩:=by
 have e:aN az s i=i:=gM h
 have:=tM (R:=⟨s,i,{},0,0⟩) rfl (by simp only;rw[e];exact h)
 rw[A,this]
 simp only[e]
theorem JN {s:List UInt8}{i:Nat}{c:UInt8}(hc:s[i]? = some c)(hb:az c=false):A s i=de (eO ⟨s,i,{ pos:=i },0,0⟩ i c) i:=by
 have e:aN az s i=i:=by rw[eA hc,if_neg (by rw[hb];decide)]
 have:=tL (R:=⟨s,i,{},0,0⟩) (c:=c) rfl (by simp only;rw[e];exact hc)
 rw[A,this]
 simp only[e]
theorem Nx {s:List UInt8}{i:Nat}{c:UInt8}(hc:s[i]? = some c)(hb:az c=true):A s i=A s (i+1):=by
 have e:aN az s i=aN az s (i+1):=by rw[eA hc,if_pos hb]
 unfold A aT
 simp only[e]
 rw[if_pos trivial,if_pos trivial]
theorem db {s r:List UInt8}{i:Nat}{c:UInt8}(h:s.drop i=c::r):s[i]? = some c/\s.drop (i+1)=r:=by
 refine⟨?_,?_⟩
 ·have:=congrArg (fun l=>l[0]?) h
  simpa using this
 ·have:=congrArg (fun l=>l.drop 1) h
  simpa[List.drop_drop] using this
theorem gr {s a b:List UInt8}{i:Nat}(h:s.drop i=a++b):s.drop (i+a.length)=b:=by
 have:=congrArg (fun l=>l.drop a.length) h
 simpa[List.drop_drop] using this
theorem b9 {s a b:List UInt8}{i:Nat}(h:s.drop i=a++b):(s.take (i+a.length)).drop i=a:=by
 rw[List.drop_take,h,show i+a.length - i=a.length by omega]
 simp
theorem oZ:∀ (a r:List UInt8),(∀ b∈a,b≠125)->fB 125 (a++125::r)=some (a,r)
 | [],r,_=>by rw[UK,fB,if_pos rfl]
 | c::a,r,h=>by
   rw[UJ,fB,if_neg (h c (by simp)),oZ a r fun b hb=>h b (List.mem_cons_of_mem _ hb)];rfl
structure Mo where
 s:List UInt8
 nx:Nat
 k:Nat:=0
 p:Nat:=0
 x:List UInt8:=[]
 v:List UInt8:=[]
 e:Int:=0
 bad:Nat:=0
def moC (M:Mo):List AV:=[.pv (.str M.s),.pv (.int .i64 (M.nx:Int)),.pv (.int .u8 (M.k:Int)),.pv (.int .i64 (M.p:Int)),.pv (.str M.x),.pv (.str M.v),.pv (.int .i64 M.e),.pv (.int .i64 (M.bad:Int))]
def moB (M:Mo):Blk:=.cells 95 true (moC M)
def cC (M:Mo)(e:Int)(i:Nat):Mo:=if M.e=0 then { M with e:=e,bad:=i } else M
section
variable {T:Nat}{p:PV}
theorem vS (M:Mo)(i:Nat)(e:Int):aI Tryz.prog (bE T p) 1 55 [.ptr 0 0,.pv (.int .i64 e),.pv (.int .i64 (i:Int))] [moB M] (.pv (.tup [])) [moB (cC M e i)]:=by
 refine aI.intro Q55.2 (by simp[Q55]) ?_
 by_cases h:M.e=0
 ·have hI:(M.e=0)=True:=eq_true h
  rw[cC,if_pos h]
  simp(disch:=try exact dI) only[Q55,moB,moC,hI,push_cast,seval]
  exact am [] (by simp(disch:=try exact dI) only[moB,moC,push_cast,seval])
 ·rw[cC,if_neg h]
  simp(disch:=try exact dI) only[Q55,moB,moC,h,push_cast,seval]
  exact am [] (by simp(disch:=try exact dI) only[moB,moC,push_cast,seval])
end
def ptL:Nat->Nat->Nat->List UInt8->Nat×Nat
 | 0,n,i,_=>(n,i)
 | _,n,i,[]=>(n,i)
 | k+1,n,i,c::r=>match eP c with
   | some d=>ptL k (16*n+d) (i+1) r
   | none=>(n,i)
theorem La (k n i:Nat):ptL k n i []=(n,i):=by cases k<;>rfl
theorem ot (n i:Nat)(r:List UInt8):ptL 0 n i r=(n,i):=by cases r<;>rfl
theorem uJ (k n i:Nat)(c:UInt8)(r:List UInt8):ptL (k+1) n i (c::r)=match eP c with
  | some d=>ptL k (16*n+d) (i+1) r
  | none=>(n,i):=rfl
theorem ou:∀ (k n i:Nat) (r:List UInt8),∃ Q R,r=Q++R/\Q.length<=k/\jv n Q=some (ptL k n i r).1/\(ptL k n i r).2=i+Q.length/\(∀ c∈Q,(eP c).isSome=true)/\(Q.length=k\/∀ c,R.head? = some c->eP c=none)
 | 0,n,i,r=>⟨[],r,rfl,UA _,by rw[ot];rfl,by rw[ot];rfl,(fun c hc=>by cases hc),.inl rfl⟩
 | k+1,n,i,[]=>⟨[],[],rfl,U8 _,rfl,rfl,(fun c hc=>by cases hc),.inr fun c hc=>by cases hc⟩
 | k+1,n,i,c::r=>by
   rw[uJ]
   cases hc:eP c with
   | none=>exact⟨[],c::r,rfl,U8 _,rfl,rfl,(fun c hc=>by cases hc),.inr fun b hb=>by cases hb;exact hc⟩
   | some d=>
     obtain⟨Q,R,h1,h2,h3,h4,h5,h6⟩:=ou k (16*n+d) (i+1) r
     refine⟨c::Q,R,by rw[h1];rfl,by rw[Ut];omega,?_,by simp only[Ut];omega,?_,?_⟩
     ·rw[jv,hc];exact h3
     ·intro b hb
      rcases UX.1 hb with rfl | hb
      ·rw[hc];rfl
      ·exact h5 b hb
     ·rcases h6 with h6 | h6
      ·exact .inl (by rw[Ut];omega)
      ·exact .inr h6
def cp (s:List UInt8)(a:Nat):Nat×Nat:=
 if s[a]? = some 123 then (if (ptL 6 0 (a+1) (s.drop (a+1))).2=a+1\/s[(ptL 6 0 (a+1) (s.drop (a+1))).2]?≠some 125 then (0,0) else ((ptL 6 0 (a+1) (s.drop (a+1))).1,(ptL 6 0 (a+1) (s.drop (a+1))).2+1)) else (0,0)
