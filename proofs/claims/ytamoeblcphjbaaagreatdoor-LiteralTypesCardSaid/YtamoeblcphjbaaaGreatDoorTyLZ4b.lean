/- A part. -/
import Derived.Test.YtamoeblcphjbaaaGreatDoorTyLU4
set_option linter.unusedVariables false
set_option linter.unusedSimpArgs false
set_option maxHeartbeats 16000000
set_option maxRecDepth 100000
open List renaming cons_append->WQ,nil_append->WO,length_append->WF,map_cons->WP,map_nil->Xp,length_singleton->Xi
namespace Go.Proofs.YtamoeblcphjbaaaGreatDoor
open Go Go.Ab
attribute [local irreducible] vc
section
variable {T:Nat}{p:PV}
theorem Jc (R:Rd)(d:Nat)(hd:d<8)(hR:OkR R)(hT:OkT R)(h0:R.e=0)(hk:R.now.kind=1)(hw:bH R.now.text=3)(kd:Rd->Typ×Rd)(val:Rd->Val×Rd) :
  aP Tryz.prog (ci T p) 1 56 [.ptr 0 0,.pv (.int .i64 (d:Int))] [rdB R] (.pv (cm kd val 3 (aw (bi R) [40])).1.pv) [rdB (aw (cm kd val 3 (aw (bi R) [40])).2 [41])]:=by
 have h0I:(R.e=0)=True:=eq_true h0
 have hkI:(R.now.kind=1)=True:=eq_true hk
 have hdI:¬ (8:Int)<=(d:Int):=by omega
 have hadv:=bL (T:=T) (p:=p) R hR
 have hfind:=toE (T:=T) (p:=p) (gE R.now.text)
 have hst:=(bq hR hT).1
 rw[hw,if_neg (by decide)] at hfind
 have hop:=aU (T:=T) (p:=p) (bi R) [40] hst.1
 have s0:=aO (t:=[40]) hst.1 hst.2.1
 clear hst hR hT
 generalize bi R=R1 at *
 generalize aw R1 [40]=R2 at *
 have hA:=xd (T:=T) (p:=p) R2 s0.1
 have sA:=(cG s0.1 s0.2.1).1
 have hX:=aU (T:=T) (p:=p) (cR R2).2 [44] sA.1
 have s1:=aO (t:=[44]) sA.1 sA.2.1
 have e1:cm kd val 3 R2=(.mk 3 (eI (oS (cR R2).1) (aw (cR R2).2 [44])).1.1 (eI (oS (cR R2).1) (aw (cR R2).2 [44])).1.2 (cR R2).1 [] [] [],(eI (oS (cR R2).1) (aw (cR R2).2 [44])).2):=rfl
 have s2:=(dK (b:=oS (cR R2).1) (fun R h ht=>pc _ h ht) s1.1 s1.2.1).1
 rw[e1]
 clear e1
 generalize cR R2=A at *
 obtain⟨sc,LA⟩:=A
 simp only at *
 generalize aw LA [44]=R3 at *
 have hB:=KN (T:=T) (p:=p) 124 [] [.ptr 2 0,.ptr 1 0] (oS sc) 3 0 0 sc (fun R h ht=>pc sc h ht) (fun R a b h=>Sg R 3 a b sc h) (.inl ⟨rfl,rfl⟩) R3 s1.1 s1.2.1
 generalize eI (oS sc) R3=Q at *
 obtain⟨⟨a,b⟩,L⟩:=Q
 simp only at hB s2 ⊢
 have hE:=aU (T:=T) (p:=p) L [41] s2.1
 simp only[rdB,rdC,tkP,tyB,tyC,bxB,WB] at hadv hop hB hE hA hX ⊢
 refine aP.intro Q56.2 (by simp[Q56]) ?_
 simp(disch:=try exact dI) only[Q56,h0I,hkI,hdI,push_cast,seval]
 refine ae.lentK hadv [0] rfl qsZ qsZ ?_
 refine zgZ ?_
 refine ae.pure hfind rfl ?_
 refine zgZ ?_
 refine ae.lentK hop [0] rfl qsZ qsZ ?_
 refine zgZ ?_
 refine ae.lentK hA [0] rfl qsZ qsZ ?_
 refine zgZ ?_
 refine ae.lentK hX [0] rfl qsZ qsZ ?_
 refine zgZ ?_
 refine ae.lentK hB [0,12,1] rfl qsZ qsZ ?_
 refine zgZ ?_
 refine ae.lentK hE [0] rfl qsZ qsZ ?_
 refine zgZ ?_
 exact au [] qsZ
theorem wY (k:Int)(g:Nat)(bd:List UInt8->Int×Int)(hc:(k=6/\g=126/\bd=bU)\/(k=7/\g=129/\bd=bG))(R:Rd)(d:Nat)(hd:d<8)(hR:OkR R)(hT:OkT R)(h0:R.e=0)(hk:R.now.kind=1)(hw:bH R.now.text=k)(kd:Rd->Typ×Rd)(val:Rd->Val×Rd) :
  aP Tryz.prog (ci T p) 1 56 [.ptr 0 0,.pv (.int .i64 (d:Int))] [rdB R] (.pv (cm kd val k (aw (bi R) [40])).1.pv) [rdB (aw (cm kd val k (aw (bi R) [40])).2 [41])]:=by
 have h0I:(R.e=0)=True:=eq_true h0
 have hkI:(R.now.kind=1)=True:=eq_true hk
 have hdI:¬ (8:Int)<=(d:Int):=by omega
 have hadv:=bL (T:=T) (p:=p) R hR
 have hfind:=toE (T:=T) (p:=p) (gE R.now.text)
 have hst:=(bq hR hT).1
 have hk0:¬ k=0:=by rcases hc with h | h<;>(have:=h.1;omega)
 rw[hw,if_neg hk0] at hfind
 have hi:∀ s,I64 (bd s).1:=by
  rcases hc with ⟨_,_,rfl⟩ | ⟨_,_,rfl⟩
  ·exact pw
  ·exact pu
 have hcl:∀ R a b,OkR R->aP Tryz.prog (ci T p) 3 g [.ptr 2 0] [rdB R,tyB k a b 0,bxB] (.pv (.int .i64 (aR R bd).1)) [rdB (aR R bd).2,tyB k a b 0,bxB]:=by
  rcases hc with ⟨rfl,rfl,rfl⟩ | ⟨rfl,rfl,rfl⟩
  ·exact fun R a b h=>Sf R 6 a b 0 h
  ·exact fun R a b h=>Se R 7 a b 0 h
 have hop:=aU (T:=T) (p:=p) (bi R) [40] hst.1
 have s0:=aO (t:=[40]) hst.1 hst.2.1
 clear hst hR hT
 generalize bi R=R1 at *
 generalize aw R1 [40]=R2 at *
 have e1:cm kd val k R2=(.mk k (eI (fun R=>aR R bd) R2).1.1 (eI (fun R=>aR R bd) R2).1.2 0 [] [] [],(eI (fun R=>aR R bd) R2).2):=by
  rcases hc with ⟨rfl,rfl,rfl⟩ | ⟨rfl,rfl,rfl⟩<;>rfl
 have s2:=(dK (b:=fun R=>aR R bd) (fun R h ht=>df bd hi h ht) s0.1 s0.2.1).1
 rw[e1]
 clear e1
 have hB:=KN (T:=T) (p:=p) g [] [.ptr 2 0] (fun R=>aR R bd) k 0 0 0 (fun R h ht=>df bd hi h ht) hcl (.inr ⟨rfl,rfl⟩) R2 s0.1 s0.2.1
 generalize eI (fun R=>aR R bd) R2=Q at *
 obtain⟨⟨a,b⟩,L⟩:=Q
 simp only at hB s2 ⊢
 have hE:=aU (T:=T) (p:=p) L [41] s2.1
 simp only[rdB,rdC,tkP,tyB,tyC,bxB,WB] at hadv hop hB hE ⊢
 clear hi hcl
 rcases hc with ⟨rfl,rfl,_⟩ | ⟨rfl,rfl,_⟩
 all_goals
  refine aP.intro Q56.2 (by simp[Q56]) ?_
  simp(disch:=try exact dI) only[Q56,h0I,hkI,hdI,push_cast,seval]
  refine ae.lentK hadv [0] rfl qsZ qsZ ?_
  refine zgZ ?_
  refine ae.pure hfind rfl ?_
  refine zgZ ?_
  refine ae.lentK hop [0] rfl qsZ qsZ ?_
  refine zgZ ?_
  refine ae.lentK hB [0,12,1] rfl qsZ qsZ ?_
  refine zgZ ?_
  refine ae.lentK hE [0] rfl qsZ qsZ ?_
  refine zgZ ?_
  exact au [] qsZ
end
theorem MC (x:TFd):∃ cs,x.pv = .agg cs/\cs.length=11/\∀ q∈cs,q.one=true:=by
 obtain⟨n,nm,nd,⟨k,m,M,s,w,e,f⟩,d⟩:=x
 refine⟨_,by rw[Wt,WB],rfl,fun q hq=>?_⟩
 simp only[PV.cells,WQ,WO,List.mem_cons,List.not_mem_nil,or_false] at hq
 rcases hq with rfl | rfl | rfl | rfl | rfl | rfl | rfl | rfl | rfl | rfl | rfl<;>rfl
def zTC:List PV:=[.int .i64 0,.str [],.int .i64 0,.int .i64 0,.int .i64 0,.int .i64 0,.int .i64 0,.nils,.nils,.nils,.nils]
theorem ju (l:List TFd):(bQ (l.map TFd.pv)).length=l.length*11:=by
 exact gC TFd.cells_len l
def Na (l:List TFd):List AV:=bQ (l.map TFd.pv)++zTC.map .pv
theorem wd (l:List TFd):(Na l).length=l.length*11+11:=by unfold Na;rw[WF,ju];rfl
theorem UX (l:List TFd)(hl:l.length<=65540)(new q:Nat):vj 60 11 160 new q 11 0 l.length [.agg zTC] (.cells 60 false (bQ (l.map TFd.pv)))=some (.row new 11 0 (l.length+1),[(q,.none),(new,.cells 60 false (Na l))]):=by
 rw[lD (by rw[ju];exact Nat.le_refl _) (by simp;omega) (by simp;omega),List.take_of_length_le (by rw[ju];exact Nat.le_refl _)]
 rfl
theorem B3 (r:Nat)(l:List TFd)(x:TFd):B4 r 60 false (Na l) 11 (l.length*11) (x.pv.cells.map AV.pv) true=some [(r,.cells 60 false (bQ ((l++[x]).map TFd.pv)))]:=by
 rw[vU]
 have e1:(Na l).take (l.length*11)=bQ (l.map TFd.pv):=by unfold Na;exact List.take_left' (ju l)
 have e2:(Na l).drop (l.length*11+11)=[]:=List.drop_eq_nil_of_le (by rw[wd];exact Nat.le_refl _)
 have e3:bQ ((l++[x]).map TFd.pv)=bQ (l.map TFd.pv)++x.pv.cells.map AV.pv:=by simp[bQ]
 rw[e1,e2,e3,List.append_nil]
section
variable {T:Nat}{p:PV}
theorem D7 (K:Int)(hK:K=9\/K=10)(R:Rd)(d:Nat)(hd:d<8)(hR:OkR R)(hT:OkT R)(h0:R.e=0)(hk:R.now.kind=1)(hw:bH R.now.text=K)(kd:Rd->Typ×Rd)(val:Rd->Val×Rd)(s:List UInt8)(hsl:s.length<=65536)(hks:KF kd s)(hkc:Qa T p kd s (d+1))(hv:ye val s)(hvc:Pv T p val s 0)(hs:R.s=s) :
  aP Tryz.prog (ci T p) 1 56 [.ptr 0 0,.pv (.int .i64 (d:Int))] [rdB R] (.pv (cm kd val K (aw (bi R) [40])).1.pv) [rdB (aw (cm kd val K (aw (bi R) [40])).2 [41])]:=by
 have h0I:(R.e=0)=True:=eq_true h0
 have hkI:(R.now.kind=1)=True:=eq_true hk
 have hdI:¬ (8:Int)<=(d:Int):=by omega
 have hadv:=bL (T:=T) (p:=p) R hR
 have hfind:=toE (T:=T) (p:=p) (gE R.now.text)
 have hst:=(bq hR hT).1
 have hK0:¬ K=0:=by omega
 rw[hw,if_neg hK0] at hfind
 have hop:=aU (T:=T) (p:=p) (bi R) [40] hst.1
 have s0:=aO (t:=[40]) hst.1 hst.2.1
 have hs2:(aw (bi R) [40]).s=s:=s0.2.2.1.trans (hst.2.2.1.trans hs)
 clear hst hR hT
 generalize bi R=R1 at *
 generalize aw R1 [40]=R2 at *
 have hI:=Am (T:=T) (p:=p) R2 [41]
 have hfld:=fun L h1 h2 h3=>JI (T:=T) (p:=p) kd val s d (by omega) hks hkc hvc L h1 h2 h3
 have hfs:V8 (pU kd val) s:=fun R h ht q=>vW hks hv h ht q
 have e1:cm kd val K R2=(.mk K 0 0 0 [] [] (kB (pU kd val) (R2.s.length+3) (!isT R2 [41]) [] R2).1,(kB (pU kd val) (R2.s.length+3) (!isT R2 [41]) [] R2).2):=by
  rcases hK with rfl | rfl<;>rfl
 rw[e1]
 clear e1 hks hkc hv hvc
 generalize pU kd val=fld at *
 obtain⟨Z,hZ⟩:∃ Z,Z=kB fld (R2.s.length+3) (!isT R2 [41]) [] R2:=⟨_,rfl⟩
 have hbz:kM 11 1 [.pv (.agg zTC)]=some (.pv (.list [.agg zTC]),[]):=gr rfl rfl
 simp only[zTC] at hbz
 rw[<- hZ]
 rw[hs2] at hZ
 generalize isT R2 [41]=fi at *
 simp only[rdB,rdC,tkP] at hadv hop hI ⊢
 obtain⟨K',hK'⟩:∃ K',K'=K:=⟨_,rfl⟩
 rcases hK with rfl | rfl
 all_goals
  refine aP.intro PA.2 (by simp[PA]) ?_
  simp(maxSteps:=9^7) (disch:=try exact dI) only[PA,h0I,hkI,hdI,push_cast,seval]
  refine ae.lentK hadv [0] rfl qsZ qsZ ?_
  simp(maxSteps:=9^7) (disch:=try exact dI) only[push_cast,seval]
  refine ae.pure hfind rfl ?_
  simp(maxSteps:=9^7) (disch:=try exact dI) only[push_cast,seval]
  refine ae.lentK hop [0] rfl qsZ qsZ ?_
  simp(maxSteps:=9^7) (disch:=try exact dI) only[push_cast,seval]
  refine ae.lentK hI [0] rfl qsZ qsZ ?_
  simp(maxSteps:=9^7) (disch:=try exact dI) only[push_cast,seval]
  refine aG ([(8,7,1000060,11)]) (fun y:Bool×List TFd×Rd=>[(9,.pv (.bool y.1))]) (fun y=>[(0,rdB y.2.2),(3,.cells 48 true [.pv (.int .i64 K'),.pv (.int .i64 0),.pv (.int .i64 0),.pv (.int .i64 0),.pv .nils,.pv .nils,.row 4 11 0 y.2.1.length]),(4,.cells 60 false (bQ (y.2.1.map TFd.pv)))]) (fun y=>OkR y.2.2/\OkT y.2.2/\y.2.2.s=s/\y.2.1.length+msr y.2.2<=s.length+1/\∃ k,msr y.2.2<k/\Z=kB fld k y.1 y.2.1 y.2.2) (fun y=>msr y.2.2) ((!fi,[],R2)) ?_;intro e0 σ0 n0 h0;simp(maxSteps:=9^7) (disch:=try exact dI) only[push_cast,seval] at h0;obtain⟨rfl,rfl,rfl⟩:=h0;refine⟨?_,?_,?_⟩
  ·simp(maxSteps:=9^7) (disch:=try exact dI) only[rdB,rdC,bQ,List.flatMap_nil,hK',push_cast,seval]
  ·refine⟨s0.1,s0.2.1,hs2,?_,s.length+3,?_,hZ⟩
   ·simp only[List.length_nil,msr,hs2];split<;>omega
   ·simp only[msr,hs2];split<;>omega
  rintro⟨b,l,L⟩ ⟨h1,h2,h3,h4,k,hk',hZk⟩
  simp only at h1 h2 h3 h4 hk' hZk
  obtain⟨k,rfl⟩:∃ j,k=j+1:=⟨k - 1,by omega⟩
  have hex:=aU (T:=T) (p:=p) L [41] h1
  have hl:l.length<=65540:=by omega
  have hfz:=fun (n r:Nat) (hn:n=l.length)=>xz (sz:=11) (f:=TFd.pv) MC (by omega) l (n:=n) (r:=r) (T:=60) (b:=false) hn
  have hap:=UX l hl
  simp only[zTC] at hap
  have hzl:=wd l
  by_cases he:L.e=0
  rotate_left
  ·rw[Ly he] at hZk
   subst hZk
   simp only[rdB,rdC] at hex
   simp(maxSteps:=9^7) (disch:=try exact dI) only[rdB,rdC,he,push_cast,seval]
   refine ae.lentK hex [0] rfl qsZ qsZ ?_
   simp(maxSteps:=9^7) (disch:=try exact dI) only[hfz,push_cast,seval]
   exact au [] (by simp(maxSteps:=9^7) (disch:=try exact dI) only[rdB,rdC,WB,hK',push_cast,seval])
  have heI:(L.e=0)=True:=eq_true he
  cases b with
  | true=>
    rw[EP he] at hZk
    have hcall:=hfld L h1 h2 h3
    obtain⟨g1,g2,g3⟩:=hfs L h1 h2 h3
    have hm:=om h1 he g2 g3
    generalize fld L=q at *
    obtain⟨x,L2⟩:=q
    simp only at hcall hZk g1 g2 g3 hm
    have hst:=fun r=>B3 r l x
    have hml:l.length+1+msr L2<=s.length+1:=by omega
    obtain⟨n,nm,nd,⟨t1,t2,t3,t4,t5,t6,t7⟩,dv⟩:=x
    simp only[Wt,WB,ap,PV.cells,WP,Xp,WQ,WO] at hst hcall
    simp only[rdB,rdC] at hcall
    simp(maxSteps:=9^7) (disch:=try exact dI) only[rdB,rdC,heI,push_cast,seval]
    refine cp hcall [0] rfl qsZ qsZ ?_
    simp(maxSteps:=9^7) (disch:=try exact dI) only[hbz,hap,hzl,hst,push_cast,seval]
    exact⟨(false,l++[.mk n nm nd (.mk t1 t2 t3 t4 t5 t6 t7) dv],L2),bl (by simp(maxSteps:=9^7) (disch:=try exact dI) only[rdB,rdC,WF,push_cast,seval]),⟨g2.1,g2.2.1,g2.2.2.1.trans h3,by simp only[WF,Xi];omega,k,by simp only;omega,hZk⟩,by simp only;omega⟩
  | false=>
    by_cases hl0:0<l.length
    rotate_left
    ·rw[EM hl0] at hZk
     subst hZk
     have hl0I:¬ (0:Int)<(l.length:Int):=by omega
     simp only[rdB,rdC] at hex
     simp(maxSteps:=9^7) (disch:=try exact dI) only[rdB,rdC,heI,hl0I,push_cast,seval]
     refine ae.lentK hex [0] rfl qsZ qsZ ?_
     simp(maxSteps:=9^7) (disch:=try exact dI) only[hfz,push_cast,seval]
     exact au [] (by simp(maxSteps:=9^7) (disch:=try exact dI) only[rdB,rdC,WB,hK',push_cast,seval])
    have hl0I:(0:Int)<(l.length:Int):=by omega
    have hac:=gM (T:=T) (p:=p) L [44] h1
    have hav:bE L [44]=if isT L [44]=true then (true,bi L) else (false,L):=rfl
    rw[hav] at hac
    cases hi:isT L [44] with
    | true=>
      rw[hi,if_pos rfl] at hac
      rw[EO he hl0 hi] at hZk
      obtain⟨a1,a2⟩:=bq h1 h2
      have hcall:=hfld (bi L) a1.1 a1.2.1 (a1.2.2.1.trans h3)
      obtain⟨g1,g0,g3⟩:=hfs (bi L) a1.1 a1.2.1 (a1.2.2.1.trans h3)
      have g2:=a1.trans g0
      have hm:msr (fld (bi L)).2<msr L:=om h1 he g2 fun q=>by
       have:=g3 q
       have:=(a1.2.2.2 (g0.2.2.2 q).1).2
       omega
      clear g0
      generalize bi L=L1 at *
      generalize fld L1=q at *
      obtain⟨x,L2⟩:=q
      simp only at hcall hZk g1 g2 g3 hm
      have hst:=fun r=>B3 r l x
      have hml:l.length+1+msr L2<=s.length+1:=by omega
      obtain⟨n,nm,nd,⟨t1,t2,t3,t4,t5,t6,t7⟩,dv⟩:=x
      simp only[Wt,WB,ap,PV.cells,WP,Xp,WQ,WO] at hst hcall
      simp only[rdB,rdC] at hcall hac
      simp(maxSteps:=9^7) (disch:=try exact dI) only[rdB,rdC,heI,hl0I,push_cast,seval]
      refine ae.lentK hac [0] rfl qsZ qsZ ?_
      simp(maxSteps:=9^7) (disch:=try exact dI) only[push_cast,seval]
      refine cp hcall [0] rfl qsZ qsZ ?_
      simp(maxSteps:=9^7) (disch:=try exact dI) only[hbz,hap,hzl,hst,push_cast,seval]
      exact⟨(false,l++[.mk n nm nd (.mk t1 t2 t3 t4 t5 t6 t7) dv],L2),bl (by simp(maxSteps:=9^7) (disch:=try exact dI) only[rdB,rdC,WF,push_cast,seval]),⟨g2.1,g2.2.1,g2.2.2.1.trans h3,by simp only[WF,Xi];omega,k,by simp only;omega,hZk⟩,by simp only;omega⟩
    | false=>
      rw[hi,if_neg (by decide)] at hac
      rw[EN he hl0 hi] at hZk
      subst hZk
      simp only[rdB,rdC] at hex hac
      simp(maxSteps:=9^7) (disch:=try exact dI) only[rdB,rdC,heI,hl0I,push_cast,seval]
      refine ae.lentK hac [0] rfl qsZ qsZ ?_
      simp(maxSteps:=9^7) (disch:=try exact dI) only[push_cast,seval]
      refine ae.lentK hex [0] rfl qsZ qsZ ?_
      simp(maxSteps:=9^7) (disch:=try exact dI) only[hfz,push_cast,seval]
      exact au [] (by simp(maxSteps:=9^7) (disch:=try exact dI) only[rdB,rdC,WB,hK',push_cast,seval])
end
structure Mo where
 s:List UInt8
 nx:Nat
 k:Nat:=0
 p:Nat:=0
 x:List UInt8:=[]
 v:List UInt8:=[]
 e:Int:=0
 bad:Nat:=0
def E0 (M:Mo)(e:Int)(i:Nat):Mo:=if M.e=0 then { M with e:=e,bad:=i } else M
section
variable {T:Nat}{p:PV}
end
def QY (M:Mo)(a:Nat)(v:Bool):Sc->(List UInt8×Nat)×Mo
 | .short=>(([],M.s.length),E0 M 4 a)
 | .bad j e=>(([],M.s.length),E0 M e j)
 | .done out j=>((out,j),if v=true/\Lib.validD out=false then E0 M 16 a else M)
def TI (M:Mo)(a:Nat):(List UInt8×Nat)×Mo:=QY M a true (kK (M.s.length+1) (M.s.drop (a+1)) (a+1) [])
section
variable {T:Nat}{p:PV}
end
def Up (M:Mo)(a:Nat):(List UInt8×Nat)×Mo:=QY M a false (kQ (M.s.drop (a+2)) (a+2) none [])
section
variable {T:Nat}{p:PV}
end
def We (M:Mo)(i:Nat)(c:UInt8):Mo×Nat:=
 if c.toNat=34 then ({ (TI { M with k:=115 } i).2 with v:=(TI { M with k:=115 } i).1.1 },(TI { M with k:=115 } i).1.2)
 else if c.toNat=120/\M.s[i+1]? = some 34 then ({ (Up { M with k:=120 } i).2 with v:=(Up { M with k:=120 } i).1.1 },(Up { M with k:=120 } i).1.2)
 else if aY c=true then ({ M with k:=119 },bR db M.s (i+1))
 else if isD c=true\/(c.toNat=45/\(M.s[i+1]?.any isD)=true) then ({ M with k:=110 },(ub M.s (bR isD M.s (i+1))).1)
 else if c.toNat=46/\M.s[i+1]? = some 46 then ({ M with k:=46 },i+2)
 else if vP c=true then ({ M with k:=c.toNat },i+1)
 else (E0 M 13 i,i+1)
def Wl (q:Mo×Nat)(i:Nat):Mo:=if q.1.e=0 then { q.1 with x:=(q.1.s.take q.2).drop i,nx:=q.2 } else q.1
def Wd (M:Mo)(i:Nat):Mo:=if M.k=110/\M.e=0 then (if (bC (fK M.x)).2=0 then M else E0 M (bC (fK M.x)).2 i) else M
def nextM (M:Mo):Mo:=
 match M.s[bR aW M.s M.nx]? with
 | none=>{ M with nx:=bR aW M.s M.nx,k:=0,p:=bR aW M.s M.nx,x:=[],v:=[] }
 | some c=>if M.e=0 then Wd (Wl (We { M with nx:=bR aW M.s M.nx,k:=0,p:=bR aW M.s M.nx,x:=[],v:=[] } (bR aW M.s M.nx) c) (bR aW M.s M.nx)) (bR aW M.s M.nx)
   else { M with nx:=bR aW M.s M.nx,k:=0,p:=bR aW M.s M.nx,x:=[],v:=[] }
def V9 (M:Mo)(R:Rd):Prop:=M.p=R.now.pos /\
 ((R.now.kind=0/\M.k=0)\/(R.now.kind=1/\M.k=119/\M.x=R.now.text/\∃ b r,R.now.text=b::r/\aY b=true) \/
  (R.now.kind=2/\M.k=110/\bC (fK M.x)=((R.now.num,R.now.sc),0)/\R.now.dec=(decide (0<R.now.sc)||decide (M.x.getLast? = some 100))/\M.x≠[]) \/
  (R.now.kind=3/\M.k=115/\M.v=R.now.bytes)\/(R.now.kind=4/\M.k=120/\M.v=R.now.bytes) \/
  (R.now.kind=5/\((M.k=46/\R.now.text=[46,46])\/∃ c:UInt8,vP c=true/\M.k=c.toNat/\R.now.text=[c])))
def Sim (M:Mo)(R:Rd):Prop:=M.s=R.s/\((R.e=0/\M.e=0/\M.nx=R.next/\V9 M R)\/(R.e≠0/\M.e=R.e/\M.bad=R.off))
def Wn (M:Mo):Prop:=M.s.length<=65536/\M.nx<=M.s.length
def OkM (M:Mo):Prop:=Wn M/\M.x.length<=65536/\(M.e=0->M.p<=M.nx/\(M.k≠0->M.p<M.nx)/\(M.k=110->M.x≠[])/\(M.k=0->M.p=M.s.length))
def U2 (M M':Mo):Prop:=OkM M'/\M'.s=M.s/\(M'.e=0->M.e=0/\M.p<=M'.p)
structure Tm where
 k:Nat
 p:Nat
 x:List UInt8
 v:List UInt8
section
variable {T:Nat}{p:PV}
end
def Wm (k:Nat):Prop:=k≠110/\k≠115/\k≠120/\k≠91/\k≠123/\k≠119
instance (k:Nat):Decidable (Wm k):=inferInstanceAs (Decidable (_/\_))
structure Item {α β:Type}(iM:α->Mo->α×Mo)(iR:β->Rd->β×Rd)(Rel:α->β->Prop)(c:UInt8)(s:List UInt8):Prop where
 sim:∀ a b M R,OkM M->OkR R->OkT R->R.s=s->Sim M R->R.e=0->Rel a b->Sim (iM a M).2 (iR b R).2/\((iR b R).2.e=0->Rel (iM a M).1 (iR b R).1)
 err:∀ b R,¬ R.e=0->(iR b R).2=R
 shut:∀ b M R,Sim M R->OkR R->OkT R->R.e=0->isT R [c]=true->(iR b R).2=ba R R.now.pos 13
 stM:∀ a M,OkM M->M.s=s->U2 M (iM a M).2
 stR:∀ b R,OkR R->OkT R->R.s=s->R.e=0->cE R (iR b R).2/\((iR b R).2.e=0->R.now.pos<(iR b R).2.now.pos)
theorem SA (x:List UInt8):kM 1 1 [.pv (.str x)]=some (.pv (.list [.str x]),[]):=rfl
