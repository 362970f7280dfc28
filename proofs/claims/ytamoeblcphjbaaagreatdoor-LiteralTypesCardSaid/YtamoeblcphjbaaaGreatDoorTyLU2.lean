/- A part. -/
import Derived.Test.YtamoeblcphjbaaaGreatDoorTyLY4
set_option linter.unusedVariables false
set_option linter.unusedSimpArgs false
set_option maxHeartbeats 16000000
set_option maxRecDepth 100000
open List renaming map_cons->WP,map_nil->Xp,length_cons->WG,length_nil->WL,getElem?_eq_getElem->WE,mem_of_getElem?->WK,take_length->WV
namespace Go.Proofs.YtamoeblcphjbaaaGreatDoor
open Go Go.Ab
attribute [local irreducible] vc
theorem V1 (a b c:Int)(d:List UInt8)(e f:List PV):g8 6 [.agg [.int .i64 a,.int .i64 b,.int .i64 c,.str d,.list e,.list f]] 0=some (.pv (.eptr [.agg [.int .i64 a,.int .i64 b,.int .i64 c,.str d,.list e,.list f]] 0 0)):=rfl
theorem V2 (a b c d:Int)(e f g:List PV):g8 7 [.agg [.int .i64 a,.int .i64 b,.int .i64 c,.int .i64 d,.list e,.list f,.list g]] 0=some (.pv (.eptr [.agg [.int .i64 a,.int .i64 b,.int .i64 c,.int .i64 d,.list e,.list f,.list g]] 0 0)):=rfl
theorem gy (k:Int)(hk:1<=k/\k<=10):am Tryz.prog aC 138 [.int .i64 k] (.tup [.str (aX k),.int .i64 0]):=by
 obtain⟨i,hi,rfl⟩:∃ i:Nat,i<10/\k=(i:Int)+1:=⟨(k - 1).toNat,by omega,by omega⟩
 obtain⟨w,a,b,c,d,e,f,g,hw,hr⟩:=K5 i hi
 have hin:=pM ((i:Int)+1) 1 10
 rw[show inB ((i:Int)+1) 1 10=true by unfold inB;simp;omega] at hin
 have hn:aX ((i:Int)+1)=w:=by
  unfold aX
  rw[show ((i:Int)+1 - 1).toNat=i by omega,hw];rfl
 rw[hn]
 refine am.intro VB.2 (by simp[VB]) ?_
 simp(disch:=try exact dI) only[VB,push_cast,seval]
 refine ae.pure hin rfl ?_
 refine zgZ ?_
 refine ae.pure pH rfl ?_
 simp(disch:=try exact dI) only[hr,push_cast,seval]
theorem gK (g:Nat)(cs:List PV)(k m M s:Int)(w e f:List PV)(x y:List UInt8)(hc:cs=[]\/∃ p,cs=[p])(h1:am Tryz.prog aC g (.int .i64 m::cs) (.str x))(h2:am Tryz.prog aC g (.int .i64 M::cs) (.str y))(hx:x.length<=10000)(hy:y.length<=10000) :
  am Tryz.prog aC 135 [.clo g [] cs,.eptr [.agg [.int .i64 k,.int .i64 m,.int .i64 M,.int .i64 s,.list w,.list e,.list f]] 0 0] (.str (ew x y)):=by
 have hS:x++[46,46]++y=ew x y:=by unfold ew;simp
 rw[<- hS]
 rcases hc with rfl | ⟨p,rfl⟩
 all_goals
  refine am.intro VE.2 (by simp[VE]) ?_
  simp(disch:=try exact dI) only[VE,push_cast,seval]
  refine ag h1 rfl ?_
  refine zgZ ?_
  refine ag h2 rfl ?_
  exact qsZ
theorem rh (g:Nat):am Tryz.prog aC 136 [.clo g [] []] (.clo 137 [] [.eptr [.clo g [] []] 0 0]):=by
 have h1:(PV.clo g [] []).one=true:=rfl
 refine am.intro VD.2 (by simp[VD]) ?_
 simp(disch:=try exact dI) only[VD,h1,push_cast,seval]
theorem jd (g:Nat)(n:Int)(x:List UInt8)(h:am Tryz.prog aC g [.int .i64 n] (.tup [.str x,.int .i64 0]))(hx:x.length<=1000):am Tryz.prog aC 137 [.int .i64 n,.eptr [.clo g [] []] 0 0] (.str (aA x)):=by
 have hq:=mj x (by omega)
 refine am.intro VC.2 (by simp[VC]) ?_
 simp(disch:=try exact dI) only[VC,push_cast,seval]
 refine ae.pure h rfl ?_
 refine zgZ ?_
 refine ae.pure hq rfl ?_
 exact qsZ
theorem vY (k m M n:Int)(sc:Nat)(w e f:List PV)(h:IsN n sc):am Tryz.prog aC 139 [.int .i64 n,.eptr [.agg [.int .i64 k,.int .i64 m,.int .i64 M,.int .i64 (sc:Int),.list w,.list e,.list f]] 0 0] (.str (cl n sc)):=by
 have hq:=wE h
 refine am.intro VA.2 (by simp[VA]) ?_
 simp(disch:=try exact dI) only[VA,push_cast,seval]
 refine ae.pure hq rfl ?_
 exact qsZ
theorem Oh (L:List (List UInt8))(hN:L.length<=1000000)(hl:(aM [44,32] L).length<=1000000000000):am Tryz.prog aC 68 [.list (L.map .str)] (.str (aM [44,32] L)):=by
 have h:=pJ L [44,32] (by omega) (by omega)
 generalize aM [44,32] L=Q at *
 refine am.intro Q68.2 (by simp[Q68]) ?_
 simp(disch:=try exact dI) only[Q68,push_cast,seval]
 refine ae.pure h rfl ?_
 exact qsZ
theorem JH (rec:Typ->List UInt8)(g:TFd)(hT:am Tryz.prog aC 62 [g.typ.pv] (.str (rec g.typ)))(hl:(rec g.typ).length<=1000000000000)(hnm:g.name.length<=40)(hn:1<=g.number/\g.number<=9999)(hd:1<=g.need/\g.need<=3)
  (hv:g.need=3->∃ v,g.dflt=[v]/\am Tryz.prog aC 37 [v.pv] (.str (txt v))/\(txt v).length<=100000000):am Tryz.prog aC 140 [g.pv] (.str (bx rec g)):=by
 obtain⟨n,nm,nd,⟨t1,t2,t3,t4,t5,t6,t7⟩,d⟩:=g
 simp only[TFd.typ,TFd.name,TFd.number,TFd.need,TFd.dflt] at *
 have hi:=eF n (by omega) (by omega)
 have hil:(aN n).length<=1000:=cJ (by unfold IsN;omega)
 rw[lm]
 generalize rec (.mk t1 t2 t3 t4 t5 t6 t7)=X at *
 generalize aN n=I at *
 simp only[WB] at hT
 have hc:nd=1\/nd=2\/nd=3:=by omega
 rcases hc with rfl | rfl | rfl
 ·rw[if_neg (by decide),if_neg (by decide)]
  have hS:I++[32]++nm++([58,32]++X)=I++(32::(nm++([]++(58::32::(X++[]))))):=by simp
  rw[<- hS]
  refine am.intro Kz.2 (by simp[Kz]) ?_
  simp(disch:=try exact dI) only[Kz,Wt,WB,ap,push_cast,seval]
  refine ag hi rfl ?_
  refine zgZ ?_
  refine ae.pure hT rfl ?_
  exact qsZ
 ·rw[if_pos rfl,if_neg (by decide)]
  have hS:I++[32]++nm++[63]++([58,32]++X)=I++(32::(nm++([63]++(58::32::(X++[]))))):=by simp
  rw[<- hS]
  refine am.intro Kz.2 (by simp[Kz]) ?_
  simp(disch:=try exact dI) only[Kz,Wt,WB,ap,push_cast,seval]
  refine ag hi rfl ?_
  refine zgZ ?_
  refine ae.pure hT rfl ?_
  exact qsZ
 ·obtain⟨v,rfl,hv,hvl⟩:=hv rfl
  rw[if_neg (by decide),if_pos rfl,show p7 [v]=[32,61,32]++txt v from rfl]
  generalize txt v=V at *
  have hS:I++[32]++nm++([58,32]++X)++([32,61,32]++V)=I++(32::(nm++([]++(58::32::(X++([32,61,32]++V)))))):=by simp
  rw[<- hS]
  obtain⟨v1,v2,v3,v4,v5,v6⟩:=v
  simp only[WD] at hv
  refine am.intro Kz.2 (by simp[Kz]) ?_
  simp(disch:=try exact dI) only[Kz,Wt,WB,ap,WP,Xp,WD,push_cast,seval]
  refine ag hi rfl ?_
  refine zgZ ?_
  refine ae.pure hT rfl ?_
  simp(disch:=try exact dI) only[WD,V1,push_cast,seval]
  refine ae.pure hv rfl ?_
  exact qsZ
theorem Qi {v:Val}(hc:xS v=0):am Tryz.prog aC 37 [v.pv] (.str (txt v))/\am Tryz.prog aC 17 [v.pv] (.str (txt v)):=by
 obtain⟨f,e⟩:=N2 v
 have h:=EE ((u6 v).symm.trans hc)
 have hd:=fJ _ v (iC v)
 exact⟨qF (lvl v) 1 v hd h.1 h.2,qG (lvl v) 1 v hd h.1 h.2⟩
theorem xe (rec:Typ->List UInt8)(k m M:Int)(hk:k=2\/k=4\/k=5):Oi rec (.mk k m M 0 [] [] [])=ew (aN m) (aN M):=by
 rw[bp,if_neg (by omega),if_neg (by omega),if_neg (by omega),if_neg (by omega),if_neg (by omega),if_neg (by simp)]
theorem sf {R:Typ->Prop}{g:TFd}(h:Gt R g):R g.typ:=by
 obtain⟨n,nm,nd,t,d⟩:=g
 exact h.2.2.1
theorem KR:∀ (n:Nat) (t:Typ),sR n t->Me n t->am Tryz.prog aC 62 [t.pv] (.str (aI n t))
 | 0,_,_,h=>h.elim
 | n+1,.mk k m M s w e f,hT,hL=>by
   have ih:=KR n
   obtain⟨l1,l2,l3,l4,l5,l6⟩:=hL
   unfold sR at hT
   rcases hT with ⟨rfl,rfl,rfl,rfl,rfl,rfl,rfl⟩ | ⟨hk,hm,hM,rfl,rfl,rfl,rfl⟩ | ⟨rfl,hs0,hs,hm,hM,rfl,rfl,rfl⟩ | ⟨rfl,rfl,rfl,rfl,hw,hv,rfl,rfl⟩ | ⟨rfl,hm,hM,rfl,rfl,rfl,rfl⟩ | ⟨rfl,hm,hM,rfl,rfl,rfl,rfl⟩ | ⟨rfl,hm,hM,rfl,rfl,⟨x,rfl,hx⟩,rfl⟩ | ⟨hk,rfl,rfl,rfl,rfl,rfl,hf⟩
   ·have hK:=gy 1 (by omega)
    have hS:aI (n+1) (.mk 1 0 0 0 [] [] [])=aX 1:=by rw[aI];exact if_pos rfl
    rw[hS]
    clear l1 ih hS
    generalize aX 1=N at *
    refine am.intro Q62.2 (by simp[Q62]) ?_
    simp(disch:=try exact dI) only[Q62,WB,push_cast,seval]
    refine ae.pure hK rfl ?_
    exact qsZ
   ·have hkk:1<=k/\k<=10:=by omega
    have hK:=gy k hkk
    have hNl:=cU k
    have hi1:=eF m (by unfold IsN at hm;omega) (by unfold IsN at hm;omega)
    have hi2:=eF M (by unfold IsN at hM;omega) (by unfold IsN at hM;omega)
    have a1:=cJ hm
    have a2:=cJ hM
    have hB:=gK 66 [] k m M 0 [] [] [] _ _ (.inl rfl) hi1 hi2 (by omega) (by omega)
    have hBl:=du (aN m) (aN M)
    rw[bA n (by omega),xe _ k m M hk]
    clear l1 ih hi1 hi2
    generalize ew (aN m) (aN M)=B at *
    have hS:aX k++[40]++B++[41]=aX k++(40::(B++[41])):=by simp
    rw[<- hS]
    clear hS
    generalize aX k=N at *
    rcases hk with rfl | rfl | rfl
    all_goals
     refine am.intro Q62.2 (by simp[Q62]) ?_
     simp(disch:=try exact dI) only[Q62,WB,push_cast,seval]
     refine ae.pure hK rfl ?_
     refine zgZ ?_
     refine ae.pure hB rfl ?_
     exact qsZ
   ·obtain⟨sc,rfl⟩:∃ sc:Nat,s=(sc:Int):=⟨s.toNat,by omega⟩
    rw[Int.toNat_natCast] at hm hM
    have hK:=gy 3 (by omega)
    have hNl:=cU 3
    have hi:=eF (sc:Int) (by unfold IsN at hs;omega) (by unfold IsN at hs;omega)
    have a0:=cJ hs
    have hB:=gK 139 [.eptr [.agg [.int .i64 3,.int .i64 m,.int .i64 M,.int .i64 (sc:Int),.list [],.list [],.list []]] 0 0] 3 m M sc [] [] [] _ _ (.inr ⟨_,rfl⟩) (vY 3 m M m sc [] [] [] hm) (vY 3 m M M sc [] [] [] hM) (by have:=cw hm;omega) (by have:=cw hM;omega)
    have hBl:=du (cl m sc) (cl M sc)
    have b1:=cw hm
    have b2:=cw hM
    rw[bA n (by omega),bp,if_pos rfl,Int.toNat_natCast]
    clear l1 ih
    generalize ew (cl m sc) (cl M sc)=B at *
    generalize aN (sc:Int)=J at *
    have hS:aX 3++[40]++J++[44,32]++B++[41]=aX 3++(40::((J++(44::32::B))++[41])):=by simp
    rw[<- hS]
    clear hS
    generalize aX 3=N at *
    refine am.intro Q62.2 (by simp[Q62]) ?_
    simp(disch:=try exact dI) only[Q62,WB,push_cast,seval]
    refine ae.pure hK rfl ?_
    refine zgZ ?_
    refine ae.pure hi rfl ?_
    refine zgZ ?_
    refine ae.pure hB rfl ?_
    exact qsZ
   ·have hK:=gy 4 (by omega)
    have hNl:=cU 4
    have hlw:0<w.length:=List.length_pos_iff.2 hw
    have hlwI:(0:Int)<(w.length:Int):=by omega
    have hJl:=pK [32,124,32] aA 7000 w fun x hx=>by
     have:=bf x
     have:=l3 x hx
     simp only[WG,WL]
     omega
    have hjn:=pJ (w.map aA) [32,124,32] (by simp;omega) (by omega)
    rw[bA n (by omega),bp,if_neg (by omega),if_neg (by omega),if_neg (by omega),if_neg (by omega),if_neg (by omega),if_pos hlw]
    clear l1 ih
    generalize aM [32,124,32] (w.map aA)=J at *
    have hS:aX 4++[40]++J++[41]=aX 4++(40::(J++[41])):=by simp
    rw[<- hS]
    clear hS
    generalize aX 4=N at *
    refine am.intro Q62.2 (by simp[Q62]) ?_
    simp(disch:=try exact dI) only[Q62,WB,push_cast,seval]
    refine ae.pure hK rfl ?_
    simp(disch:=try exact dI) only[hlwI,push_cast,seval]
    refine aG ([(10,0,9,1)]) (fun i:Nat=>[(10,.olist 0 1 (((w.take i).map aA).map PV.str)),(103,.pv (.int .i64 (i:Int)))]) (fun _=>[]) (fun i=>i<=w.length) (fun i=>w.length - i) (0) ?_;intro e0 σ0 n0 h0;simp(disch:=try exact dI) only[push_cast,seval] at h0;obtain⟨rfl,rfl,rfl⟩:=h0;refine⟨?_,?_,?_⟩
    ·exact qsZ
    ·exact Nat.zero_le _
    intro i hi
    by_cases hlt:i<w.length
    ·have hltI:(i:Int)<(w.length:Int):=by omega
     obtain⟨x,hx⟩:∃ x,w[i]? = some x:=⟨_,WE hlt⟩
     have hx':(w.map PV.str)[i]? = some (.str x):=by simp[hx]
     have hq:=mj x (by have:=l3 x (WK hx);omega)
     have hts:=aK hx
     have hQ:(((w.take (i+1)).map aA).map PV.str)=((w.take i).map aA).map PV.str++[.str (aA x)]:=by rw[hts];simp
     have hl:(((w.take i).map aA).map PV.str).length<=64:=by simp;omega
     generalize ((w.take i).map aA).map PV.str=Q at *
     simp(disch:=try exact dI) only[hltI,hx',push_cast,seval]
     refine ae.pure hq rfl ?_
     refine zgZ ?_
     exact⟨i+1,bl (by simp(disch:=try exact dI) only[hQ,push_cast,seval]),by omega,by omega⟩
    ·have hltI:¬ (i:Int)<(w.length:Int):=by omega
     obtain rfl:i=w.length:=by omega
     rw[WV]
     simp(disch:=try exact dI) only[hltI,push_cast,seval]
     refine ae.pure hjn rfl ?_
     exact qsZ
   ·have hK:=gy 6 (by omega)
    have hNl:=cU 6
    obtain⟨p1,_,p3⟩:=iH hm
    obtain⟨q1,_,q3⟩:=iH hM
    have r1:=bf (gV m)
    have r2:=bf (gV M)
    have hA:=rh 43
    have hB:=gK 137 [.eptr [.clo 43 [] []] 0 0] 6 m M 0 [] [] [] _ _ (.inr ⟨_,rfl⟩) (jd 43 m _ p1 (by omega)) (jd 43 M _ q1 (by omega)) (by omega) (by omega)
    have hBl:=du (aA (gV m)) (aA (gV M))
    rw[bA n (by omega),bp,if_neg (by omega),if_pos rfl]
    clear l1 ih
    generalize ew (aA (gV m)) (aA (gV M))=B at *
    have hS:aX 6++[40]++B++[41]=aX 6++(40::(B++[41])):=by simp
    rw[<- hS]
    clear hS
    generalize aX 6=N at *
    refine am.intro Q62.2 (by simp[Q62]) ?_
    simp(disch:=try exact dI) only[Q62,WB,push_cast,seval]
    refine ae.pure hK rfl ?_
    refine zgZ ?_
    refine ae.pure hA rfl ?_
    refine zgZ ?_
    refine ae.pure hB rfl ?_
    exact qsZ
   ·have hK:=gy 7 (by omega)
    have hNl:=cU 7
    obtain⟨p1,_,p3⟩:=fl hm
    obtain⟨q1,_,q3⟩:=fl hM
    have r1:=bf (ct m)
    have r2:=bf (ct M)
    have hA:=rh 44
    have hB:=gK 137 [.eptr [.clo 44 [] []] 0 0] 7 m M 0 [] [] [] _ _ (.inr ⟨_,rfl⟩) (jd 44 m _ p1 (by omega)) (jd 44 M _ q1 (by omega)) (by omega) (by omega)
    have hBl:=du (aA (ct m)) (aA (ct M))
    rw[bA n (by omega),bp,if_neg (by omega),if_neg (by omega),if_pos rfl]
    clear l1 ih
    generalize ew (aA (ct m)) (aA (ct M))=B at *
    have hS:aX 7++[40]++B++[41]=aX 7++(40::(B++[41])):=by simp
    rw[<- hS]
    clear hS
    generalize aX 7=N at *
    refine am.intro Q62.2 (by simp[Q62]) ?_
    simp(disch:=try exact dI) only[Q62,WB,push_cast,seval]
    refine ae.pure hK rfl ?_
    refine zgZ ?_
    refine ae.pure hA rfl ?_
    refine zgZ ?_
    refine ae.pure hB rfl ?_
    exact qsZ
   ·have hK:=gy 8 (by omega)
    have hNl:=cU 8
    have hi1:=eF m (by unfold IsN at hm;omega) (by unfold IsN at hm;omega)
    have hi2:=eF M (by unfold IsN at hM;omega) (by unfold IsN at hM;omega)
    have a1:=cJ hm
    have a2:=cJ hM
    have hB:=gK 66 [] 8 m M 0 [] [x.pv] [] _ _ (.inl rfl) hi1 hi2 (by omega) (by omega)
    have hBl:=du (aN m) (aN M)
    have hc:=ih x hx (l5 x (by simp))
    have hcl:=(l5 x (by simp)).len
    rw[bA n (by omega),bp,if_neg (by omega),if_neg (by omega),if_neg (by omega),if_neg (by omega),if_pos rfl,show [x].headD bX=x from rfl]
    clear l1 l5 ih hi1 hi2
    generalize ew (aN m) (aN M)=B at *
    generalize aI n x=X at *
    have hS:aX 8++[40]++B++[44,32]++X++[41]=aX 8++(40::((B++(44::32::X))++[41])):=by simp
    rw[<- hS]
    clear hS
    generalize aX 8=N at *
    obtain⟨x1,x2,x3,x4,x5,x6,x7⟩:=x
    simp only[WB] at hc hB
    refine am.intro Q62.2 (by simp[Q62]) ?_
    simp(disch:=try exact dI) only[Q62,WB,WP,Xp,push_cast,seval]
    refine ae.pure hK rfl ?_
    refine zgZ ?_
    refine ag hB rfl ?_
    simp(disch:=try exact dI) only[WB,ap,V2,push_cast,seval]
    refine ag hc rfl ?_
    exact qsZ
   ·have hK:=gy k (by omega)
    have hNl:=cU k
    have hins:Oi (aI n) (.mk k 0 0 0 [] [] f)=aM [44,32] (f.map (bx (aI n))):=by
     rw[bp,if_neg (by omega),if_neg (by omega),if_neg (by omega),if_pos hk]
    rw[bA n (by omega),hins] at l1
    simp only[List.length_append,WG,WL] at l1
    have hjn:=Oh (f.map (bx (aI n))) (by simp;omega) (by omega)
    rw[bA n (by omega),hins]
    generalize hJ:aM [44,32] (f.map (bx (aI n)))=J at *
    have hJl:J.length<=170000000000:=by omega
    have hfl:∀ g∈f,am Tryz.prog aC 140 [g.pv] (.str (bx (aI n) g)):=fun g hg=>by
     obtain⟨g1,g2,g3,g4,g5,g6⟩:=l6 g hg
     have hgr:=hf g hg
     refine JH (aI n) g (ih g.typ (sf hgr) g1) (by have:=g1.len;omega) g3 g4 g5 fun q=>?_
     obtain⟨v,e1,e2⟩:=g6 q
     exact⟨v,e1,(Qi e2).1,by have:=th e2;omega⟩
    clear l1 l5 l6 ih hins hf
    have hS:aX k++[40]++J++[41]=aX k++(40::(J++[41])):=by simp
    rw[<- hS]
    clear hS
    generalize aX k=N at *
    generalize bx (aI n)=F at *
    rcases hk with rfl | rfl
    all_goals
     refine am.intro Q62.2 (by simp[Q62]) ?_
     simp(disch:=try exact dI) only[Q62,WB,push_cast,seval]
     refine ae.pure hK rfl ?_
     refine zgZ ?_
     refine aG ([(7,0,9,1)]) (fun i:Nat=>[(7,.olist 0 1 (((f.take i).map F).map PV.str)),(80,.pv (.int .i64 (i:Int)))]) (fun _=>[]) (fun i=>i<=f.length) (fun i=>f.length - i) (0) ?_;intro e0 σ0 n0 h0;simp(disch:=try exact dI) only[push_cast,seval] at h0;obtain⟨rfl,rfl,rfl⟩:=h0;refine⟨?_,?_,?_⟩
     ·exact qsZ
     ·exact Nat.zero_le _
     intro i hi
     by_cases hlt:i<f.length
     ·have hltI:(i:Int)<(f.length:Int):=by omega
      obtain⟨x,hx⟩:∃ x,f[i]? = some x:=⟨_,WE hlt⟩
      have hx':(f.map TFd.pv)[i]? = some x.pv:=by simp[hx]
      have hq:=hfl x (WK hx)
      have hts:=aK hx
      have hQ:(((f.take (i+1)).map F).map PV.str)=((f.take i).map F).map PV.str++[.str (F x)]:=by rw[hts];simp
      have hl:(((f.take i).map F).map PV.str).length<=64:=by simp;omega
      generalize ((f.take i).map F).map PV.str=Q at *
      generalize F x=X at *
      obtain⟨u1,u2,u3,⟨w1,w2,w3,w4,w5,w6,w7⟩,u5⟩:=x
      simp only[Wt,WB,ap] at hx' hq
      simp(disch:=try exact dI) only[hltI,hx',ap,push_cast,seval]
      refine ae.pure hq rfl ?_
      refine zgZ ?_
      exact⟨i+1,bl (by simp(disch:=try exact dI) only[hQ,push_cast,seval]),by omega,by omega⟩
     ·have hltI:¬ (i:Int)<(f.length:Int):=by omega
      obtain rfl:i=f.length:=by omega
      rw[WV]
      simp(disch:=try exact dI) only[hltI,push_cast,seval]
      refine ae.pure hjn rfl ?_
      exact qsZ
