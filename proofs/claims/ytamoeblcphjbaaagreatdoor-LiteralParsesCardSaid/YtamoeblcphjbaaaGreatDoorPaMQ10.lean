/- A part of the proof. -/
import Derived.Test.YtamoeblcphjbaaaGreatDoorPaMQ7
set_option maxHeartbeats 16000000
set_option maxRecDepth 100000
set_option linter.unusedVariables false
set_option linter.unusedSimpArgs false
-- many steps
namespace Go.Proofs.YtamoeblcphjbaaaGreatDoor
open Go Go.Ab
attribute [local irreducible] vc
theorem Fq {val:Mo→Val×Mo}{k:Nat}{l:List Val}{M:Mo}(h:¬ (M.e=0∧¬ M.k=93)):eZ val k l M=(l,M):=by
 cases k with
 | zero=>rfl
 | succ k=>rw[eZ,if_neg h]
theorem Fr {val:Mo→Val×Mo}{k:Nat}{l:List Val}{M:Mo}(h:M.e=0∧¬ M.k=93) :
  eZ val (k+1) l M=if (val M).2.e=0∧(val M).2.k=44 then eZ val k (l++[(val M).1]) (Dg (val M).2 93) else (l++[(val M).1],(val M).2):=by
 rw[eZ,if_pos h]
theorem O0 {M:Mo}{k:Int}(h:M.e=0∧(M.k:Int)=k):lm M k=(true,nextM M):=if_pos h
theorem O3 {M:Mo}{k:Int}(h:¬ (M.e=0∧(M.k:Int)=k)):lm M k=(false,M):=if_neg h
theorem OH {M:Mo}{k:Nat}(h:(nextM M).e=0∧(nextM M).k=k):Dg M k=aU (nextM M) 13 (nextM M).p:=if_pos h
theorem OI {M:Mo}{k:Nat}(h:¬ ((nextM M).e=0∧(nextM M).k=k)):Dg M k=nextM M:=if_neg h
theorem tR {M M':Mo}(h:c8 M M'):msM M'≤msM M:=by
 unfold msM
 by_cases h0:M'.e=0
 ·obtain⟨g1,g2⟩:=h.2.2 h0
  rw[if_pos h0,if_pos g1,h.2.1];omega
 ·rw[if_neg h0];omega
section
variable {T:Nat}{p:PV}
theorem NU (hN:jw T p)(val:Mo→Val×Mo)(M:Mo)(d:Nat)(hd:d≤7)(s:List UInt8)(hsl:s.length≤65536)(hv:ln val s)(hc:CM T p val s (d+1))(hs:M.s=s)(hM:OkM M)(h0:M.e=0)(hk:M.k=91) :
  aF Tryz.prog (bG T p) 1 54 [.ptr 0 0,.pv (.int .i64 (d:Int))] [moB M] (.pv (Val.mk 8 0 0 [] (eZ val (s.length+2) [] (nextM M)).1 []).pv) [moB (bi (eZ val (s.length+2) [] (nextM M)).2 93).2]:=by
 have hn:=hN M hM.1
 have hd8:¬ (8:Int)≤(d:Int):=by omega
 have s1:=(be hM).1
 have s1s:=s1.2.1.trans hs
 have s1o:=s1.1
 obtain⟨Z,hZ⟩:∃ Z,Z=eZ val (s.length+2) [] (nextM M):=⟨_,rfl⟩
 rw[← hZ]
 clear s1
 generalize nextM M=N at *
 obtain⟨ms,mn,mk,mp,mx,mv,me,mb⟩:=M
 simp only at hk h0
 subst h0
 subst hk
 simp only[moB,moC,Int.cast_ofNat_Int] at hn
 rw[show moB { s:=ms,nx:=mn,k:=91,p:=mp,x:=mx,v:=mv,e:=0,bad:=mb } = .cells 95 true [.pv (.str ms),.pv (.int .i64 (mn:Int)),.pv (.int .u8 91),.pv (.int .i64 (mp:Int)),.pv (.str mx),.pv (.str mv),.pv (.int .i64 0),.pv (.int .i64 (mb:Int))] from rfl]
 refine aF.intro fA (by simp[F54]) ?_
 simp(disch:=try exact dI) only[F54,hd8,push_cast,seval]
 refine ab.lentK hn [0] rfl qsZ qsZ ?_
 refine zgZ ?_
 refine f7 ([(8,5,25,6)]) (fun y:List Val×Mo=>[]) (fun y=>[(0,moB y.2),(2,.cells 25 true [.pv (.int .i64 8),.pv (.int .i64 0),.pv (.int .i64 0),.pv (.str []),.olist 3 6 (y.1.map Val.pv),.pv .nils])]) (fun y=>OkM y.2∧y.2.s=s∧y.1.length+msM y.2≤s.length+1∧∃ k,msM y.2<k∧Z=eZ val k y.1 y.2) (fun y=>msM y.2) (([],N)) ([0,4,8]) (fun y=>OkM y.2∧y.2.s=s∧y.1.length≤s.length+2∧Z=y) ?_;intro e0 σ0 n0 h0;simp(disch:=try exact dI) only[push_cast,seval] at h0;obtain⟨rfl,rfl,rfl⟩:=h0;refine⟨?_,?_,?_,?_⟩
 ·simp(disch:=try exact dI) only[moB,moC,push_cast,seval]
 ·refine⟨s1o,s1s,?_,s.length+2,?_,hZ⟩
  ·simp only[List.length_nil,msM,s1s];split<;>omega
  ·simp only[msM,s1s];split<;>omega
 ·rintro⟨l,L⟩ ⟨h1,h3,h4,k,hk,hZk⟩
  simp only at h1 h3 h4 hk hZk
  obtain⟨k,rfl⟩:∃ j,k=j+1:=⟨k - 1,by omega⟩
  have fin:¬ (L.e=0∧¬ L.k=93)→Z=(l,L):=fun h=>hZk.trans (Fq h)
  by_cases h0:L.e=0
  ·have h0I:(L.e=0)=True:=eq_true h0
   by_cases hk93:L.k=93
   ·have hkI:((L.k:Int)=93)=True:=eq_true (by omega)
    have hf:=fin (fun q=>q.2 hk93)
    simp(disch:=try exact dI) only[moB,moC,h0I,hkI,push_cast,seval]
    exact⟨(l,L),⟨h1,h3,by simp only;omega,hf⟩,by simp(disch:=try exact dI) only[moB,moC,push_cast,seval]⟩
   ·have hkI:¬ (L.k:Int)=93:=by omega
    rw[Fr ⟨h0,hk93⟩] at hZk
    obtain⟨g1,g2⟩:=hv L h1 h3
    have hlt:=Ha h1 h0 g1 g2
    have hcall:=hc L h1 h3
    have hacc:=p9 hN (val L).2 44 g1.1.1
    have hst:=be g1.1
    have hsc:=g1.trans (d7 (k:=93) g1.1)
    generalize val L=q at *
    obtain⟨v,L2⟩:=q
    simp only at hcall hZk hacc hlt g1 hsc hst
    have hmp:(l++[v]).map Val.pv=l.map Val.pv++[v.pv]:=by simp
    have hll:(l++[v]).length=l.length+1:=by simp
    obtain⟨w1,w2,w3,w4,w5,w6⟩:=v
    have hbs:=Gf w1 w2 w3 w4 (w5.map Val.pv) (w6.map Fld.pv)
    by_cases ha:L2.e=0∧L2.k=44
    ·rw[if_pos ha] at hZk
     rw[O0 ⟨ha.1,by omega⟩] at hacc
     have hms:=tR (d7 (k:=93) g1.1)
     by_cases hcm:(nextM L2).e=0∧(nextM L2).k=93
     ·have hf:=dC (T:=T) (p:=p) (nextM L2) (nextM L2).p 13
      rw[OH hcm] at hZk hsc hms
      generalize aU (nextM L2) 13 (nextM L2).p=L4 at *
      generalize nextM L2=L3 at *
      have e1:(L3.e=0)=True:=eq_true hcm.1
      have e2:((L3.k:Int)=93)=True:=eq_true (by omega)
      simp only[moB,moC,Val.pv_mk] at hcall hacc hf
      simp(disch:=try exact dI) only[moB,moC,h0I,hkI,push_cast,seval]
      refine aT hcall [0] rfl qsZ qsZ ?_
      simp(disch:=try exact dI) only[hbs,push_cast,seval]
      refine ab.lentK hacc [0] rfl qsZ qsZ ?_
      simp(disch:=try exact dI) only[e1,e2,push_cast,seval]
      refine ab.lentK hf [0] rfl qsZ qsZ ?_
      refine zgZ ?_
      exact⟨(l++[.mk w1 w2 w3 w4 w5 w6],L4),bz (by simp(disch:=try exact dI) only[moB,moC,hmp,Val.pv_mk,push_cast,seval]),⟨hsc.1,hsc.2.1.trans h3,by simp only[hll];omega,k,by simp only;omega,hZk⟩,by simp only;omega⟩
     ·rw[OI hcm] at hZk hsc hms
      generalize nextM L2=L3 at *
      simp only[moB,moC,Val.pv_mk] at hcall hacc
      by_cases c0:L3.e=0
      ·have e1:(L3.e=0)=True:=eq_true c0
       have e2:¬ (L3.k:Int)=93:=fun q=>hcm ⟨c0,by omega⟩
       simp(disch:=try exact dI) only[moB,moC,h0I,hkI,push_cast,seval]
       refine aT hcall [0] rfl qsZ qsZ ?_
       simp(disch:=try exact dI) only[hbs,push_cast,seval]
       refine ab.lentK hacc [0] rfl qsZ qsZ ?_
       simp(disch:=try exact dI) only[e1,e2,push_cast,seval]
       exact⟨(l++[.mk w1 w2 w3 w4 w5 w6],L3),bz (by simp(disch:=try exact dI) only[moB,moC,hmp,Val.pv_mk,push_cast,seval]),⟨hsc.1,hsc.2.1.trans h3,by simp only[hll];omega,k,by simp only;omega,hZk⟩,by simp only;omega⟩
      ·simp(disch:=try exact dI) only[moB,moC,h0I,hkI,push_cast,seval]
       refine aT hcall [0] rfl qsZ qsZ ?_
       simp(disch:=try exact dI) only[hbs,push_cast,seval]
       refine ab.lentK hacc [0] rfl qsZ qsZ ?_
       simp(disch:=try exact dI) only[c0,push_cast,seval]
       exact⟨(l++[.mk w1 w2 w3 w4 w5 w6],L3),bz (by simp(disch:=try exact dI) only[moB,moC,hmp,Val.pv_mk,push_cast,seval]),⟨hsc.1,hsc.2.1.trans h3,by simp only[hll];omega,k,by simp only;omega,hZk⟩,by simp only;omega⟩
    ·rw[if_neg ha] at hZk
     rw[O3 (fun q=>ha ⟨q.1,by omega⟩)] at hacc
     simp only[moB,moC,Val.pv_mk] at hcall hacc
     simp(disch:=try exact dI) only[moB,moC,h0I,hkI,push_cast,seval]
     refine aT hcall [0] rfl qsZ qsZ ?_
     simp(disch:=try exact dI) only[hbs,push_cast,seval]
     refine ab.lentK hacc [0] rfl qsZ qsZ ?_
     refine zgZ ?_
     exact⟨(l++[.mk w1 w2 w3 w4 w5 w6],L2),⟨g1.1,g1.2.1.trans h3,by simp only[hll];omega,hZk⟩,by simp(disch:=try exact dI) only[moB,moC,hmp,Val.pv_mk,push_cast,seval]⟩
  ·have hf:=fin (fun q=>h0 q.1)
   simp(disch:=try exact dI) only[moB,moC,h0,push_cast,seval]
   exact⟨(l,L),⟨h1,h3,by simp only;omega,hf⟩,by simp(disch:=try exact dI) only[moB,moC,push_cast,seval]⟩
 intro y hy s1' hs1
 obtain⟨l,L⟩:=y
 obtain⟨g1,g2,g3,g4⟩:=hy
 simp only at g1 g2 g3
 simp(disch:=try exact dI) only[moB,moC,push_cast,seval] at hs1
 subst hs1
 subst g4
 have htk:=il hN L 93 g1.1
 simp only
 generalize bi L 93=r at *
 obtain⟨t5,N5⟩:=r
 simp only[moB,moC,tkM,Val.pv_mk] at htk ⊢
 refine zgZ ?_
 refine ab.lentK htk [0] rfl qsZ qsZ ?_
 refine zgZ ?_
 exact am [] qsZ
end
end Go.Proofs.YtamoeblcphjbaaaGreatDoor
-- many steps
namespace Go.Proofs.YtamoeblcphjbaaaGreatDoor
open Go Go.Ab
attribute [local irreducible] vc
theorem IM {val:Mo→Val×Mo}{k:Nat}{l:List Fld}{M:Mo}(h:¬ (M.e=0∧¬ M.k=125)):nX val k l M=(l,M):=by
 cases k with
 | zero=>rfl
 | succ k=>rw[nX,if_neg h]
theorem IO {val:Mo→Val×Mo}{k:Nat}{l:List Fld}{M:Mo}(h:M.e=0∧¬ M.k=125) :
  nX val (k+1) l M=if (cb val l M).2.e=0∧(cb val l M).2.k=44 then nX val k (cb val l M).1 (Dg (cb val l M).2 125) else cb val l M:=by
 rw[nX,if_pos h]
section
variable {T:Nat}{p:PV}
theorem QX (hN:jw T p)(val:Mo→Val×Mo)(M:Mo)(d:Nat)(hd:d≤7)(s:List UInt8)(hsl:s.length≤65536)(hv:ln val s)(hc:CM T p val s (d+1))(hs:M.s=s)(hM:OkM M)(h0:M.e=0)(hk:M.k=123) :
  aF Tryz.prog (bG T p) 1 54 [.ptr 0 0,.pv (.int .i64 (d:Int))] [moB M] (.pv (Val.mk 9 0 0 [] [] (nX val (s.length+2) [] (nextM M)).1).pv) [moB (bi (nX val (s.length+2) [] (nextM M)).2 125).2]:=by
 have hn:=hN M hM.1
 have hd8:¬ (8:Int)≤(d:Int):=by omega
 have s1:=(be hM).1
 have s1s:=s1.2.1.trans hs
 have s1o:=s1.1
 obtain⟨Z,hZ⟩:∃ Z,Z=nX val (s.length+2) [] (nextM M):=⟨_,rfl⟩
 rw[← hZ]
 clear s1
 generalize nextM M=N at *
 obtain⟨ms,mn,mk,mp,mx,mv,me,mb⟩:=M
 simp only at hk h0
 subst h0
 subst hk
 simp only[moB,moC,Int.cast_ofNat_Int] at hn
 rw[show moB { s:=ms,nx:=mn,k:=123,p:=mp,x:=mx,v:=mv,e:=0,bad:=mb } = .cells 95 true [.pv (.str ms),.pv (.int .i64 (mn:Int)),.pv (.int .u8 123),.pv (.int .i64 (mp:Int)),.pv (.str mx),.pv (.str mv),.pv (.int .i64 0),.pv (.int .i64 (mb:Int))] from rfl]
 refine aF.intro fA (by simp[F54]) ?_
 simp(disch:=try exact dI) only[F54,hd8,push_cast,seval]
 refine ab.lentK hn [0] rfl qsZ qsZ ?_
 refine zgZ ?_
 refine f7 ([(9,6,39,7)]) (fun y:List Fld×Mo=>[]) (fun y=>[(0,moB y.2),(2,ly y.1 3),(3,.tok 39 7)]) (fun y=>OkM y.2∧y.2.s=s∧y.1.length+msM y.2≤s.length+1∧∃ k,msM y.2<k∧Z=nX val k y.1 y.2) (fun y=>msM y.2) (([],N)) ([0,4,9]) (fun y=>OkM y.2∧y.2.s=s∧y.1.length≤s.length+2∧Z=y) ?_;intro e0 σ0 n0 h0;simp(disch:=try exact dI) only[push_cast,seval] at h0;obtain⟨rfl,rfl,rfl⟩:=h0;refine⟨?_,?_,?_,?_⟩
 ·simp(disch:=try exact dI) only[moB,moC,ly,push_cast,seval]
 ·refine⟨s1o,s1s,?_,s.length+2,?_,hZ⟩
  ·simp only[List.length_nil,msM,s1s];split<;>omega
  ·simp only[msM,s1s];split<;>omega
 ·rintro⟨l,L⟩ ⟨h1,h3,h4,k,hk,hZk⟩
  simp only at h1 h3 h4 hk hZk
  obtain⟨k,rfl⟩:∃ j,k=j+1:=⟨k - 1,by omega⟩
  have fin:¬ (L.e=0∧¬ L.k=125)→Z=(l,L):=fun h=>hZk.trans (IM h)
  by_cases h0:L.e=0
  ·have h0I:(L.e=0)=True:=eq_true h0
   by_cases hk125:L.k=125
   ·have hkI:((L.k:Int)=125)=True:=eq_true (by omega)
    have hf:=fin (fun q=>q.2 hk125)
    simp(disch:=try exact dI) only[moB,moC,ly,h0I,hkI,push_cast,seval]
    exact⟨(l,L),⟨h1,h3,by simp only;omega,hf⟩,by simp(disch:=try exact dI) only[moB,moC,ly,push_cast,seval]⟩
   ·have hkI:¬ (L.k:Int)=125:=by omega
    rw[IO ⟨h0,hk125⟩] at hZk
    obtain⟨g1,g2⟩:=kQ hv (l:=l) h1 h3
    have hlt:=Ha h1 h0 g1 g2
    have hcall:=FU hN val s d (by omega) hv hc l (by omega) L h1 h3
    have hacc:=p9 hN (cb val l L).2 44 g1.1.1
    have hst:=be g1.1
    have hsc:=g1.trans (d7 (k:=125) g1.1)
    have hll:(cb val l L).1.length=l.length+1:=by
     show (Dc l _).length=_
     unfold Dc
     have:=zO (l:=l) (nm:=(Fld.mk (bT L).x (val (eT l L)).1).name) (i:=0) (by omega)
     simp only[List.length_append,List.length_singleton,List.length_take,List.length_drop]
     omega
    generalize cb val l L=q at *
    obtain⟨l2,L2⟩:=q
    simp only at hcall hZk hacc hlt g1 hsc hst hll
    by_cases ha:L2.e=0∧L2.k=44
    ·rw[if_pos ha] at hZk
     rw[O0 ⟨ha.1,by omega⟩] at hacc
     have hms:=tR (d7 (k:=125) g1.1)
     by_cases hcm:(nextM L2).e=0∧(nextM L2).k=125
     ·have hf:=dC (T:=T) (p:=p) (nextM L2) (nextM L2).p 13
      rw[OH hcm] at hZk hsc hms
      generalize aU (nextM L2) 13 (nextM L2).p=L4 at *
      generalize nextM L2=L3 at *
      have e1:(L3.e=0)=True:=eq_true hcm.1
      have e2:((L3.k:Int)=125)=True:=eq_true (by omega)
      simp only[moB,moC,ly] at hcall hacc hf
      simp(disch:=try exact dI) only[moB,moC,ly,h0I,hkI,push_cast,seval]
      refine ab.lentK hcall [0,2,3] rfl qsZ qsZ ?_
      refine zgZ ?_
      refine ab.lentK hacc [0] rfl qsZ qsZ ?_
      simp(disch:=try exact dI) only[e1,e2,push_cast,seval]
      refine ab.lentK hf [0] rfl qsZ qsZ ?_
      refine zgZ ?_
      exact⟨(l2,L4),bz (by simp(disch:=try exact dI) only[moB,moC,ly,push_cast,seval]),⟨hsc.1,hsc.2.1.trans h3,by simp only[hll];omega,k,by simp only;omega,hZk⟩,by simp only;omega⟩
     ·rw[OI hcm] at hZk hsc hms
      generalize nextM L2=L3 at *
      simp only[moB,moC,ly] at hcall hacc
      by_cases c0:L3.e=0
      ·have e1:(L3.e=0)=True:=eq_true c0
       have e2:¬ (L3.k:Int)=125:=fun q=>hcm ⟨c0,by omega⟩
       simp(disch:=try exact dI) only[moB,moC,ly,h0I,hkI,push_cast,seval]
       refine ab.lentK hcall [0,2,3] rfl qsZ qsZ ?_
       refine zgZ ?_
       refine ab.lentK hacc [0] rfl qsZ qsZ ?_
       simp(disch:=try exact dI) only[e1,e2,push_cast,seval]
       exact⟨(l2,L3),bz (by simp(disch:=try exact dI) only[moB,moC,ly,push_cast,seval]),⟨hsc.1,hsc.2.1.trans h3,by simp only[hll];omega,k,by simp only;omega,hZk⟩,by simp only;omega⟩
      ·simp(disch:=try exact dI) only[moB,moC,ly,h0I,hkI,push_cast,seval]
       refine ab.lentK hcall [0,2,3] rfl qsZ qsZ ?_
       refine zgZ ?_
       refine ab.lentK hacc [0] rfl qsZ qsZ ?_
       simp(disch:=try exact dI) only[c0,push_cast,seval]
       exact⟨(l2,L3),bz (by simp(disch:=try exact dI) only[moB,moC,ly,push_cast,seval]),⟨hsc.1,hsc.2.1.trans h3,by simp only[hll];omega,k,by simp only;omega,hZk⟩,by simp only;omega⟩
    ·rw[if_neg ha] at hZk
     rw[O3 (fun q=>ha ⟨q.1,by omega⟩)] at hacc
     simp only[moB,moC,ly] at hcall hacc
     simp(disch:=try exact dI) only[moB,moC,ly,h0I,hkI,push_cast,seval]
     refine ab.lentK hcall [0,2,3] rfl qsZ qsZ ?_
     refine zgZ ?_
     refine ab.lentK hacc [0] rfl qsZ qsZ ?_
     refine zgZ ?_
     exact⟨(l2,L2),⟨g1.1,g1.2.1.trans h3,by simp only[hll];omega,hZk⟩,by simp(disch:=try exact dI) only[moB,moC,ly,push_cast,seval]⟩
  ·have hf:=fin (fun q=>h0 q.1)
   simp(disch:=try exact dI) only[moB,moC,ly,h0,push_cast,seval]
   exact⟨(l,L),⟨h1,h3,by simp only;omega,hf⟩,by simp(disch:=try exact dI) only[moB,moC,ly,push_cast,seval]⟩
 intro y hy s1' hs1
 obtain⟨l,L⟩:=y
 obtain⟨g1,g2,g3,g4⟩:=hy
 simp only at g1 g2 g3
 simp(disch:=try exact dI) only[moB,moC,ly,push_cast,seval] at hs1
 subst hs1
 subst g4
 have htk:=il hN L 125 g1.1
 simp only
 generalize bi L 125=r at *
 obtain⟨t5,N5⟩:=r
 simp only[moB,moC,tkM,Val.pv_mk] at htk ⊢
 refine zgZ ?_
 refine ab.lentK htk [0] rfl qsZ qsZ ?_
 refine zgZ ?_
 exact am [] qsZ
theorem xS (hN:jw T p)(s:List UInt8)(hsl:s.length≤65536):∀ f d,f+d=8→CM T p (dt f d) s d
 | f,d,hfd=>by
   intro M hM hs
   refine Classical.byCases (p:=¬ M.e=0) (fun h0=>by rw[sP h0];exact Ru M d h0) fun h0=>?_
   have h0:M.e=0:=Classical.not_not.1 h0
   by_cases hb:pZ M.k
   ·rw[mM h0 hb];exact RP M d h0 hb
   cases f with
   | zero=>
     obtain rfl:d=8:=by omega
     rw[jU h0 hb]
     exact Oz M h0 hb
   | succ f=>
     rw[qx h0 hb]
     have ih:=xS hN s hsl f (d+1) (by omega)
     have hv:=gD s f (d+1)
     have hd:d≤7:=by omega
     have hk:=Oc hb
     unfold qy
     by_cases k1:M.k=110
     ·rw[if_pos k1];exact QY hN M d hd hM h0 k1
     rw[if_neg k1]
     by_cases k2:M.k=115
     ·have:=MM hN M d hd hM h0 (.inl k2)
      rw[if_pos k2] at this ⊢;exact this
     rw[if_neg k2]
     by_cases k3:M.k=120
     ·have:=MM hN M d hd hM h0 (.inr k3)
      rw[if_neg k2] at this
      rw[if_pos k3];exact this
     rw[if_neg k3]
     by_cases k4:M.k=91
     ·rw[if_pos k4,hs];exact NU hN _ M d hd s hsl hv ih hs hM h0 k4
     rw[if_neg k4]
     by_cases k5:M.k=123
     ·rw[if_pos k5,hs];exact QX hN _ M d hd s hsl hv ih hs hM h0 k5
     rw[if_neg k5]
     have k6:M.k=119:=by omega
     by_cases hw:(nextM M).e=0∧(nextM M).k=40
     ·rw[if_pos hw];exact QB hN _ M d hd s hv ih hs hM h0 k6 hw
     ·rw[if_neg hw];exact Mq hN M d hd hM h0 k6 hw
end
end Go.Proofs.YtamoeblcphjbaaaGreatDoor
