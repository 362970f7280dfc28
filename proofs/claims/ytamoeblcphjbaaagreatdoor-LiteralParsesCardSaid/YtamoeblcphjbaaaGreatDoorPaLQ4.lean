/- A part of the proof. -/
import Derived.Test.YtamoeblcphjbaaaGreatDoorPaLQ3
set_option maxHeartbeats 16000000
set_option maxRecDepth 100000
set_option linter.unusedVariables false
set_option linter.unusedSimpArgs false
-- many steps
namespace Go.Proofs.YtamoeblcphjbaaaGreatDoor
open Go Go.Ab
attribute [local irreducible] vc
theorem mU {val:Rd→Val×Rd}{k:Nat}{first:Bool}{seen:List (List UInt8)}{l:List Fld}{R:Rd}(h:¬ (R.e=0∧isT R [125]=false)):iZ val k first seen l R=(l,R):=by
 cases k with
 | zero=>rfl
 | succ k=>rw[iZ];exact if_neg h
def qr (b:Bool)(R:Rd):List UInt8×Rd:=bg (if b=true then R else aq R [44])
def dJ (seen:List (List UInt8))(b:Bool)(R:Rd):Rd:=
 if (qr b R).2.e=0∧(qr b R).1∈seen then aI (qr b R).2 (if b=true then R else aq R [44]).now.pos 7 else (qr b R).2
theorem mV {val:Rd→Val×Rd}{k:Nat}{b:Bool}{seen:List (List UInt8)}{l:List Fld}{R:Rd}(h:R.e=0∧isT R [125]=false) :
  iZ val (k+1) b seen l R=iZ val k false (sn seen (qr b R).1) (l++[.mk (qr b R).1 (val (aq (dJ seen b R) [58])).1]) (val (aq (dJ seen b R) [58])).2:=by
 rw[iZ];exact if_pos h
theorem fj {val:Rd→Val×Rd}{s:List UInt8}(hv:xB val s){R:Rd}(b:Bool)(seen:List (List UInt8))(hR:OkR R)(hT:OkT R)(hs:R.s=s)(h0:R.e=0) :
  fO R (if b=true then R else aq R [44])∧fO R (qr b R).2∧(qr b R).1.length≤65536∧fO R (dJ seen b R)∧fO R (aq (dJ seen b R) [58]) ∧
   fO R (val (aq (dJ seen b R) [58])).2∧(val (aq (dJ seen b R) [58])).1.ok∧msr (val (aq (dJ seen b R) [58])).2<msr R:=by
 have h1:fO R (if b=true then R else aq R [44]):=by
  split
  ·exact .refl hR hT
  ·exact bN hR hT
 have h2:=yF h1.1 h1.2.1
 have h3:fO R (qr b R).2:=h1.trans h2.1
 have h4:fO R (dJ seen b R):=by
  unfold dJ
  split
  ·exact h3.trans (bY (by decide))
  ·exact h3
 have h5:fO R (aq (dJ seen b R) [58]):=h4.trans (bN h4.1 h4.2.1)
 refine⟨h1,h3,h2.2,h4,h5,?_⟩
 generalize aq (dJ seen b R) [58]=R1 at *
 obtain⟨g1,g2,g3⟩:=hv R1 h5.1 h5.2.1 (h5.2.2.1.trans hs)
 refine⟨h5.trans g2,g1,tQ hR h0 (h5.trans g2) fun he=>?_⟩
 have:=g3 he
 have:=(h5.2.2.2 (g2.2.2.2 he).1).2
 omega
theorem y9 {val:Rd→Val×Rd}{s:List UInt8}(hv:xB val s):∀ (k:Nat) (b:Bool) (seen:List (List UInt8)) (l:List Fld) (R:Rd),OkR R→OkT R→R.s=s→(∀ x∈l,x.ok) →
  (∀ x∈(iZ val k b seen l R).1,x.ok)∧fO R (iZ val k b seen l R).2∧(iZ val k b seen l R).1.length≤l.length+k
 | 0,b,seen,l,R,h1,h2,h3,h4=>⟨h4,.refl h1 h2,Nat.le_refl _⟩
 | k+1,b,seen,l,R,h1,h2,h3,h4=>by
   by_cases h:R.e=0∧isT R [125]=false
   ·rw[mV h]
    obtain⟨_,_,g0,_,_,g2,g3,g4⟩:=fj hv b seen h1 h2 h3 h.1
    generalize val (aq (dJ seen b R) [58])=q at *
    obtain⟨k1,k2,k3⟩:=y9 hv k false (sn seen (qr b R).1) (l++[.mk (qr b R).1 q.1]) q.2 g2.1 g2.2.1 (g2.2.2.1.trans h3) (fun x hx=>by
     rcases List.mem_append.1 hx with hx | hx
     ·exact h4 x hx
     ·rw[List.mem_singleton.1 hx,Fld.ok_mk];exact⟨by omega,g3⟩)
    refine⟨k1,g2.trans k2,?_⟩
    rw[List.length_append,List.length_singleton] at k3
    omega
   ·rw[mU h]
    exact⟨h4,.refl h1 h2,by simp only;omega⟩
theorem sh (nm:List UInt8)(w1 w2 w3:Int)(w4:List UInt8)(w5 w6:List PV):oO 7 1 [.pv (.agg [.str nm,.int .i64 w1,.int .i64 w2,.int .i64 w3,.str w4,.list w5,.list w6])]=some (.pv (.list [.agg [.str nm,.int .i64 w1,.int .i64 w2,.int .i64 w3,.str w4,.list w5,.list w6]]),[]):=
 oN rfl rfl
theorem BF (x:Fld):∃ cs,x.pv = .agg cs∧cs.length=7∧∀ q∈cs,q.one=true:=by
 obtain⟨nm,⟨k,n,s,t,l,fs⟩⟩:=x
 refine⟨_,by rw[Fld.pv_mk,Val.pv_mk],rfl,fun q hq=>?_⟩
 simp only[PV.cells,List.cons_append,List.nil_append,List.mem_cons,List.not_mem_nil,or_false] at hq
 rcases hq with rfl | rfl | rfl | rfl | rfl | rfl | rfl<;>rfl
theorem xj (l:List Fld)(hl:l.length≤65540)(nm:List UInt8)(w1 w2 w3:Int)(w4:List UInt8)(w5:List Val)(w6:List Fld)(new q:Nat) :
  xl 39 7 104 new q 7 0 l.length [.agg [.str nm,.int .i64 w1,.int .i64 w2,.int .i64 w3,.str w4,.list (w5.map Val.pv),.list (w6.map Fld.pv)]] (.cells 39 false (bK (l.map Fld.pv))) =
   some (.row new 7 0 (l.length+1),[(q,.none),(new,.cells 39 false (bK ((l++[Fld.mk nm (.mk w1 w2 w3 w4 w5 w6)]).map Fld.pv)))]):=by
 rw[nJ (by rw[dp];exact Nat.le_refl _) (by simp;omega) (by simp;omega),List.take_of_length_le (by rw[dp];exact Nat.le_refl _)]
 have e:bK ((l++[Fld.mk nm (.mk w1 w2 w3 w4 w5 w6)]).map Fld.pv)=bK (l.map Fld.pv)++bK [.agg [.str nm,.int .i64 w1,.int .i64 w2,.int .i64 w3,.str w4,.list (w5.map Val.pv),.list (w6.map Fld.pv)]]:=by
  simp only[bK,List.map_append,List.flatMap_append,List.map_cons,List.map_nil]
  rw[Fld.pv_mk,Val.pv_mk];rfl
 rw[e];rfl
section
variable {T:Nat}{p:PV}
theorem Nr (val:Rd→Val×Rd)(s:List UInt8)(d:Nat)(hd:d≤10)(hv:xB val s)(hc:Qm T p val s (d+1))(R:Rd)(hR:OkR R)(hT:OkT R)(hs:R.s=s)(hsl:s.length≤65536) :
  aF Tryz.prog (bG T p) 1 99 [.ptr 0 0,.pv (.int .i64 (d:Int))] [rdB R] (.pv (Val.mk 9 0 0 [] [] (srt (iZ val (s.length+2) true [] [] R).1)).pv) [rdB (aq (iZ val (s.length+2) true [] [] R).2 [125])]:=by
 obtain⟨Z,hZ⟩:∃ Z,Z=iZ val (s.length+2) true [] [] R:=⟨_,rfl⟩
 rw[← hZ]
 refine aF.intro Pb (by simp[F99]) ?_
 simp(disch:=try exact dI) only[F99,push_cast,seval]
 refine bf ([(5,6,1000039,7)]) (fun y:Bool×List (List UInt8)×List Fld×Rd=>[(7,.pv (.bool y.1))]) (fun y=>[(0,rdB y.2.2.2),(2,.cells 25 true [.pv (.int .i64 9),.pv (.int .i64 0),.pv (.int .i64 0),.pv (.str []),.pv .nils,.row 4 7 0 y.2.2.1.length]),(3,.mp (mpS y.2.1)),(4,.cells 39 false (bK (y.2.2.1.map Fld.pv)))]) (fun y=>OkR y.2.2.2∧OkT y.2.2.2∧y.2.2.2.s=s∧y.2.2.1.length+msr y.2.2.2≤s.length+1∧∃ k,msr y.2.2.2<k∧Z=iZ val k y.1 y.2.1 y.2.2.1 y.2.2.2) (fun y=>msr y.2.2.2) ((true,[],[],R)) ?_;intro e0 σ0 n0 h0;simp(disch:=try exact dI) only[push_cast,seval] at h0;obtain⟨rfl,rfl,rfl⟩:=h0;refine⟨?_,?_,?_⟩
 ·simp(disch:=try exact dI) only[rdB,rdC,mpS,bK,List.flatMap_nil,push_cast,seval]
 ·refine⟨hR,hT,hs,?_,s.length+2,?_,hZ⟩
  ·simp only[List.length_nil,msr,hs];split<;>omega
  ·simp only[msr,hs];split<;>omega
 rintro⟨b,seen,l,L⟩ ⟨h1,h2,h3,h4,k,hk,hZk⟩
 simp only at h1 h2 h3 h4 hk hZk
 obtain⟨k,rfl⟩:∃ j,k=j+1:=⟨k - 1,by omega⟩
 have hex:=bO (T:=T) (p:=p) L [125] h1
 have hl:l.length≤65540:=by omega
 have hsort:=Ia (G:=bG T p) l (by omega)
 have hsl2:=iw l
 have fin:¬ (L.e=0∧isT L [125]=false)→Z=(l,L):=fun h=>hZk.trans (mU h)
 have hfz:=fun (n r:Nat) (hn:n=(srt l).length)=>FQ (sz:=7) (f:=Fld.pv) BF (by omega) (srt l) (n:=n) (r:=r) (T:=39) (b:=false) hn
 by_cases h0:L.e=0
 ·have h0I:(L.e=0)=True:=eq_true h0
  have his:=Fy (T:=T) (p:=p) L [125]
  cases hi:isT L [125] with
  | true=>
    rw[hi] at his
    have hZf:=fin (fun q=>by rw[hi] at q;cases q.2)
    subst hZf
    simp only[rdB,rdC] at his hex
    simp(disch:=try exact dI) only[rdB,rdC,h0I,push_cast,seval]
    refine ab.lentK his [0] rfl qsZ qsZ ?_
    refine zgZ ?_
    refine ab.lentK hex [0] rfl qsZ qsZ ?_
    refine zgZ ?_
    refine ab.lentK hsort [4] rfl qsZ qsZ ?_
    simp(disch:=try exact dI) only[hfz,push_cast,seval]
    exact am [] (by simp(disch:=try exact dI) only[rdB,rdC,Val.pv_mk,push_cast,seval])
  | false=>
    rw[hi] at his
    rw[mV ⟨h0,hi⟩] at hZk
    cases b with
    | true=>
      obtain⟨g1,gn,gnl,gd,g5,g2,g3,g4⟩:=fj hv true seen h1 h2 h3 h0
      rw[if_pos rfl] at g1
      have hcall:=hc (aq (dJ seen true L) [58]) g5.1 g5.2.1 (g5.2.2.1.trans h3)
      have hnm:=AN (T:=T) (p:=p) L g1.1
      have e0:qr true L=bg L:=rfl
      rw[e0] at gn gnl hZk
      have hrd:dJ seen true L=(if (bg L).2.e=0∧(bg L).1∈seen then aI (bg L).2 L.now.pos 7 else (bg L).2):=rfl
      generalize hQ:bg L=Q at *
      obtain⟨nm,L2⟩:=Q
      simp only at hnm gn gnl hZk hrd hcall
      by_cases h20:L2.e=0
      ·have h20I:(L2.e=0)=True:=eq_true h20
       by_cases hmem:nm∈seen
       ·have hrd':dJ seen true L=aI L2 L.now.pos 7:=hrd.trans (if_pos ⟨h20,hmem⟩)
        have hmI:decide (nm∈seen)=true:=decide_eq_true hmem
        have hf:=cR (T:=T) (p:=p) L2 L.now.pos 7
        have h58:=bO (T:=T) (p:=p) (dJ seen true L) [58] gd.1
        rw[hrd'] at h58 hcall hZk g2 g3 g4
        generalize aI L2 L.now.pos 7=L3 at *
        generalize aq L3 [58]=L4 at *
        generalize val L4=q at *
        obtain⟨v,L5⟩:=q
        simp only at hcall hZk g2 g3 g4
        obtain⟨w1,w2,w3,w4,w5,w6⟩:=v
        have hbs:=sh nm w1 w2 w3 w4 (w5.map Val.pv) (w6.map Fld.pv)
        have hap:=xj l hl nm w1 w2 w3 w4 w5 w6
        simp only[rdB,rdC,Val.pv_mk] at his hcall hnm h58 hf
        simp(disch:=try exact dI) only[rdB,rdC,h0I,push_cast,seval]
        refine ab.lentK his [0] rfl qsZ qsZ ?_
        refine zgZ ?_
        refine ab.lentK hnm [0] rfl qsZ qsZ ?_
        simp(disch:=try exact dI) only[h20I,hmI,push_cast,seval]
        refine ab.lentK hf [0] rfl qsZ qsZ ?_
        refine zgZ ?_
        refine ab.lentK h58 [0] rfl qsZ qsZ ?_
        refine zgZ ?_
        refine aT hcall [0] rfl qsZ qsZ ?_
        simp(disch:=try exact dI) only[hbs,hap,push_cast,seval]
        exact⟨(false,sn seen nm,l++[.mk nm (.mk w1 w2 w3 w4 w5 w6)],L5),bz (by simp(disch:=try exact dI) only[rdB,rdC,List.length_append,push_cast,seval]),⟨g2.1,g2.2.1,g2.2.2.1.trans h3,by simp only[List.length_append,List.length_singleton];omega,k,by simp only;omega,hZk⟩,by simp only;omega⟩
       ·have hrd':dJ seen true L=L2:=hrd.trans (if_neg (fun q=>hmem q.2))
        have hmI:decide (nm∈seen)=false:=decide_eq_false hmem
        have h58:=bO (T:=T) (p:=p) (dJ seen true L) [58] gd.1
        rw[hrd'] at h58 hcall hZk g2 g3 g4
        generalize aq L2 [58]=L4 at *
        generalize val L4=q at *
        obtain⟨v,L5⟩:=q
        simp only at hcall hZk g2 g3 g4
        obtain⟨w1,w2,w3,w4,w5,w6⟩:=v
        have hbs:=sh nm w1 w2 w3 w4 (w5.map Val.pv) (w6.map Fld.pv)
        have hap:=xj l hl nm w1 w2 w3 w4 w5 w6
        simp only[rdB,rdC,Val.pv_mk] at his hcall hnm h58
        simp(disch:=try exact dI) only[rdB,rdC,h0I,push_cast,seval]
        refine ab.lentK his [0] rfl qsZ qsZ ?_
        refine zgZ ?_
        refine ab.lentK hnm [0] rfl qsZ qsZ ?_
        simp(disch:=try exact dI) only[h20I,hmI,push_cast,seval]
        refine ab.lentK h58 [0] rfl qsZ qsZ ?_
        refine zgZ ?_
        refine aT hcall [0] rfl qsZ qsZ ?_
        simp(disch:=try exact dI) only[hbs,hap,push_cast,seval]
        exact⟨(false,sn seen nm,l++[.mk nm (.mk w1 w2 w3 w4 w5 w6)],L5),bz (by simp(disch:=try exact dI) only[rdB,rdC,List.length_append,push_cast,seval]),⟨g2.1,g2.2.1,g2.2.2.1.trans h3,by simp only[List.length_append,List.length_singleton];omega,k,by simp only;omega,hZk⟩,by simp only;omega⟩
      ·have hrd':dJ seen true L=L2:=hrd.trans (if_neg (fun q=>h20 q.1))
       have hmI:(L2.e=0)=False:=eq_false h20
       have h58:=bO (T:=T) (p:=p) (dJ seen true L) [58] gd.1
       rw[hrd'] at h58 hcall hZk g2 g3 g4
       generalize aq L2 [58]=L4 at *
       generalize val L4=q at *
       obtain⟨v,L5⟩:=q
       simp only at hcall hZk g2 g3 g4
       obtain⟨w1,w2,w3,w4,w5,w6⟩:=v
       have hbs:=sh nm w1 w2 w3 w4 (w5.map Val.pv) (w6.map Fld.pv)
       have hap:=xj l hl nm w1 w2 w3 w4 w5 w6
       simp only[rdB,rdC,Val.pv_mk] at his hcall hnm h58
       simp(disch:=try exact dI) only[rdB,rdC,h0I,push_cast,seval]
       refine ab.lentK his [0] rfl qsZ qsZ ?_
       refine zgZ ?_
       refine ab.lentK hnm [0] rfl qsZ qsZ ?_
       simp(disch:=try exact dI) only[hmI,push_cast,seval]
       refine ab.lentK h58 [0] rfl qsZ qsZ ?_
       refine zgZ ?_
       refine aT hcall [0] rfl qsZ qsZ ?_
       simp(disch:=try exact dI) only[hbs,hap,push_cast,seval]
       exact⟨(false,sn seen nm,l++[.mk nm (.mk w1 w2 w3 w4 w5 w6)],L5),bz (by simp(disch:=try exact dI) only[rdB,rdC,List.length_append,push_cast,seval]),⟨g2.1,g2.2.1,g2.2.2.1.trans h3,by simp only[List.length_append,List.length_singleton];omega,k,by simp only;omega,hZk⟩,by simp only;omega⟩
    | false=>
      obtain⟨g1,gn,gnl,gd,g5,g2,g3,g4⟩:=fj hv false seen h1 h2 h3 h0
      rw[if_neg (by decide)] at g1
      have hcall:=hc (aq (dJ seen false L) [58]) g5.1 g5.2.1 (g5.2.2.1.trans h3)
      have hco:=bO (T:=T) (p:=p) L [44] h1
      obtain⟨L1,hL1⟩:∃ L1,L1=aq L [44]:=⟨_,rfl⟩
      rw[← hL1] at g1 hco
      have hnm:=AN (T:=T) (p:=p) L1 g1.1
      have e0:qr false L=bg L1:=by rw[hL1];rfl
      rw[e0] at gn gnl hZk
      have hrd:dJ seen false L=(if (bg L1).2.e=0∧(bg L1).1∈seen then aI (bg L1).2 L1.now.pos 7 else (bg L1).2):=by rw[hL1];rfl
      generalize hQ:bg L1=Q at *
      obtain⟨nm,L2⟩:=Q
      simp only at hnm gn gnl hZk hrd hcall
      by_cases h20:L2.e=0
      ·have h20I:(L2.e=0)=True:=eq_true h20
       by_cases hmem:nm∈seen
       ·have hrd':dJ seen false L=aI L2 L1.now.pos 7:=hrd.trans (if_pos ⟨h20,hmem⟩)
        have hmI:decide (nm∈seen)=true:=decide_eq_true hmem
        have hf:=cR (T:=T) (p:=p) L2 L1.now.pos 7
        have h58:=bO (T:=T) (p:=p) (dJ seen false L) [58] gd.1
        rw[hrd'] at h58 hcall hZk g2 g3 g4
        generalize aI L2 L1.now.pos 7=L3 at *
        generalize aq L3 [58]=L4 at *
        generalize val L4=q at *
        obtain⟨v,L5⟩:=q
        simp only at hcall hZk g2 g3 g4
        obtain⟨w1,w2,w3,w4,w5,w6⟩:=v
        have hbs:=sh nm w1 w2 w3 w4 (w5.map Val.pv) (w6.map Fld.pv)
        have hap:=xj l hl nm w1 w2 w3 w4 w5 w6
        simp only[rdB,rdC,Val.pv_mk] at his hcall hnm h58 hf hco
        simp(disch:=try exact dI) only[rdB,rdC,h0I,push_cast,seval]
        refine ab.lentK his [0] rfl qsZ qsZ ?_
        refine zgZ ?_
        refine ab.lentK hco [0] rfl qsZ qsZ ?_
        refine zgZ ?_
        refine ab.lentK hnm [0] rfl qsZ qsZ ?_
        simp(disch:=try exact dI) only[h20I,hmI,push_cast,seval]
        refine ab.lentK hf [0] rfl qsZ qsZ ?_
        refine zgZ ?_
        refine ab.lentK h58 [0] rfl qsZ qsZ ?_
        refine zgZ ?_
        refine aT hcall [0] rfl qsZ qsZ ?_
        simp(disch:=try exact dI) only[hbs,hap,push_cast,seval]
        exact⟨(false,sn seen nm,l++[.mk nm (.mk w1 w2 w3 w4 w5 w6)],L5),bz (by simp(disch:=try exact dI) only[rdB,rdC,List.length_append,push_cast,seval]),⟨g2.1,g2.2.1,g2.2.2.1.trans h3,by simp only[List.length_append,List.length_singleton];omega,k,by simp only;omega,hZk⟩,by simp only;omega⟩
       ·have hrd':dJ seen false L=L2:=hrd.trans (if_neg (fun q=>hmem q.2))
        have hmI:decide (nm∈seen)=false:=decide_eq_false hmem
        have h58:=bO (T:=T) (p:=p) (dJ seen false L) [58] gd.1
        rw[hrd'] at h58 hcall hZk g2 g3 g4
        generalize aq L2 [58]=L4 at *
        generalize val L4=q at *
        obtain⟨v,L5⟩:=q
        simp only at hcall hZk g2 g3 g4
        obtain⟨w1,w2,w3,w4,w5,w6⟩:=v
        have hbs:=sh nm w1 w2 w3 w4 (w5.map Val.pv) (w6.map Fld.pv)
        have hap:=xj l hl nm w1 w2 w3 w4 w5 w6
        simp only[rdB,rdC,Val.pv_mk] at his hcall hnm h58 hco
        simp(disch:=try exact dI) only[rdB,rdC,h0I,push_cast,seval]
        refine ab.lentK his [0] rfl qsZ qsZ ?_
        refine zgZ ?_
        refine ab.lentK hco [0] rfl qsZ qsZ ?_
        refine zgZ ?_
        refine ab.lentK hnm [0] rfl qsZ qsZ ?_
        simp(disch:=try exact dI) only[h20I,hmI,push_cast,seval]
        refine ab.lentK h58 [0] rfl qsZ qsZ ?_
        refine zgZ ?_
        refine aT hcall [0] rfl qsZ qsZ ?_
        simp(disch:=try exact dI) only[hbs,hap,push_cast,seval]
        exact⟨(false,sn seen nm,l++[.mk nm (.mk w1 w2 w3 w4 w5 w6)],L5),bz (by simp(disch:=try exact dI) only[rdB,rdC,List.length_append,push_cast,seval]),⟨g2.1,g2.2.1,g2.2.2.1.trans h3,by simp only[List.length_append,List.length_singleton];omega,k,by simp only;omega,hZk⟩,by simp only;omega⟩
      ·have hrd':dJ seen false L=L2:=hrd.trans (if_neg (fun q=>h20 q.1))
       have hmI:(L2.e=0)=False:=eq_false h20
       have h58:=bO (T:=T) (p:=p) (dJ seen false L) [58] gd.1
       rw[hrd'] at h58 hcall hZk g2 g3 g4
       generalize aq L2 [58]=L4 at *
       generalize val L4=q at *
       obtain⟨v,L5⟩:=q
       simp only at hcall hZk g2 g3 g4
       obtain⟨w1,w2,w3,w4,w5,w6⟩:=v
       have hbs:=sh nm w1 w2 w3 w4 (w5.map Val.pv) (w6.map Fld.pv)
       have hap:=xj l hl nm w1 w2 w3 w4 w5 w6
       simp only[rdB,rdC,Val.pv_mk] at his hcall hnm h58 hco
       simp(disch:=try exact dI) only[rdB,rdC,h0I,push_cast,seval]
       refine ab.lentK his [0] rfl qsZ qsZ ?_
       refine zgZ ?_
       refine ab.lentK hco [0] rfl qsZ qsZ ?_
       refine zgZ ?_
       refine ab.lentK hnm [0] rfl qsZ qsZ ?_
       simp(disch:=try exact dI) only[hmI,push_cast,seval]
       refine ab.lentK h58 [0] rfl qsZ qsZ ?_
       refine zgZ ?_
       refine aT hcall [0] rfl qsZ qsZ ?_
       simp(disch:=try exact dI) only[hbs,hap,push_cast,seval]
       exact⟨(false,sn seen nm,l++[.mk nm (.mk w1 w2 w3 w4 w5 w6)],L5),bz (by simp(disch:=try exact dI) only[rdB,rdC,List.length_append,push_cast,seval]),⟨g2.1,g2.2.1,g2.2.2.1.trans h3,by simp only[List.length_append,List.length_singleton];omega,k,by simp only;omega,hZk⟩,by simp only;omega⟩
 ·have hZf:=fin (fun q=>h0 q.1)
  subst hZf
  simp only[rdB,rdC] at hex
  simp(disch:=try exact dI) only[rdB,rdC,h0,push_cast,seval]
  refine ab.lentK hex [0] rfl qsZ qsZ ?_
  refine zgZ ?_
  refine ab.lentK hsort [4] rfl qsZ qsZ ?_
  simp(disch:=try exact dI) only[hfz,push_cast,seval]
  exact am [] (by simp(disch:=try exact dI) only[rdB,rdC,Val.pv_mk,push_cast,seval])
end
end Go.Proofs.YtamoeblcphjbaaaGreatDoor
