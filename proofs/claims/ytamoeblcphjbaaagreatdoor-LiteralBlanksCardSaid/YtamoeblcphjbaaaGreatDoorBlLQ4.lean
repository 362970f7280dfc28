/- A part. -/
import Derived.Test.YtamoeblcphjbaaaGreatDoorBlLSr3
set_option linter.unusedVariables false
set_option linter.unusedSimpArgs false
set_option maxHeartbeats 16000000
set_option maxRecDepth 100000
open List renaming mem_singleton->Vy,length_append->Us,length_singleton->UL,map_cons->UE,map_nil->Vi
namespace Go.Proofs.YtamoeblcphjbaaaGreatDoor
open Go Go.Ab
attribute [local irreducible] vc
theorem ol {val:Rd->Val×Rd}{k:Nat}{first:Bool}{seen:List (List UInt8)}{l:List Fld}{R:Rd}(h:¬ (R.e=0/\isT R [125]=false)):jH val k first seen l R=(l,R):=by
 cases k with
 | zero=>rfl
 | succ k=>rw[jH];exact if_neg h
def pK (b:Bool)(R:Rd):List UInt8×Rd:=dm (if b=true then R else aq R [44])
def gx (seen:List (List UInt8))(b:Bool)(R:Rd):Rd:=
 if (pK b R).2.e=0/\(pK b R).1∈seen then aP (pK b R).2 (if b=true then R else aq R [44]).now.pos 7 else (pK b R).2
theorem om {val:Rd->Val×Rd}{k:Nat}{b:Bool}{seen:List (List UInt8)}{l:List Fld}{R:Rd}(h:R.e=0/\isT R [125]=false) :
  jH val (k+1) b seen l R=jH val k false (EC seen (pK b R).1) (l++[.mk (pK b R).1 (val (aq (gx seen b R) [58])).1]) (val (aq (gx seen b R) [58])).2:=by
 rw[jH];exact if_pos h
theorem fP {val:Rd->Val×Rd}{s:List UInt8}(hv:mI val s){R:Rd}(b:Bool)(seen:List (List UInt8))(hR:OkR R)(hT:OkT R)(hs:R.s=s)(h0:R.e=0) :
  bY R (if b=true then R else aq R [44])/\bY R (pK b R).2/\(pK b R).1.length<=65536/\bY R (gx seen b R)/\bY R (aq (gx seen b R) [58]) /\
   bY R (val (aq (gx seen b R) [58])).2/\(val (aq (gx seen b R) [58])).1.ok/\msr (val (aq (gx seen b R) [58])).2<msr R:=by
 have h1:bY R (if b=true then R else aq R [44]):=by
  split
  ·exact .refl hR hT
  ·exact aG hR hT
 have h2:=py h1.1 h1.2.1
 have h3:bY R (pK b R).2:=h1.trans h2.1
 have h4:bY R (gx seen b R):=by
  unfold gx
  split
  ·exact h3.trans (bj (by decide))
  ·exact h3
 have h5:bY R (aq (gx seen b R) [58]):=h4.trans (aG h4.1 h4.2.1)
 refine⟨h1,h3,h2.2,h4,h5,?_⟩
 generalize aq (gx seen b R) [58]=R1 at *
 obtain⟨g1,g2,g3⟩:=hv R1 h5.1 h5.2.1 (h5.2.2.1.trans hs)
 refine⟨h5.trans g2,g1,fo hR h0 (h5.trans g2) fun he=>?_⟩
 have:=g3 he
 have:=(h5.2.2.2 (g2.2.2.2 he).1).2
 omega
theorem Bh {val:Rd->Val×Rd}{s:List UInt8}(hv:mI val s):∀ (k:Nat) (b:Bool) (seen:List (List UInt8)) (l:List Fld) (R:Rd),OkR R->OkT R->R.s=s->(∀ x∈l,x.ok) ->
  (∀ x∈(jH val k b seen l R).1,x.ok)/\bY R (jH val k b seen l R).2/\(jH val k b seen l R).1.length<=l.length+k
 | 0,b,seen,l,R,h1,h2,h3,h4=>⟨h4,.refl h1 h2,Nat.le_refl _⟩
 | k+1,b,seen,l,R,h1,h2,h3,h4=>by
   by_cases h:R.e=0/\isT R [125]=false
   ·rw[om h]
    obtain⟨_,_,g0,_,_,g2,g3,g4⟩:=fP hv b seen h1 h2 h3 h.1
    generalize val (aq (gx seen b R) [58])=q at *
    obtain⟨k1,k2,k3⟩:=Bh hv k false (EC seen (pK b R).1) (l++[.mk (pK b R).1 q.1]) q.2 g2.1 g2.2.1 (g2.2.2.1.trans h3) (fun x hx=>by
     rcases List.mem_append.1 hx with hx | hx
     ·exact h4 x hx
     ·rw[Vy.1 hx,Ua];exact⟨by omega,g3⟩)
    refine⟨k1,g2.trans k2,?_⟩
    rw[Us,UL] at k3
    omega
   ·rw[ol h]
    exact⟨h4,.refl h1 h2,by simp only;omega⟩
theorem y9 (nm:List UInt8)(w1 w2 w3:Int)(w4:List UInt8)(w5 w6:List PV):jk 7 1 [.pv (.agg [.str nm,.int .i64 w1,.int .i64 w2,.int .i64 w3,.str w4,.list w5,.list w6])]=some (.pv (.list [.agg [.str nm,.int .i64 w1,.int .i64 w2,.int .i64 w3,.str w4,.list w5,.list w6]]),[]):=
 fS rfl rfl
theorem Ms (x:Fld):∃ cs,x.pv = .agg cs/\cs.length=7/\∀ q∈cs,q.one=true:=by
 obtain⟨nm,⟨k,n,s,t,l,fs⟩⟩:=x
 refine⟨_,by rw[Ub,Un],rfl,fun q hq=>?_⟩
 simp only[PV.cells,List.cons_append,List.nil_append,List.mem_cons,List.not_mem_nil,or_false] at hq
 rcases hq with rfl | rfl | rfl | rfl | rfl | rfl | rfl<;>rfl
theorem zc (l:List Fld)(hl:l.length<=65540)(nm:List UInt8)(w1 w2 w3:Int)(w4:List UInt8)(w5:List Val)(w6:List Fld)(new q:Nat) :
  tH 39 7 104 new q 7 0 l.length [.agg [.str nm,.int .i64 w1,.int .i64 w2,.int .i64 w3,.str w4,.list (w5.map Val.pv),.list (w6.map Fld.pv)]] (.cells 39 false (bD (l.map Fld.pv))) =
   some (.row new 7 0 (l.length+1),[(q,.none),(new,.cells 39 false (bD ((l++[Fld.mk nm (.mk w1 w2 w3 w4 w5 w6)]).map Fld.pv)))]):=by
 rw[kC (by rw[dG];exact Nat.le_refl _) (by simp;omega) (by simp;omega),List.take_of_length_le (by rw[dG];exact Nat.le_refl _)]
 have e:bD ((l++[Fld.mk nm (.mk w1 w2 w3 w4 w5 w6)]).map Fld.pv)=bD (l.map Fld.pv)++bD [.agg [.str nm,.int .i64 w1,.int .i64 w2,.int .i64 w3,.str w4,.list (w5.map Val.pv),.list (w6.map Fld.pv)]]:=by
  simp only[bD,List.map_append,List.flatMap_append,UE,Vi]
  rw[Ub,Un];rfl
 rw[e];rfl
section
variable {T:Nat}{p:PV}
theorem OS (val:Rd->Val×Rd)(s:List UInt8)(d:Nat)(hd:d<=10)(hv:mI val s)(hc:Nd T p val s (d+1))(R:Rd)(hR:OkR R)(hT:OkT R)(hs:R.s=s)(hsl:s.length<=65536) :
  aI Tryz.prog (bE T p) 1 99 [.ptr 0 0,.pv (.int .i64 (d:Int))] [rdB R] (.pv (Val.mk 9 0 0 [] [] (srt (jH val (s.length+2) true [] [] R).1)).pv) [rdB (aq (jH val (s.length+2) true [] [] R).2 [125])]:=by
 obtain⟨Z,hZ⟩:∃ Z,Z=jH val (s.length+2) true [] [] R:=⟨_,rfl⟩
 rw[<- hZ]
 refine aI.intro Q99.2 (by simp[Q99]) ?_
 simp(disch:=try exact dI) only[Q99,push_cast,seval]
 refine aK ([(5,6,1000039,7)]) (fun y:Bool×List (List UInt8)×List Fld×Rd=>[(7,.pv (.bool y.1))]) (fun y=>[(0,rdB y.2.2.2),(2,.cells 25 true [.pv (.int .i64 9),.pv (.int .i64 0),.pv (.int .i64 0),.pv (.str []),.pv .nils,.row 4 7 0 y.2.2.1.length]),(3,.mp (mpS y.2.1)),(4,.cells 39 false (bD (y.2.2.1.map Fld.pv)))]) (fun y=>OkR y.2.2.2/\OkT y.2.2.2/\y.2.2.2.s=s/\y.2.2.1.length+msr y.2.2.2<=s.length+1/\∃ k,msr y.2.2.2<k/\Z=jH val k y.1 y.2.1 y.2.2.1 y.2.2.2) (fun y=>msr y.2.2.2) ((true,[],[],R)) ?_;intro e0 σ0 n0 h0;simp(disch:=try exact dI) only[push_cast,seval] at h0;obtain⟨rfl,rfl,rfl⟩:=h0;refine⟨?_,?_,?_⟩
 ·simp(disch:=try exact dI) only[rdB,rdC,mpS,bD,List.flatMap_nil,push_cast,seval]
 ·refine⟨hR,hT,hs,?_,s.length+2,?_,hZ⟩
  ·simp only[List.length_nil,msr,hs];split<;>omega
  ·simp only[msr,hs];split<;>omega
 rintro⟨b,seen,l,L⟩ ⟨h1,h2,h3,h4,k,hk,hZk⟩
 simp only at h1 h2 h3 h4 hk hZk
 obtain⟨k,rfl⟩:∃ j,k=j+1:=⟨k - 1,by omega⟩
 have hex:=aJ (T:=T) (p:=p) L [125] h1
 have hl:l.length<=65540:=by omega
 have hsort:=Ki (G:=bE T p) l (by omega)
 have hsl2:=kV l
 have fin:¬ (L.e=0/\isT L [125]=false)->Z=(l,L):=fun h=>hZk.trans (ol h)
 have hfz:=fun (n r:Nat) (hn:n=(srt l).length)=>oN (sz:=7) (f:=Fld.pv) Ms (by omega) (srt l) (n:=n) (r:=r) (T:=39) (b:=false) hn
 by_cases h0:L.e=0
 ·have h0I:(L.e=0)=True:=eq_true h0
  have his:=yc (T:=T) (p:=p) L [125]
  cases hi:isT L [125] with
  | true=>
    rw[hi] at his
    have hZf:=fin (fun q=>by rw[hi] at q;cases q.2)
    subst hZf
    simp only[rdB,rdC] at his hex
    simp(disch:=try exact dI) only[rdB,rdC,h0I,push_cast,seval]
    refine ae.lentK his [0] rfl qsZ qsZ ?_
    refine zgZ ?_
    refine ae.lentK hex [0] rfl qsZ qsZ ?_
    refine zgZ ?_
    refine ae.lentK hsort [4] rfl qsZ qsZ ?_
    simp(disch:=try exact dI) only[hfz,push_cast,seval]
    exact am [] (by simp(disch:=try exact dI) only[rdB,rdC,Un,push_cast,seval])
  | false=>
    rw[hi] at his
    rw[om ⟨h0,hi⟩] at hZk
    cases b with
    | true=>
      obtain⟨g1,gn,gnl,gd,g5,g2,g3,g4⟩:=fP hv true seen h1 h2 h3 h0
      rw[if_pos rfl] at g1
      have hcall:=hc (aq (gx seen true L) [58]) g5.1 g5.2.1 (g5.2.2.1.trans h3)
      have hnm:=sN (T:=T) (p:=p) L g1.1
      have e0:pK true L=dm L:=rfl
      rw[e0] at gn gnl hZk
      have hrd:gx seen true L=(if (dm L).2.e=0/\(dm L).1∈seen then aP (dm L).2 L.now.pos 7 else (dm L).2):=rfl
      generalize hQ:dm L=Q at *
      obtain⟨nm,L2⟩:=Q
      simp only at hnm gn gnl hZk hrd hcall
      by_cases h20:L2.e=0
      ·have h20I:(L2.e=0)=True:=eq_true h20
       by_cases hmem:nm∈seen
       ·have hrd':gx seen true L=aP L2 L.now.pos 7:=hrd.trans (if_pos ⟨h20,hmem⟩)
        have hmI:decide (nm∈seen)=true:=decide_eq_true hmem
        have hf:=bV (T:=T) (p:=p) L2 L.now.pos 7
        have h58:=aJ (T:=T) (p:=p) (gx seen true L) [58] gd.1
        rw[hrd'] at h58 hcall hZk g2 g3 g4
        generalize aP L2 L.now.pos 7=L3 at *
        generalize aq L3 [58]=L4 at *
        generalize val L4=q at *
        obtain⟨v,L5⟩:=q
        simp only at hcall hZk g2 g3 g4
        obtain⟨w1,w2,w3,w4,w5,w6⟩:=v
        have hbs:=y9 nm w1 w2 w3 w4 (w5.map Val.pv) (w6.map Fld.pv)
        have hap:=zc l hl nm w1 w2 w3 w4 w5 w6
        simp only[rdB,rdC,Un] at his hcall hnm h58 hf
        simp(disch:=try exact dI) only[rdB,rdC,h0I,push_cast,seval]
        refine ae.lentK his [0] rfl qsZ qsZ ?_
        refine zgZ ?_
        refine ae.lentK hnm [0] rfl qsZ qsZ ?_
        simp(disch:=try exact dI) only[h20I,hmI,push_cast,seval]
        refine ae.lentK hf [0] rfl qsZ qsZ ?_
        refine zgZ ?_
        refine ae.lentK h58 [0] rfl qsZ qsZ ?_
        refine zgZ ?_
        refine aX hcall [0] rfl qsZ qsZ ?_
        simp(disch:=try exact dI) only[hbs,hap,push_cast,seval]
        exact⟨(false,EC seen nm,l++[.mk nm (.mk w1 w2 w3 w4 w5 w6)],L5),bu (by simp(disch:=try exact dI) only[rdB,rdC,Us,push_cast,seval]),⟨g2.1,g2.2.1,g2.2.2.1.trans h3,by simp only[Us,UL];omega,k,by simp only;omega,hZk⟩,by simp only;omega⟩
       ·have hrd':gx seen true L=L2:=hrd.trans (if_neg (fun q=>hmem q.2))
        have hmI:decide (nm∈seen)=false:=decide_eq_false hmem
        have h58:=aJ (T:=T) (p:=p) (gx seen true L) [58] gd.1
        rw[hrd'] at h58 hcall hZk g2 g3 g4
        generalize aq L2 [58]=L4 at *
        generalize val L4=q at *
        obtain⟨v,L5⟩:=q
        simp only at hcall hZk g2 g3 g4
        obtain⟨w1,w2,w3,w4,w5,w6⟩:=v
        have hbs:=y9 nm w1 w2 w3 w4 (w5.map Val.pv) (w6.map Fld.pv)
        have hap:=zc l hl nm w1 w2 w3 w4 w5 w6
        simp only[rdB,rdC,Un] at his hcall hnm h58
        simp(disch:=try exact dI) only[rdB,rdC,h0I,push_cast,seval]
        refine ae.lentK his [0] rfl qsZ qsZ ?_
        refine zgZ ?_
        refine ae.lentK hnm [0] rfl qsZ qsZ ?_
        simp(disch:=try exact dI) only[h20I,hmI,push_cast,seval]
        refine ae.lentK h58 [0] rfl qsZ qsZ ?_
        refine zgZ ?_
        refine aX hcall [0] rfl qsZ qsZ ?_
        simp(disch:=try exact dI) only[hbs,hap,push_cast,seval]
        exact⟨(false,EC seen nm,l++[.mk nm (.mk w1 w2 w3 w4 w5 w6)],L5),bu (by simp(disch:=try exact dI) only[rdB,rdC,Us,push_cast,seval]),⟨g2.1,g2.2.1,g2.2.2.1.trans h3,by simp only[Us,UL];omega,k,by simp only;omega,hZk⟩,by simp only;omega⟩
      ·have hrd':gx seen true L=L2:=hrd.trans (if_neg (fun q=>h20 q.1))
       have hmI:(L2.e=0)=False:=eq_false h20
       have h58:=aJ (T:=T) (p:=p) (gx seen true L) [58] gd.1
       rw[hrd'] at h58 hcall hZk g2 g3 g4
       generalize aq L2 [58]=L4 at *
       generalize val L4=q at *
       obtain⟨v,L5⟩:=q
       simp only at hcall hZk g2 g3 g4
       obtain⟨w1,w2,w3,w4,w5,w6⟩:=v
       have hbs:=y9 nm w1 w2 w3 w4 (w5.map Val.pv) (w6.map Fld.pv)
       have hap:=zc l hl nm w1 w2 w3 w4 w5 w6
       simp only[rdB,rdC,Un] at his hcall hnm h58
       simp(disch:=try exact dI) only[rdB,rdC,h0I,push_cast,seval]
       refine ae.lentK his [0] rfl qsZ qsZ ?_
       refine zgZ ?_
       refine ae.lentK hnm [0] rfl qsZ qsZ ?_
       simp(disch:=try exact dI) only[hmI,push_cast,seval]
       refine ae.lentK h58 [0] rfl qsZ qsZ ?_
       refine zgZ ?_
       refine aX hcall [0] rfl qsZ qsZ ?_
       simp(disch:=try exact dI) only[hbs,hap,push_cast,seval]
       exact⟨(false,EC seen nm,l++[.mk nm (.mk w1 w2 w3 w4 w5 w6)],L5),bu (by simp(disch:=try exact dI) only[rdB,rdC,Us,push_cast,seval]),⟨g2.1,g2.2.1,g2.2.2.1.trans h3,by simp only[Us,UL];omega,k,by simp only;omega,hZk⟩,by simp only;omega⟩
    | false=>
      obtain⟨g1,gn,gnl,gd,g5,g2,g3,g4⟩:=fP hv false seen h1 h2 h3 h0
      rw[if_neg (by decide)] at g1
      have hcall:=hc (aq (gx seen false L) [58]) g5.1 g5.2.1 (g5.2.2.1.trans h3)
      have hco:=aJ (T:=T) (p:=p) L [44] h1
      obtain⟨L1,hL1⟩:∃ L1,L1=aq L [44]:=⟨_,rfl⟩
      rw[<- hL1] at g1 hco
      have hnm:=sN (T:=T) (p:=p) L1 g1.1
      have e0:pK false L=dm L1:=by rw[hL1];rfl
      rw[e0] at gn gnl hZk
      have hrd:gx seen false L=(if (dm L1).2.e=0/\(dm L1).1∈seen then aP (dm L1).2 L1.now.pos 7 else (dm L1).2):=by rw[hL1];rfl
      generalize hQ:dm L1=Q at *
      obtain⟨nm,L2⟩:=Q
      simp only at hnm gn gnl hZk hrd hcall
      by_cases h20:L2.e=0
      ·have h20I:(L2.e=0)=True:=eq_true h20
       by_cases hmem:nm∈seen
       ·have hrd':gx seen false L=aP L2 L1.now.pos 7:=hrd.trans (if_pos ⟨h20,hmem⟩)
        have hmI:decide (nm∈seen)=true:=decide_eq_true hmem
        have hf:=bV (T:=T) (p:=p) L2 L1.now.pos 7
        have h58:=aJ (T:=T) (p:=p) (gx seen false L) [58] gd.1
        rw[hrd'] at h58 hcall hZk g2 g3 g4
        generalize aP L2 L1.now.pos 7=L3 at *
        generalize aq L3 [58]=L4 at *
        generalize val L4=q at *
        obtain⟨v,L5⟩:=q
        simp only at hcall hZk g2 g3 g4
        obtain⟨w1,w2,w3,w4,w5,w6⟩:=v
        have hbs:=y9 nm w1 w2 w3 w4 (w5.map Val.pv) (w6.map Fld.pv)
        have hap:=zc l hl nm w1 w2 w3 w4 w5 w6
        simp only[rdB,rdC,Un] at his hcall hnm h58 hf hco
        simp(disch:=try exact dI) only[rdB,rdC,h0I,push_cast,seval]
        refine ae.lentK his [0] rfl qsZ qsZ ?_
        refine zgZ ?_
        refine ae.lentK hco [0] rfl qsZ qsZ ?_
        refine zgZ ?_
        refine ae.lentK hnm [0] rfl qsZ qsZ ?_
        simp(disch:=try exact dI) only[h20I,hmI,push_cast,seval]
        refine ae.lentK hf [0] rfl qsZ qsZ ?_
        refine zgZ ?_
        refine ae.lentK h58 [0] rfl qsZ qsZ ?_
        refine zgZ ?_
        refine aX hcall [0] rfl qsZ qsZ ?_
        simp(disch:=try exact dI) only[hbs,hap,push_cast,seval]
        exact⟨(false,EC seen nm,l++[.mk nm (.mk w1 w2 w3 w4 w5 w6)],L5),bu (by simp(disch:=try exact dI) only[rdB,rdC,Us,push_cast,seval]),⟨g2.1,g2.2.1,g2.2.2.1.trans h3,by simp only[Us,UL];omega,k,by simp only;omega,hZk⟩,by simp only;omega⟩
       ·have hrd':gx seen false L=L2:=hrd.trans (if_neg (fun q=>hmem q.2))
        have hmI:decide (nm∈seen)=false:=decide_eq_false hmem
        have h58:=aJ (T:=T) (p:=p) (gx seen false L) [58] gd.1
        rw[hrd'] at h58 hcall hZk g2 g3 g4
        generalize aq L2 [58]=L4 at *
        generalize val L4=q at *
        obtain⟨v,L5⟩:=q
        simp only at hcall hZk g2 g3 g4
        obtain⟨w1,w2,w3,w4,w5,w6⟩:=v
        have hbs:=y9 nm w1 w2 w3 w4 (w5.map Val.pv) (w6.map Fld.pv)
        have hap:=zc l hl nm w1 w2 w3 w4 w5 w6
        simp only[rdB,rdC,Un] at his hcall hnm h58 hco
        simp(disch:=try exact dI) only[rdB,rdC,h0I,push_cast,seval]
        refine ae.lentK his [0] rfl qsZ qsZ ?_
        refine zgZ ?_
        refine ae.lentK hco [0] rfl qsZ qsZ ?_
        refine zgZ ?_
        refine ae.lentK hnm [0] rfl qsZ qsZ ?_
        simp(disch:=try exact dI) only[h20I,hmI,push_cast,seval]
        refine ae.lentK h58 [0] rfl qsZ qsZ ?_
        refine zgZ ?_
        refine aX hcall [0] rfl qsZ qsZ ?_
        simp(disch:=try exact dI) only[hbs,hap,push_cast,seval]
        exact⟨(false,EC seen nm,l++[.mk nm (.mk w1 w2 w3 w4 w5 w6)],L5),bu (by simp(disch:=try exact dI) only[rdB,rdC,Us,push_cast,seval]),⟨g2.1,g2.2.1,g2.2.2.1.trans h3,by simp only[Us,UL];omega,k,by simp only;omega,hZk⟩,by simp only;omega⟩
      ·have hrd':gx seen false L=L2:=hrd.trans (if_neg (fun q=>h20 q.1))
       have hmI:(L2.e=0)=False:=eq_false h20
       have h58:=aJ (T:=T) (p:=p) (gx seen false L) [58] gd.1
       rw[hrd'] at h58 hcall hZk g2 g3 g4
       generalize aq L2 [58]=L4 at *
       generalize val L4=q at *
       obtain⟨v,L5⟩:=q
       simp only at hcall hZk g2 g3 g4
       obtain⟨w1,w2,w3,w4,w5,w6⟩:=v
       have hbs:=y9 nm w1 w2 w3 w4 (w5.map Val.pv) (w6.map Fld.pv)
       have hap:=zc l hl nm w1 w2 w3 w4 w5 w6
       simp only[rdB,rdC,Un] at his hcall hnm h58 hco
       simp(disch:=try exact dI) only[rdB,rdC,h0I,push_cast,seval]
       refine ae.lentK his [0] rfl qsZ qsZ ?_
       refine zgZ ?_
       refine ae.lentK hco [0] rfl qsZ qsZ ?_
       refine zgZ ?_
       refine ae.lentK hnm [0] rfl qsZ qsZ ?_
       simp(disch:=try exact dI) only[hmI,push_cast,seval]
       refine ae.lentK h58 [0] rfl qsZ qsZ ?_
       refine zgZ ?_
       refine aX hcall [0] rfl qsZ qsZ ?_
       simp(disch:=try exact dI) only[hbs,hap,push_cast,seval]
       exact⟨(false,EC seen nm,l++[.mk nm (.mk w1 w2 w3 w4 w5 w6)],L5),bu (by simp(disch:=try exact dI) only[rdB,rdC,Us,push_cast,seval]),⟨g2.1,g2.2.1,g2.2.2.1.trans h3,by simp only[Us,UL];omega,k,by simp only;omega,hZk⟩,by simp only;omega⟩
 ·have hZf:=fin (fun q=>h0 q.1)
  subst hZf
  simp only[rdB,rdC] at hex
  simp(disch:=try exact dI) only[rdB,rdC,h0,push_cast,seval]
  refine ae.lentK hex [0] rfl qsZ qsZ ?_
  refine zgZ ?_
  refine ae.lentK hsort [4] rfl qsZ qsZ ?_
  simp(disch:=try exact dI) only[hfz,push_cast,seval]
  exact am [] (by simp(disch:=try exact dI) only[rdB,rdC,Un,push_cast,seval])
end
theorem BP (s:List UInt8):-1000000000000000000<=(bz s).1/\(bz s).1<=1000000000000000000:=by
 unfold bz
 split
 ·rename_i y m d hn
  rcases Jz y m d with h | h
  ·have:=nM h;omega
  ·unfold nN at h ⊢
   split
   ·rename_i hh;rw[if_pos hh] at h;cases h
   ·simp
 ·simp
theorem kg (s:List UInt8):I64 (bz s).1:=by
 have:=BP s
 unfold I64;omega
theorem kf (s:List UInt8):I64 (br s).1:=by
 by_cases h:(br s).2=0
 ·obtain⟨y,m,d,hh,mi,sec,ms,h1,h2,h3,h4,h5,h6,h7⟩:=sG (s:=s) (n:=(br s).1) (by rw[<- h])
  have:=fZ h1
  unfold I64;omega
 ·have:(br s).1=0:=by
   unfold br at h ⊢
   split
   ·rename_i y m d hh mi sec r hn
    rw[hn] at h
    simp only at h
    split
    ·rename_i ms hms
     rw[hms] at h
     simp only at h
     unfold Av at h ⊢
     split
     ·rfl
     ·rename_i hc
      rw[if_neg hc] at h
      exact absurd rfl h
    ·rfl
   ·rfl
  rw[this];exact bw
theorem eZ {k n s:Int}{t:List UInt8}(hk:I64 k)(hn:I64 n)(hs:I64 s)(ht:t.length<=300000):(Val.mk k n s t [] []).ok:=by
 rw[Um]
 exact⟨hk,hn,hs,by omega,by simp,(fun x hx=>by cases hx),by simp,fun x hx=>by cases hx⟩
theorem dQ {n:Int}(h:0<=n)(h2:n<=1000):I64 n:=by unfold I64;omega
theorem dq:bh.ok:=eZ bw bw bw (by simp)
theorem Ph {val:Rd->Val×Rd}{s:List UInt8}(hv:mI val s){R:Rd}{t:Tk}{d:Nat}(hR:OkR R)(hT:OkT R)(hs:R.s=s)(ht:t.text.length<=65536) :
  (cf val R t d).1.ok/\bY R (cf val R t d).2:=by
 unfold cf
 split
 ·split
  ·split
   ·exact⟨dq,bj (by decide)⟩
   ·have h1:=(aQ hR hT).1
    obtain⟨g1,g2,g3⟩:=hv (aT R) h1.1 h1.2.1 (h1.2.2.1.trans hs)
    refine⟨?_,h1.trans (g2.trans (aG g2.1 g2.2.1))⟩
    rw[Um]
    refine⟨dQ (by omega) (by omega),bw,bw,by omega,by simp,fun x hx=>?_,by simp,fun x hx=>by cases hx⟩
    rw[Vy.1 hx];exact g1
  split
  ·exact⟨eZ (dQ (by omega) (by omega)) (dQ (by omega) (by omega)) bw (by simp),.refl hR hT⟩
  split
  ·exact⟨eZ (dQ (by omega) (by omega)) bw bw (by simp),.refl hR hT⟩
  split
  ·have h1:=bU bz kg hR hT
   exact⟨eZ (dQ (by omega) (by omega)) h1.2 bw (by simp),h1.1⟩
  split
  ·have h1:=bU br kf hR hT
   exact⟨eZ (dQ (by omega) (by omega)) h1.2 bw (by simp),h1.1⟩
  split
  ·exact⟨dq,.refl hR hT⟩
  ·exact⟨dq,bj (by decide)⟩
 ·exact⟨dq,.refl hR hT⟩
section
variable {T:Nat}{p:PV}
theorem LD {val:Rd->Val×Rd}{R:Rd}{t:Tk}{d:Nat}(h0:R.e=0)(hi:isT R [40]=true)(hn:dD t.text=true):cf val R t d=(.mk 10 0 0 t.text [(val (aT R)).1] [],aq (val (aT R)).2 [41]):=by
 unfold cf
 rw[if_pos h0,if_pos hi,if_neg (by rw[hn];decide)]
theorem Lz {val:Rd->Val×Rd}{R:Rd}{t:Tk}{d:Nat}(h0:R.e=0)(hi:isT R [40]=true)(hn:dD t.text=false):cf val R t d=(bh,aP R t.pos 12):=by
 unfold cf
 rw[if_pos h0,if_pos hi,if_pos hn]
theorem Ly {val:Rd->Val×Rd}{R:Rd}{t:Tk}{d:Nat}(h0:R.e=0)(hi:isT R [40]=false):cf val R t d =
  if t.text=[116,114,117,101] then (.mk 1 1 0 [] [] [],R)
  else if t.text=[102,97,108,115,101] then (.mk 1 0 0 [] [] [],R)
  else if t.text=[100,97,116,101] then (.mk 6 (aO R bz).1 0 [] [] [],(aO R bz).2)
  else if t.text=[116,105,109,101] then (.mk 7 (aO R br).1 0 [] [] [],(aO R br).2)
  else if t.text=[110,117,108,108]/\d=0 then (bh,R)
  else (bh,aP R t.pos 13):=by
 unfold cf
 rw[if_pos h0,if_neg (by rw[hi];decide)]
theorem Lx {val:Rd->Val×Rd}{R:Rd}{t:Tk}{d:Nat}(h0:¬ R.e=0):cf val R t d=(bh,R):=by
 unfold cf
 rw[if_neg h0]
theorem GP (val:Rd->Val×Rd)(s:List UInt8)(d:Nat)(hd:d<=10)(hv:mI val s)(hc:Nd T p val s (d+1))(R:Rd)(t:Tk)(hR:OkR R)(hT:OkT R)(hs:R.s=s)(ht:t.text.length<=65536) :
  aI Tryz.prog (bE T p) 1 100 [.ptr 0 0,.pv (tkP t),.pv (.int .i64 (d:Int))] [rdB R] (.pv (cf val R t d).1.pv) [rdB (cf val R t d).2]:=by
 by_cases h0:R.e=0
 ·have h0I:(R.e=0)=True:=eq_true h0
  have his:=yc (T:=T) (p:=p) R [40]
  have hnm:=toE (T:=T) (p:=p) (lF t.text)
  cases hi:isT R [40] with
  | true=>
    rw[hi] at his
    cases hn:dD t.text with
    | true=>
      rw[hn] at hnm
      rw[LD h0 hi hn]
      have h1:=(aQ hR hT).1
      obtain⟨g1,g2,g3⟩:=hv (aT R) h1.1 h1.2.1 (h1.2.2.1.trans hs)
      have hadv:=bx (T:=T) (p:=p) R hR
      have hcall:=hc (aT R) h1.1 h1.2.1 (h1.2.2.1.trans hs)
      generalize aT R=L1 at *
      generalize val L1=q at *
      obtain⟨v,L2⟩:=q
      simp only at g1 g2 hcall ⊢
      have hex:=aJ (T:=T) (p:=p) L2 [41] g2.1
      have hvr:=toE (T:=T) (p:=p) (wF t.text v (by omega) g1)
      obtain⟨w1,w2,w3,w4,w5,w6⟩:=v
      simp only[rdB,rdC,tkP,Un,UE,Vi] at his hadv hcall hex hvr ⊢
      refine aI.intro ib.2 (by simp[ib]) ?_
      simp(disch:=try exact dI) only[ib,h0I,push_cast,seval]
      refine ae.lentK his [0] rfl qsZ qsZ ?_
      refine zgZ ?_
      refine ae.pure hnm rfl ?_
      refine zgZ ?_
      refine ae.lentK hadv [0] rfl qsZ qsZ ?_
      refine zgZ ?_
      refine ae.lentK hcall [0] rfl qsZ qsZ ?_
      refine zgZ ?_
      refine ae.lentK hex [0] rfl qsZ qsZ ?_
      refine zgZ ?_
      refine ae.pure hvr rfl ?_
      refine zgZ ?_
      exact am [] qsZ
    | false=>
      rw[hn] at hnm
      rw[Lz h0 hi hn]
      have hf:=bV (T:=T) (p:=p) R t.pos 12
      simp only[rdB,rdC,tkP,bh,Un] at his hf ⊢
      refine aI.intro ib.2 (by simp[ib]) ?_
      simp(disch:=try exact dI) only[ib,h0I,push_cast,seval]
      refine ae.lentK his [0] rfl qsZ qsZ ?_
      refine zgZ ?_
      refine ae.pure hnm rfl ?_
      refine zgZ ?_
      refine ae.lentK hf [0] rfl qsZ qsZ ?_
      refine zgZ ?_
      exact am [] qsZ
  | false=>
    rw[hi] at his
    rw[Ly h0 hi]
    by_cases t1:t.text=[116,114,117,101]
    ·have b1:decide (t.text=[116,114,117,101])=true:=decide_eq_true t1
     rw[if_pos t1]
     have hb:=toE (T:=T) (p:=p) (Eo true)
     simp only[rdB,rdC,tkP,Un,if_true] at his hb ⊢
     refine aI.intro ib.2 (by simp[ib]) ?_
     simp(disch:=try exact dI) only[ib,h0I,push_cast,seval]
     refine ae.lentK his [0] rfl qsZ qsZ ?_
     simp(disch:=try exact dI) only[b1,push_cast,seval]
     refine ae.pure hb rfl ?_
     refine zgZ ?_
     exact am [] qsZ
    have b1:decide (t.text=[116,114,117,101])=false:=decide_eq_false t1
    rw[if_neg t1]
    by_cases t2:t.text=[102,97,108,115,101]
    ·have b2:decide (t.text=[102,97,108,115,101])=true:=decide_eq_true t2
     rw[if_pos t2]
     have hb:=toE (T:=T) (p:=p) (Eo false)
     rw[if_neg (by decide)] at hb
     simp only[rdB,rdC,tkP,Un] at his hb ⊢
     refine aI.intro ib.2 (by simp[ib]) ?_
     simp(disch:=try exact dI) only[ib,h0I,push_cast,seval]
     refine ae.lentK his [0] rfl qsZ qsZ ?_
     simp(disch:=try exact dI) only[b1,b2,push_cast,seval]
     refine ae.pure hb rfl ?_
     refine zgZ ?_
     exact am [] qsZ
    have b2:decide (t.text=[102,97,108,115,101])=false:=decide_eq_false t2
    rw[if_neg t2]
    by_cases t3:t.text=[100,97,116,101]
    ·have b3:decide (t.text=[100,97,116,101])=true:=decide_eq_true t3
     rw[if_pos t3]
     have hm:=iD (T:=T) (p:=p) R hR 128 bz BQ
     generalize aO R bz=q at *
     obtain⟨n,L⟩:=q
     have hb:=toE (T:=T) (p:=p) (MK n)
     simp only[rdB,rdC,tkP,Un] at his hb hm ⊢
     refine aI.intro ib.2 (by simp[ib]) ?_
     simp(disch:=try exact dI) only[ib,h0I,push_cast,seval]
     refine ae.lentK his [0] rfl qsZ qsZ ?_
     simp(disch:=try exact dI) only[b1,b2,b3,push_cast,seval]
     refine ae.lentK hm [0] rfl qsZ qsZ ?_
     refine zgZ ?_
     refine ae.pure hb rfl ?_
     refine zgZ ?_
     exact am [] qsZ
    have b3:decide (t.text=[100,97,116,101])=false:=decide_eq_false t3
    rw[if_neg t3]
    by_cases t4:t.text=[116,105,109,101]
    ·have b4:decide (t.text=[116,105,109,101])=true:=decide_eq_true t4
     rw[if_pos t4]
     have hm:=iD (T:=T) (p:=p) R hR 130 br lp
     generalize aO R br=q at *
     obtain⟨n,L⟩:=q
     have hb:=toE (T:=T) (p:=p) (J8 n)
     simp only[rdB,rdC,tkP,Un] at his hb hm ⊢
     refine aI.intro ib.2 (by simp[ib]) ?_
     simp(disch:=try exact dI) only[ib,h0I,push_cast,seval]
     refine ae.lentK his [0] rfl qsZ qsZ ?_
     simp(disch:=try exact dI) only[b1,b2,b3,b4,push_cast,seval]
     refine ae.lentK hm [0] rfl qsZ qsZ ?_
     refine zgZ ?_
     refine ae.pure hb rfl ?_
     refine zgZ ?_
     exact am [] qsZ
    have b4:decide (t.text=[116,105,109,101])=false:=decide_eq_false t4
    rw[if_neg t4]
    have hf:=bV (T:=T) (p:=p) R t.pos 13
    by_cases t5:t.text=[110,117,108,108]
    ·have b5:decide (t.text=[110,117,108,108])=true:=decide_eq_true t5
     by_cases hd0:d=0
     ·subst hd0
      rw[if_pos ⟨t5,rfl⟩]
      simp only[rdB,rdC,tkP,bh,Un] at his hf ⊢
      refine aI.intro ib.2 (by simp[ib]) ?_
      simp(disch:=try exact dI) only[ib,h0I,push_cast,seval]
      refine ae.lentK his [0] rfl qsZ qsZ ?_
      simp(disch:=try exact dI) only[b1,b2,b3,b4,b5,push_cast,seval]
      exact am [] qsZ
     ·have hdI:¬ (d:Int)=0:=by omega
      rw[if_neg (fun q=>hd0 q.2)]
      simp only[rdB,rdC,tkP,bh,Un] at his hf ⊢
      refine aI.intro ib.2 (by simp[ib]) ?_
      simp(disch:=try exact dI) only[ib,h0I,push_cast,seval]
      refine ae.lentK his [0] rfl qsZ qsZ ?_
      simp(disch:=try exact dI) only[b1,b2,b3,b4,b5,hdI,push_cast,seval]
      refine ae.lentK hf [0] rfl qsZ qsZ ?_
      refine zgZ ?_
      exact am [] qsZ
    ·have b5:decide (t.text=[110,117,108,108])=false:=decide_eq_false t5
     rw[if_neg (fun q=>t5 q.1)]
     simp only[rdB,rdC,tkP,bh,Un] at his hf ⊢
     refine aI.intro ib.2 (by simp[ib]) ?_
     simp(disch:=try exact dI) only[ib,h0I,push_cast,seval]
     refine ae.lentK his [0] rfl qsZ qsZ ?_
     simp(disch:=try exact dI) only[b1,b2,b3,b4,b5,push_cast,seval]
     refine ae.lentK hf [0] rfl qsZ qsZ ?_
     refine zgZ ?_
     exact am [] qsZ
 ·rw[Lx h0]
  simp only[rdB,rdC,tkP,bh,Un]
  refine aI.intro ib.2 (by simp[ib]) ?_
  simp(disch:=try exact dI) only[ib,h0,push_cast,seval]
  exact am [] qsZ
end
