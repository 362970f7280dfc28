/- A part of the proof. -/
import Derived.Test.YtamoeblcphjbaaaGreatDoorPaLSr2
set_option maxHeartbeats 16000000
set_option maxRecDepth 100000
set_option linter.unusedVariables false
set_option linter.unusedSimpArgs false
-- many steps
namespace Go.Proofs.YtamoeblcphjbaaaGreatDoor
open Go Go.Ab
attribute [local irreducible] vc
def xB (val:Rd→Val×Rd)(s:List UInt8):Prop:=
 ∀ R,OkR R→OkT R→R.s=s→(val R).1.ok∧fO R (val R).2∧((val R).2.e=0→R.now.pos<(val R).2.now.pos)
def Qm (T:Nat)(p:PV)(val:Rd→Val×Rd)(s:List UInt8)(d:Nat):Prop:=
 ∀ R,OkR R→OkT R→R.s=s→aF Tryz.prog (bG T p) 1 46 [.ptr 0 0,.pv (.int .i64 (d:Int))] [rdB R] (.pv (val R).1.pv) [rdB (val R).2]
def msr (R:Rd):Nat:=if R.e=0 then R.s.length+1 - R.now.pos else 0
theorem Nx {R:Rd}(h:OkR R)(h0:R.e=0):R.now.pos≤R.s.length:=by
 obtain⟨h1,h2,h3,h4⟩:=h h0;omega
theorem Fe {R R':Rd}(hR:OkR R)(h:fO R R'):msr R'≤msr R:=by
 unfold msr
 by_cases h0:R'.e=0
 ·obtain⟨g1,g2⟩:=h.2.2.2 h0
  rw[if_pos h0,if_pos g1,h.2.2.1];omega
 ·rw[if_neg h0];omega
theorem tQ {R R':Rd}(hR:OkR R)(h0:R.e=0)(h:fO R R')(hp:R'.e=0→R.now.pos<R'.now.pos):msr R'<msr R:=by
 unfold msr
 have:=Nx hR h0
 by_cases h1:R'.e=0
 ·have:=hp h1
  rw[if_pos h1,if_pos h0,h.2.2.1];omega
 ·rw[if_neg h1,if_pos h0];omega
theorem nc {val:Rd→Val×Rd}{k:Nat}{first:Bool}{l:List Val}{R:Rd}(h:¬ (R.e=0∧isT R [93]=false)):cJ val k first l R=(l,R):=by
 cases k with
 | zero=>rfl
 | succ k=>rw[cJ];exact if_neg h
theorem nd {val:Rd→Val×Rd}{k:Nat}{first:Bool}{l:List Val}{R:Rd}(h:R.e=0∧isT R [93]=false) :
  cJ val (k+1) first l R=cJ val k false (l++[(val (if first=true then R else aq R [44])).1]) (val (if first=true then R else aq R [44])).2:=by
 rw[cJ];exact if_pos h
theorem mh {val:Rd→Val×Rd}{s:List UInt8}(hv:xB val s){R:Rd}(b:Bool)(hR:OkR R)(hT:OkT R)(hs:R.s=s)(h0:R.e=0) :
  fO R (if b=true then R else aq R [44])∧fO R (val (if b=true then R else aq R [44])).2∧(val (if b=true then R else aq R [44])).1.ok∧msr (val (if b=true then R else aq R [44])).2<msr R:=by
 have h1:fO R (if b=true then R else aq R [44]):=by
  split
  ·exact .refl hR hT
  ·exact bN hR hT
 generalize (if b=true then R else aq R [44])=R1 at *
 obtain⟨g1,g2,g3⟩:=hv R1 h1.1 h1.2.1 (h1.2.2.1.trans hs)
 refine⟨h1,h1.trans g2,g1,tQ hR h0 (h1.trans g2) fun he=>?_⟩
 have:=g3 he
 have:=(h1.2.2.2 (g2.2.2.2 he).1).2
 omega
theorem tY {val:Rd→Val×Rd}{s:List UInt8}(hv:xB val s):∀ (k:Nat) (b:Bool) (l:List Val) (R:Rd),OkR R→OkT R→R.s=s→(∀ x∈l,x.ok) →
  (∀ x∈(cJ val k b l R).1,x.ok)∧fO R (cJ val k b l R).2∧(cJ val k b l R).1.length≤l.length+k
 | 0,b,l,R,h1,h2,h3,h4=>⟨h4,.refl h1 h2,Nat.le_refl _⟩
 | k+1,b,l,R,h1,h2,h3,h4=>by
   by_cases h:R.e=0∧isT R [93]=false
   ·rw[nd h]
    obtain⟨g1,g2,g3,g4⟩:=mh hv b h1 h2 h3 h.1
    generalize val (if b=true then R else aq R [44])=q at *
    obtain⟨k1,k2,k3⟩:=tY hv k false (l++[q.1]) q.2 g2.1 g2.2.1 (g2.2.2.1.trans h3) (fun x hx=>by
     rcases List.mem_append.1 hx with hx | hx
     ·exact h4 x hx
     ·rw[List.mem_singleton.1 hx];exact g3)
    refine⟨k1,g2.trans k2,?_⟩
    rw[List.length_append,List.length_singleton] at k3
    omega
   ·rw[nc h]
    exact⟨h4,.refl h1 h2,by simp only;omega⟩
theorem Gf (w1 w2 w3:Int)(w4:List UInt8)(w5 w6:List PV):oO 6 1 [.pv (.agg [.int .i64 w1,.int .i64 w2,.int .i64 w3,.str w4,.list w5,.list w6])]=some (.pv (.list [.agg [.int .i64 w1,.int .i64 w2,.int .i64 w3,.str w4,.list w5,.list w6]]),[]):=
 oN rfl rfl
section
variable {T:Nat}{p:PV}
theorem Hg (val:Rd→Val×Rd)(s:List UInt8)(d:Nat)(hd:d≤10)(hv:xB val s)(hc:Qm T p val s (d+1))(R:Rd)(hR:OkR R)(hT:OkT R)(hs:R.s=s)(hsl:s.length≤65536) :
  aF Tryz.prog (bG T p) 1 98 [.ptr 0 0,.pv (.int .i64 (d:Int))] [rdB R] (.pv (Val.mk 8 0 0 [] (cJ val (s.length+2) true [] R).1 []).pv) [rdB (aq (cJ val (s.length+2) true [] R).2 [93])]:=by
 obtain⟨Z,hZ⟩:∃ Z,Z=cJ val (s.length+2) true [] R:=⟨_,rfl⟩
 rw[← hZ]
 refine aF.intro Pd (by simp[F98]) ?_
 simp(disch:=try exact dI) only[F98,push_cast,seval]
 refine bf ([(5,5,25,6)]) (fun y:Bool×List Val×Rd=>[(6,.pv (.bool y.1))]) (fun y=>[(0,rdB y.2.2),(2,.cells 25 true [.pv (.int .i64 8),.pv (.int .i64 0),.pv (.int .i64 0),.pv (.str []),.olist 3 6 (y.2.1.map Val.pv),.pv .nils])]) (fun y=>OkR y.2.2∧OkT y.2.2∧y.2.2.s=s∧y.2.1.length+msr y.2.2≤s.length+1∧∃ k,msr y.2.2<k∧Z=cJ val k y.1 y.2.1 y.2.2) (fun y=>msr y.2.2) ((true,[],R)) ?_;intro e0 σ0 n0 h0;simp(disch:=try exact dI) only[push_cast,seval] at h0;obtain⟨rfl,rfl,rfl⟩:=h0;refine⟨?_,?_,?_⟩
 ·simp(disch:=try exact dI) only[rdB,rdC,push_cast,seval]
 ·refine⟨hR,hT,hs,?_,s.length+2,?_,hZ⟩
  ·simp only[List.length_nil,msr,hs];split<;>omega
  ·simp only[msr,hs];split<;>omega
 rintro⟨b,l,L⟩ ⟨h1,h2,h3,h4,k,hk,hZk⟩
 simp only at h1 h2 h3 h4 hk hZk
 obtain⟨k,rfl⟩:∃ j,k=j+1:=⟨k - 1,by omega⟩
 have hex:=bO (T:=T) (p:=p) L [93] h1
 have fin:¬ (L.e=0∧isT L [93]=false)→Z=(l,L):=fun h=>hZk.trans (nc h)
 by_cases h0:L.e=0
 ·have h0I:(L.e=0)=True:=eq_true h0
  have his:=Fy (T:=T) (p:=p) L [93]
  cases hi:isT L [93] with
  | true=>
    rw[hi] at his
    have hZf:=fin (fun q=>by rw[hi] at q;cases q.2)
    subst hZf
    simp only[rdB,rdC] at his hex
    simp(disch:=try exact dI) only[rdB,rdC,h0I,push_cast,seval]
    refine ab.lentK his [0] rfl qsZ qsZ ?_
    refine zgZ ?_
    refine ab.lentK hex [0] rfl qsZ qsZ ?_
    refine zgZ ?_
    exact am [] (by simp(disch:=try exact dI) only[rdB,rdC,Val.pv_mk,push_cast,seval])
  | false=>
    rw[hi] at his
    rw[nd ⟨h0,hi⟩] at hZk
    obtain⟨g1,g2,g3,g4⟩:=mh hv b h1 h2 h3 h0
    have hcall:=hc (if b=true then L else aq L [44]) g1.1 g1.2.1 (g1.2.2.1.trans h3)
    have hco:=bO (T:=T) (p:=p) L [44] h1
    cases b with
    | true=>
      rw[if_pos rfl] at hcall hZk g1 g2 g3 g4
      generalize val L=q at *
      obtain⟨v,L2⟩:=q
      simp only at hcall hZk g2 g3 g4
      have hl:l.length≤65540:=by omega
      have hmp:(l++[v]).map Val.pv=l.map Val.pv++[v.pv]:=by simp
      obtain⟨w1,w2,w3,w4,w5,w6⟩:=v
      have hbs:=Gf w1 w2 w3 w4 (w5.map Val.pv) (w6.map Fld.pv)
      simp only[rdB,rdC,Val.pv_mk] at his hcall
      simp(disch:=try exact dI) only[rdB,rdC,h0I,push_cast,seval]
      refine ab.lentK his [0] rfl qsZ qsZ ?_
      refine zgZ ?_
      refine aT hcall [0] rfl qsZ qsZ ?_
      simp(disch:=try exact dI) only[hbs,push_cast,seval]
      exact⟨(false,l++[.mk w1 w2 w3 w4 w5 w6],L2),bz (by simp(disch:=try exact dI) only[rdB,rdC,hmp,Val.pv_mk,push_cast,seval]),⟨g2.1,g2.2.1,g2.2.2.1.trans h3,by simp only[List.length_append,List.length_singleton];omega,k,by simp only;omega,hZk⟩,by simp only;omega⟩
    | false=>
      rw[if_neg (by decide)] at hcall hZk g1 g2 g3 g4
      generalize aq L [44]=L1 at *
      generalize val L1=q at *
      obtain⟨v,L2⟩:=q
      simp only at hcall hZk g2 g3 g4
      have hl:l.length≤65540:=by omega
      have hmp:(l++[v]).map Val.pv=l.map Val.pv++[v.pv]:=by simp
      obtain⟨w1,w2,w3,w4,w5,w6⟩:=v
      have hbs:=Gf w1 w2 w3 w4 (w5.map Val.pv) (w6.map Fld.pv)
      simp only[rdB,rdC,Val.pv_mk] at his hcall hco
      simp(disch:=try exact dI) only[rdB,rdC,h0I,push_cast,seval]
      refine ab.lentK his [0] rfl qsZ qsZ ?_
      refine zgZ ?_
      refine ab.lentK hco [0] rfl qsZ qsZ ?_
      refine zgZ ?_
      refine aT hcall [0] rfl qsZ qsZ ?_
      simp(disch:=try exact dI) only[hbs,push_cast,seval]
      exact⟨(false,l++[.mk w1 w2 w3 w4 w5 w6],L2),bz (by simp(disch:=try exact dI) only[rdB,rdC,hmp,Val.pv_mk,push_cast,seval]),⟨g2.1,g2.2.1,g2.2.2.1.trans h3,by simp only[List.length_append,List.length_singleton];omega,k,by simp only;omega,hZk⟩,by simp only;omega⟩
 ·have hZf:=fin (fun q=>h0 q.1)
  subst hZf
  simp only[rdB,rdC] at hex
  simp(disch:=try exact dI) only[rdB,rdC,h0,push_cast,seval]
  refine ab.lentK hex [0] rfl qsZ qsZ ?_
  refine zgZ ?_
  exact am [] (by simp(disch:=try exact dI) only[rdB,rdC,Val.pv_mk,push_cast,seval])
end
end Go.Proofs.YtamoeblcphjbaaaGreatDoor
