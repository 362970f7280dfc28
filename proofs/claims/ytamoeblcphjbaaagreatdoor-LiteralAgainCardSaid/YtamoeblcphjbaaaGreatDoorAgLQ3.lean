/- A part of the proof for LiteralAgainCardSaid. -/
import Derived.Test.YtamoeblcphjbaaaGreatDoorAgLSr3
set_option maxRecDepth 100000
set_option linter.unusedVariables false
set_option linter.unusedSimpArgs false
-- many steps
namespace Go.Proofs.YtamoeblcphjbaaaGreatDoor
open Go Go.Ab
attribute [local irreducible] vc
def xe (val:Rd→Val×Rd)(s:List UInt8):Prop:=
 ∀ R,OkR R→OkT R→R.s=s→(val R).1.ok∧fR R (val R).2∧((val R).2.e=0→R.now.pos<(val R).2.now.pos)
def Pk (T:Nat)(p:PV)(val:Rd→Val×Rd)(s:List UInt8)(d:Nat):Prop:=
 ∀ R,OkR R→OkT R→R.s=s→aQ Tryz.prog (dM T p) 1 46 [.ptr 0 0,.pv (.int .i64 (d:Int))] [rdB R] (.pv (val R).1.pv) [rdB (val R).2]
def msr (R:Rd):Nat:=if R.e=0 then R.s.length+1 - R.now.pos else 0
theorem G1 {R:Rd}(h:OkR R)(h0:R.e=0):R.now.pos≤R.s.length:=by
 obtain⟨h1,h2,h3,h4⟩:=h h0;omega
theorem G6 {R R':Rd}(hR:OkR R)(h0:R.e=0)(h:fR R R')(hp:R'.e=0→R.now.pos<R'.now.pos):msr R'<msr R:=by
 unfold msr
 have:=G1 hR h0
 by_cases h1:R'.e=0
 ·have:=hp h1
  rw[if_pos h1,if_pos h0,h.2.2.1];omega
 ·rw[if_neg h1,if_pos h0];omega
theorem gN {val:Rd→Val×Rd}{k:Nat}{first:Bool}{l:List Val}{R:Rd}(h:¬ (R.e=0∧isT R [93]=false)):cw val k first l R=(l,R):=by
 cases k with
 | zero=>rfl
 | succ k=>rw[cw];exact if_neg h
theorem gO {val:Rd→Val×Rd}{k:Nat}{first:Bool}{l:List Val}{R:Rd}(h:R.e=0∧isT R [93]=false) :
  cw val (k+1) first l R=cw val k false (l++[(val (if first=true then R else aD R [44])).1]) (val (if first=true then R else aD R [44])).2:=by
 rw[cw];exact if_pos h
theorem iH {val:Rd→Val×Rd}{s:List UInt8}(hv:xe val s){R:Rd}(b:Bool)(hR:OkR R)(hT:OkT R)(hs:R.s=s)(h0:R.e=0) :
  fR R (if b=true then R else aD R [44])∧fR R (val (if b=true then R else aD R [44])).2∧(val (if b=true then R else aD R [44])).1.ok∧msr (val (if b=true then R else aD R [44])).2<msr R:=by
 have h1:fR R (if b=true then R else aD R [44]):=by
  split
  ·exact .refl hR hT
  ·exact br hR hT
 generalize (if b=true then R else aD R [44])=R1 at *
 obtain⟨g1,g2,g3⟩:=hv R1 h1.1 h1.2.1 (h1.2.2.1.trans hs)
 refine⟨h1,h1.trans g2,g1,G6 hR h0 (h1.trans g2) fun he=>?_⟩
 have:=g3 he
 have:=(h1.2.2.2 (g2.2.2.2 he).1).2
 omega
theorem jE {val:Rd→Val×Rd}{s:List UInt8}(hv:xe val s):∀ (k:Nat) (b:Bool) (l:List Val) (R:Rd),OkR R→OkT R→R.s=s→(∀ x∈l,x.ok) →
  (∀ x∈(cw val k b l R).1,x.ok)∧fR R (cw val k b l R).2∧(cw val k b l R).1.length≤l.length+k
 | 0,b,l,R,h1,h2,h3,h4=>⟨h4,.refl h1 h2,Nat.le_refl _⟩
 | k+1,b,l,R,h1,h2,h3,h4=>by
   by_cases h:R.e=0∧isT R [93]=false
   ·rw[gO h]
    obtain⟨g1,g2,g3,g4⟩:=iH hv b h1 h2 h3 h.1
    generalize val (if b=true then R else aD R [44])=q at *
    obtain⟨k1,k2,k3⟩:=jE hv k false (l++[q.1]) q.2 g2.1 g2.2.1 (g2.2.2.1.trans h3) (fun x hx=>by
     rcases List.mem_append.1 hx with hx | hx
     ·exact h4 x hx
     ·rw[List.mem_singleton.1 hx];exact g3)
    refine⟨k1,g2.trans k2,?_⟩
    rw[List.length_append,List.length_singleton] at k3
    omega
   ·rw[gN h]
    exact⟨h4,.refl h1 h2,by simp only;omega⟩
theorem NG (w1 w2 w3:Int)(w4:List UInt8)(w5 w6:List PV):oz 6 1 [.pv (.agg [.int .i64 w1,.int .i64 w2,.int .i64 w3,.str w4,.list w5,.list w6])]=some (.pv (.list [.agg [.int .i64 w1,.int .i64 w2,.int .i64 w3,.str w4,.list w5,.list w6]]),[]):=
 oy rfl rfl
section
variable {T:Nat}{p:PV}
set_option maxHeartbeats 4000000 in
theorem Hb (val:Rd→Val×Rd)(s:List UInt8)(d:Nat)(hd:d≤10)(hv:xe val s)(hc:Pk T p val s (d+1))(R:Rd)(hR:OkR R)(hT:OkT R)(hs:R.s=s)(hsl:s.length≤65536) :
  aQ Tryz.prog (dM T p) 1 98 [.ptr 0 0,.pv (.int .i64 (d:Int))] [rdB R] (.pv (Val.mk 8 0 0 [] (cw val (s.length+2) true [] R).1 []).pv) [rdB (aD (cw val (s.length+2) true [] R).2 [93])]:=by
 obtain⟨Z,hZ⟩:∃ Z,Z=cw val (s.length+2) true [] R:=⟨_,rfl⟩
 rw[← hZ]
 refine aQ.intro NX (by simp[F98]) ?_
 simp(disch:=try exact dI) only[F98,push_cast,seval]
 refine be ([(5,5,25,6)]) (fun y:Bool×List Val×Rd=>[(6,.pv (.bool y.1))]) (fun y=>[(0,rdB y.2.2),(2,.cells 25 true [.pv (.int .i64 8),.pv (.int .i64 0),.pv (.int .i64 0),.pv (.str []),.olist 3 6 (y.2.1.map Val.pv),.pv .nils])]) (fun y=>OkR y.2.2∧OkT y.2.2∧y.2.2.s=s∧y.2.1.length+msr y.2.2≤s.length+1∧∃ k,msr y.2.2<k∧Z=cw val k y.1 y.2.1 y.2.2) (fun y=>msr y.2.2) ((true,[],R)) ?_;intro e0 σ0 n0 h0;simp(disch:=try exact dI) only[push_cast,seval] at h0;obtain⟨rfl,rfl,rfl⟩:=h0;refine⟨?_,?_,?_⟩
 ·simp(disch:=try exact dI) only[rdB,rdC,push_cast,seval]
 ·refine⟨hR,hT,hs,?_,s.length+2,?_,hZ⟩
  ·simp only[List.length_nil,msr,hs];split<;>omega
  ·simp only[msr,hs];split<;>omega
 rintro⟨b,l,L⟩ ⟨h1,h2,h3,h4,k,hk,hZk⟩
 simp only at h1 h2 h3 h4 hk hZk
 obtain⟨k,rfl⟩:∃ j,k=j+1:=⟨k - 1,by omega⟩
 have hex:=bU (T:=T) (p:=p) L [93] h1
 have fin:¬ (L.e=0∧isT L [93]=false)→Z=(l,L):=fun h=>hZk.trans (gN h)
 by_cases h0:L.e=0
 ·have h0I:(L.e=0)=True:=eq_true h0
  have his:=Fx (T:=T) (p:=p) L [93]
  cases hi:isT L [93] with
  | true=>
    rw[hi] at his
    have hZf:=fin (fun q=>by rw[hi] at q;cases q.2)
    subst hZf
    simp only[rdB,rdC] at his hex
    simp(disch:=try exact dI) only[rdB,rdC,h0I,push_cast,seval]
    refine ab.lentK his [0] rfl qsZ qsZ ?_
    simp(disch:=try exact dI) only[push_cast,seval]
    refine ab.lentK hex [0] rfl qsZ qsZ ?_
    simp(disch:=try exact dI) only[push_cast,seval]
    exact ap [] (by simp(disch:=try exact dI) only[rdB,rdC,Val.pv_mk,push_cast,seval])
  | false=>
    rw[hi] at his
    rw[gO ⟨h0,hi⟩] at hZk
    obtain⟨g1,g2,g3,g4⟩:=iH hv b h1 h2 h3 h0
    have hcall:=hc (if b=true then L else aD L [44]) g1.1 g1.2.1 (g1.2.2.1.trans h3)
    have hco:=bU (T:=T) (p:=p) L [44] h1
    cases b with
    | true=>
      rw[if_pos rfl] at hcall hZk g1 g2 g3 g4
      generalize val L=q at *
      obtain⟨v,L2⟩:=q
      simp only at hcall hZk g2 g3 g4
      have hl:l.length≤65540:=by omega
      have hmp:(l++[v]).map Val.pv=l.map Val.pv++[v.pv]:=by simp
      obtain⟨w1,w2,w3,w4,w5,w6⟩:=v
      have hbs:=NG w1 w2 w3 w4 (w5.map Val.pv) (w6.map Fld.pv)
      simp only[rdB,rdC,Val.pv_mk] at his hcall
      simp(disch:=try exact dI) only[rdB,rdC,h0I,push_cast,seval]
      refine ab.lentK his [0] rfl qsZ qsZ ?_
      simp(disch:=try exact dI) only[push_cast,seval]
      refine bw hcall [0] rfl qsZ qsZ ?_
      simp(disch:=try exact dI) only[hbs,push_cast,seval]
      exact⟨(false,l++[.mk w1 w2 w3 w4 w5 w6],L2),bT (by simp(disch:=try exact dI) only[rdB,rdC,hmp,Val.pv_mk,push_cast,seval]),⟨g2.1,g2.2.1,g2.2.2.1.trans h3,by simp only[List.length_append,List.length_singleton];omega,k,by simp only;omega,hZk⟩,by simp only;omega⟩
    | false=>
      rw[if_neg (by decide)] at hcall hZk g1 g2 g3 g4
      generalize aD L [44]=L1 at *
      generalize val L1=q at *
      obtain⟨v,L2⟩:=q
      simp only at hcall hZk g2 g3 g4
      have hl:l.length≤65540:=by omega
      have hmp:(l++[v]).map Val.pv=l.map Val.pv++[v.pv]:=by simp
      obtain⟨w1,w2,w3,w4,w5,w6⟩:=v
      have hbs:=NG w1 w2 w3 w4 (w5.map Val.pv) (w6.map Fld.pv)
      simp only[rdB,rdC,Val.pv_mk] at his hcall hco
      simp(disch:=try exact dI) only[rdB,rdC,h0I,push_cast,seval]
      refine ab.lentK his [0] rfl qsZ qsZ ?_
      simp(disch:=try exact dI) only[push_cast,seval]
      refine ab.lentK hco [0] rfl qsZ qsZ ?_
      simp(disch:=try exact dI) only[push_cast,seval]
      refine bw hcall [0] rfl qsZ qsZ ?_
      simp(disch:=try exact dI) only[hbs,push_cast,seval]
      exact⟨(false,l++[.mk w1 w2 w3 w4 w5 w6],L2),bT (by simp(disch:=try exact dI) only[rdB,rdC,hmp,Val.pv_mk,push_cast,seval]),⟨g2.1,g2.2.1,g2.2.2.1.trans h3,by simp only[List.length_append,List.length_singleton];omega,k,by simp only;omega,hZk⟩,by simp only;omega⟩
 ·have hZf:=fin (fun q=>h0 q.1)
  subst hZf
  simp only[rdB,rdC] at hex
  simp(disch:=try exact dI) only[rdB,rdC,h0,push_cast,seval]
  refine ab.lentK hex [0] rfl qsZ qsZ ?_
  simp(disch:=try exact dI) only[push_cast,seval]
  exact ap [] (by simp(disch:=try exact dI) only[rdB,rdC,Val.pv_mk,push_cast,seval])
end
end Go.Proofs.YtamoeblcphjbaaaGreatDoor
