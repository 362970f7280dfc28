/- A part. -/
import Derived.Test.YtamoeblcphjbaaaGreatDoorBlL14
set_option linter.unusedVariables false
set_option linter.unusedSimpArgs false
set_option maxHeartbeats 16000000
set_option maxRecDepth 100000
open List renaming mem_singleton->Vy,mem_append->UY,length_append->Us,length_singleton->UL,length_nil->Ux
namespace Go.Proofs.YtamoeblcphjbaaaGreatDoor
open Go Go.Ab
theorem dz:ce.ok:=by
 unfold ce
 rw[Uk]
 exact⟨bw,bw,bw,bw,by simp,by simp,by simp,by simp,by simp,by simp⟩
theorem ij {k a b c:Int}(hk:I64 k)(ha:I64 a)(hb:I64 b)(hc:I64 c):(Typ.mk k a b c [] [] []).ok:=by
 rw[Uk]
 exact⟨hk,ha,hb,hc,by simp,by simp,by simp,by simp,by simp,by simp⟩
section
variable {s:List UInt8}{kind:Rd->Typ×Rd}{val:Rd->Val×Rd}
theorem ip (hk:zm kind s){R:Rd}(hR:OkR R)(hT:OkT R)(hs:R.s=s) :
  bY R (cm R).2/\bY R (qT R).2/\bY R (oP R).2/\bY R (aq (oP R).2 [58])/\bY R (gU kind R).2/\bY R (zx kind R)/\bY R (mG kind R).2/\(gU kind R).1.ok/\((mG kind R).2.e=0->R.now.pos<(mG kind R).2.now.pos)/\I64 (cm R).1/\(qT R).1.length<=65536:=by
 obtain⟨a,a2,a3⟩:=bF hR hT
 obtain⟨b,b2⟩:=py a.1 a.2.1
 have ab:bY R (qT R).2:=a.trans b
 have c:bY R (oP R).2:=ab.trans (kR ab.1 ab.2.1).1
 have d:=c.trans (aG (t:=[58]) c.1 c.2.1)
 obtain⟨k1,k2,k3⟩:=hk _ d.1 d.2.1 (d.2.2.1.trans hs)
 have e:bY R (gU kind R).2:=d.trans k2
 have f:bY (gU kind R).2 (zx kind R):=by
  unfold zx
  split
  ·exact bj (by decide)
  ·exact .refl e.1 e.2.1
 have g:bY (zx kind R) (mG kind R).2:=(kR (e.trans f).1 (e.trans f).2.1).1
 refine⟨a,ab,c,d,e,e.trans f,(e.trans f).trans g,k1,fun he=>?_,a2,b2⟩
 have q1:=(f.trans g).2.2.2 he
 have q2:=k3 q1.1
 have q3:=(d.2.2.2 (k2.2.2.2 q1.1).1).2
 unfold gU at q1
 omega
theorem j8 (hk:zm kind s)(hv:mI val s){R:Rd}(hR:OkR R)(hT:OkT R)(hs:R.s=s) :
  (pl kind val R).1.ok/\bY R (pl kind val R).2/\((pl kind val R).2.e=0->R.now.pos<(pl kind val R).2.now.pos):=by
 obtain⟨_,_,_,_,_,_,g,k1,gp,a2,b2⟩:=ip hk hR hT hs
 unfold pl
 generalize mG kind R=Z at *
 generalize (gU kind R).1=t at *
 split
 ·obtain⟨v1,v2,v3⟩:=hv Z.2 g.1 g.2.1 (g.2.2.1.trans hs)
  refine⟨?_,g.trans v2,fun he=>?_⟩
  ·rw[Ud]
   refine⟨a2,by omega,dQ (by omega) (by omega),k1,by simp,fun x hx=>?_⟩
   rw[Vy.1 hx];exact v1
  ·have q1:=v2.2.2.2 he
   have q2:=gp q1.1
   simp only at he ⊢
   omega
 ·refine⟨?_,g,gp⟩
  rw[Ud]
  refine⟨a2,by omega,?_,k1,by simp,by simp⟩
  split<;>exact dQ (by omega) (by omega)
def Rs (fld:Rd->TFd×Rd)(s:List UInt8):Prop:=
 ∀ R,OkR R->OkT R->R.s=s->(fld R).1.ok/\bY R (fld R).2/\((fld R).2.e=0->R.now.pos<(fld R).2.now.pos)
variable {fld:Rd->TFd×Rd}
theorem qN {k:Nat}{b:Bool}{l:List TFd}{R:Rd}(h:¬ R.e=0):gq fld k b l R=(l,R):=by
 cases k with
 | zero=>rfl
 | succ k=>rw[gq];exact if_neg h
theorem qR {k:Nat}{l:List TFd}{R:Rd}(h:R.e=0):gq fld (k+1) true l R=gq fld k false (l++[(fld R).1]) (fld R).2:=by
 rw[gq,if_pos h,if_pos rfl]
theorem qQ {k:Nat}{l:List TFd}{R:Rd}(h:R.e=0)(hl:0<l.length)(hi:isT R [44]=true):gq fld (k+1) false l R=gq fld k false (l++[(fld (aT R)).1]) (fld (aT R)).2:=by
 rw[gq,if_pos h,if_neg (by decide),if_pos hl]
 simp only[bp,if_pos hi]
 rfl
theorem qP {k:Nat}{l:List TFd}{R:Rd}(h:R.e=0)(hl:0<l.length)(hi:isT R [44]=false):gq fld (k+1) false l R=(l,R):=by
 rw[gq,if_pos h,if_neg (by decide),if_pos hl]
 have:bp R [44]=(false,R):=by unfold bp;rw[if_neg (by rw[hi];decide)]
 simp only[this]
 rfl
theorem qO {k:Nat}{l:List TFd}{R:Rd}(hl:¬ 0<l.length):gq fld k false l R=(l,R):=by
 cases k with
 | zero=>rfl
 | succ k=>
   rw[gq]
   split
   ·simp only[Bool.false_eq_true,if_false,if_neg hl]
   ·rfl
theorem Jq (hf:Rs fld s):∀ (k:Nat) (b:Bool) (l:List TFd) (R:Rd),OkR R->OkT R->R.s=s->(∀ x∈l,x.ok) ->
  (∀ x∈(gq fld k b l R).1,x.ok)/\bY R (gq fld k b l R).2/\(gq fld k b l R).1.length<=l.length+k
 | 0,b,l,R,h1,h2,h3,h4=>⟨h4,.refl h1 h2,Nat.le_refl _⟩
 | k+1,b,l,R,h1,h2,h3,h4=>by
   have stay:(∀ x∈(l,R).1,x.ok)/\bY R (l,R).2/\(l,R).1.length<=l.length+(k+1):=⟨h4,.refl h1 h2,by simp only;omega⟩
   have go:∀ R1,bY R R1->(∀ x∈(gq fld k false (l++[(fld R1).1]) (fld R1).2).1,x.ok)/\bY R (gq fld k false (l++[(fld R1).1]) (fld R1).2).2/\(gq fld k false (l++[(fld R1).1]) (fld R1).2).1.length<=l.length+(k+1):=fun R1 hst=>by
    obtain⟨g1,g2,_⟩:=hf R1 hst.1 hst.2.1 (hst.2.2.1.trans h3)
    generalize fld R1=q at *
    obtain⟨k1,k2,k3⟩:=Jq hf k false (l++[q.1]) q.2 g2.1 g2.2.1 (g2.2.2.1.trans (hst.2.2.1.trans h3)) (fun x hx=>by
     rcases UY.1 hx with hx | hx
     ·exact h4 x hx
     ·rw[Vy.1 hx];exact g1)
    refine⟨k1,hst.trans (g2.trans k2),?_⟩
    rw[Us,UL] at k3
    omega
   by_cases h0:R.e=0
   ·cases b with
    | true=>rw[qR h0];exact go R (.refl h1 h2)
    | false=>
      by_cases hl:0<l.length
      ·cases hi:isT R [44] with
       | true=>rw[qQ h0 hl hi];exact go (aT R) (aQ h1 h2).1
       | false=>rw[qP h0 hl hi];exact stay
      ·rw[qO hl];exact stay
   ·rw[qN h0];exact stay
end
theorem tW {k:Nat}{b:Bool}{l:List (List UInt8)}{R:Rd}(h:¬ R.e=0):gG k b l R=(l,R):=by
 cases k with
 | zero=>rfl
 | succ k=>rw[gG];exact if_neg h
theorem tZ {k:Nat}{l:List (List UInt8)}{R:Rd}(h:R.e=0):gG (k+1) true l R=gG k false (l++[(bi R 3).1.bytes]) (bi R 3).2:=by
 rw[gG,if_pos h,if_pos rfl]
theorem tY {k:Nat}{l:List (List UInt8)}{R:Rd}(h:R.e=0)(hi:isT R [124]=true):gG (k+1) false l R=gG k false (l++[(bi (aT R) 3).1.bytes]) (bi (aT R) 3).2:=by
 rw[gG,if_pos h,if_neg (by decide)]
 simp only[bp,if_pos hi]
 rfl
theorem tX {k:Nat}{l:List (List UInt8)}{R:Rd}(h:R.e=0)(hi:isT R [124]=false):gG (k+1) false l R=(l,R):=by
 rw[gG,if_pos h,if_neg (by decide)]
 have:bp R [124]=(false,R):=by unfold bp;rw[if_neg (by rw[hi];decide)]
 simp only[this]
 rfl
theorem IG:∀ (k:Nat) (b:Bool) (l:List (List UInt8)) (R:Rd),OkR R->OkT R->(∀ x∈l,x.length<=300000) ->
  (∀ x∈(gG k b l R).1,x.length<=300000)/\bY R (gG k b l R).2/\(gG k b l R).1.length<=l.length+k
 | 0,b,l,R,h1,h2,h4=>⟨h4,.refl h1 h2,Nat.le_refl _⟩
 | k+1,b,l,R,h1,h2,h4=>by
   have stay:(∀ x∈(l,R).1,x.length<=300000)/\bY R (l,R).2/\(l,R).1.length<=l.length+(k+1):=⟨h4,.refl h1 h2,by simp only;omega⟩
   have go:∀ R1,bY R R1->(∀ x∈(gG k false (l++[(bi R1 3).1.bytes]) (bi R1 3).2).1,x.length<=300000)/\bY R (gG k false (l++[(bi R1 3).1.bytes]) (bi R1 3).2).2/\(gG k false (l++[(bi R1 3).1.bytes]) (bi R1 3).2).1.length<=l.length+(k+1):=fun R1 hst=>by
    have g2:=cE (k:=3) hst.1 hst.2.1
    have g1:=(At (k:=3) hst.2.1).2
    generalize bi R1 3=q at *
    obtain⟨k1,k2,k3⟩:=IG k false (l++[q.1.bytes]) q.2 g2.1 g2.2.1 (fun x hx=>by
     rcases UY.1 hx with hx | hx
     ·exact h4 x hx
     ·rw[Vy.1 hx];exact g1)
    refine⟨k1,hst.trans (g2.trans k2),?_⟩
    rw[Us,UL] at k3
    omega
   by_cases h0:R.e=0
   ·cases b with
    | true=>rw[tZ h0];exact go R (.refl h1 h2)
    | false=>
      cases hi:isT R [124] with
      | true=>rw[tY h0 hi];exact go (aT R) (aQ h1 h2).1
      | false=>rw[tX h0 hi];exact stay
   ·rw[tW h0];exact stay
section
variable {s:List UInt8}{kind:Rd->Typ×Rd}{val:Rd->Val×Rd}
theorem AM (hsl:s.length<=65536)(hk:zm kind s)(hv:mI val s){R:Rd}(hR:OkR R)(hT:OkT R)(hs:R.s=s){k:Int}(hk1:0<=k/\k<=10) :
  (bX kind val k R).1.ok/\bY R (bX kind val k R).2:=by
 unfold bX
 split
 ·have a:=bF hR hT
  have b:=a.1.trans (aG (t:=[44]) a.1.1 a.1.2.1)
  have c:=cu (b:=mB (cm R).1) (fun R h ht=>oe _ h ht) b.1 b.2.1
  exact⟨ij (dQ (by omega) (by omega)) c.2.1 c.2.2 a.2.1,b.trans c.1⟩
 split
 ·have c:=cu (b:=fun R=>aO R bz) (fun R h ht=>bU bz kg h ht) hR hT
  exact⟨ij (dQ (by omega) (by omega)) c.2.1 c.2.2 bw,c.1⟩
 split
 ·have c:=cu (b:=fun R=>aO R br) (fun R h ht=>bU br kf h ht) hR hT
  exact⟨ij (dQ (by omega) (by omega)) c.2.1 c.2.2 bw,c.1⟩
 split
 ·obtain⟨k1,k2,k3⟩:=Jq (fld:=pl kind val) (fun R h ht q=>j8 hk hv h ht q) (R.s.length+3) (!isT R [41]) [] R hR hT hs (fun x hx=>by cases hx)
  refine⟨?_,k2⟩
  simp only[Ux] at k3
  rw[Uk]
  exact⟨dQ (by omega) (by omega),bw,bw,bw,by simp,by simp,by simp,by simp,by rw[hs] at k3 ⊢;omega,k1⟩
 split
 ·obtain⟨k1,k2,k3⟩:=IG (R.s.length+3) true [] R hR hT (fun x hx=>by cases hx)
  refine⟨?_,k2⟩
  simp only[Ux] at k3
  rw[Uk]
  exact⟨dQ (by omega) (by omega),bw,bw,bw,by rw[hs] at k3 ⊢;omega,fun x hx=>by have:=k1 x hx;omega,by simp,by simp,by simp,by simp⟩
 ·have c:=cu (b:=cm) (fun R h ht=>⟨(bF h ht).1,(bF h ht).2.1⟩) hR hT
  simp only
  split
  ·have d:=c.1.trans (aG (t:=[44]) c.1.1 c.1.2.1)
   obtain⟨k1,k2,_⟩:=hk _ d.1 d.2.1 (d.2.2.1.trans hs)
   refine⟨?_,d.trans k2⟩
   rw[Uk]
   refine⟨dQ (by omega) (by omega),c.2.1,c.2.2,bw,by simp,by simp,by simp,fun x hx=>?_,by simp,by simp⟩
   rw[Vy.1 hx];exact k1
  ·exact⟨ij (dQ (by omega) (by omega)) c.2.1 c.2.2 bw,c.1⟩
end
theorem qJ (t:List UInt8):0<=bt t/\bt t<=10:=by
 unfold bt G9
 simp only[CU]
 repeat' split
 all_goals omega
theorem oD {val:Rd->Val×Rd}{f:Nat}{R:Rd}(h:¬ R.e=0):cU val f R=(ce,R):=by
 cases f<;>(unfold cU;rw[if_neg h])
theorem fV {val:Rd->Val×Rd}{f:Nat}{R:Rd}(h:R.e=0)(hk:R.now.kind≠1):cU val f R=(ce,aP R R.now.pos 13):=by
 cases f<;>(unfold cU;rw[if_pos h,if_pos hk])
theorem kq {val:Rd->Val×Rd}{R:Rd}(h:R.e=0)(hk:R.now.kind=1):cU val 0 R=(ce,aP R R.now.pos 23):=by
 unfold cU;rw[if_pos h,if_neg (fun q=>q hk)]
theorem vj {val:Rd->Val×Rd}{f:Nat}{R:Rd}(h:R.e=0)(hk:R.now.kind=1)(hw:bt R.now.text=0):cU val (f+1) R=(ce,aP (aT R) R.now.pos 13):=by
 rw[cU,if_pos h,if_neg (fun q=>q hk),if_pos hw]
theorem kr {val:Rd->Val×Rd}{f:Nat}{R:Rd}(h:R.e=0)(hk:R.now.kind=1)(hw:bt R.now.text=1):cU val (f+1) R=(.mk 1 0 0 0 [] [] [],aT R):=by
 rw[cU,if_pos h,if_neg (fun q=>q hk),if_neg (by rw[hw];decide),if_pos hw]
theorem vm {val:Rd->Val×Rd}{f:Nat}{R:Rd}(h:R.e=0)(hk:R.now.kind=1)(h0:¬ bt R.now.text=0)(h1:¬ bt R.now.text=1) :
  cU val (f+1) R=((bX (cU val f) val (bt R.now.text) (aq (aT R) [40])).1,aq (bX (cU val f) val (bt R.now.text) (aq (aT R) [40])).2 [41]):=by
 rw[cU,if_pos h,if_neg (fun q=>q hk),if_neg h0,if_neg h1]
theorem CT {val:Rd->Val×Rd}(s:List UInt8)(hsl:s.length<=65536)(hv:mI val s):∀ f,zm (cU val f) s
 | 0=>fun R hR hT hs=>by
   by_cases h0:¬ R.e=0
   ·rw[oD h0];exact⟨dz,.refl hR hT,fun h=>absurd h h0⟩
   have h0:R.e=0:=Classical.not_not.1 h0
   by_cases hk:¬ R.now.kind=1
   ·rw[fV h0 hk];exact⟨dz,bj (by decide),fun h=>absurd h (bn (by decide))⟩
   rw[kq h0 (Classical.not_not.1 hk)];exact⟨dz,bj (by decide),fun h=>absurd h (bn (by decide))⟩
 | f+1=>fun R hR hT hs=>by
   by_cases h0:¬ R.e=0
   ·rw[oD h0];exact⟨dz,.refl hR hT,fun h=>absurd h h0⟩
   have h0:R.e=0:=Classical.not_not.1 h0
   by_cases hk:¬ R.now.kind=1
   ·rw[fV h0 hk];exact⟨dz,bj (by decide),fun h=>absurd h (bn (by decide))⟩
   have hk:R.now.kind=1:=Classical.not_not.1 hk
   obtain⟨a1,a2⟩:=aQ hR hT
   have key:∀ (R':Rd),bY (aT R) R'->bY R R'/\(R'.e=0->R.now.pos<R'.now.pos):=fun R' hst=>⟨a1.trans hst,fun he=>by
    have q1:=hst.2.2.2 he
    have q2:=a2 q1.1 (by rw[hk];decide)
    omega⟩
   by_cases w0:bt R.now.text=0
   ·rw[vj h0 hk w0];exact⟨dz,key _ (bj (by decide))⟩
   by_cases w1:bt R.now.text=1
   ·rw[kr h0 hk w1]
    exact⟨ij (dQ (by omega) (by omega)) bw bw bw,key _ (.refl a1.1 a1.2.1)⟩
   rw[vm h0 hk w0 w1]
   have b:=aG (t:=[40]) a1.1 a1.2.1
   obtain⟨k1,k2⟩:=AM hsl (CT s hsl hv f) hv b.1 b.2.1 (b.2.2.1.trans (a1.2.2.1.trans hs)) (qJ R.now.text)
   exact⟨k1,key _ (b.trans (k2.trans (aG k2.1 k2.2.1)))⟩
attribute [local irreducible] vc
def tyC (k a b sc:Int):List AV:=[.pv (.int .i64 k),.pv (.int .i64 a),.pv (.int .i64 b),.pv (.int .i64 sc),.pv .nils,.pv .nils,.pv .nils]
def tyB (k a b sc:Int):Blk:=.cells 48 true (tyC k a b sc)
section
variable {T:Nat}{p:PV}
theorem vv (R:Rd)(hR:OkR R):aI Tryz.prog (bE T p) 1 122 [.ptr 0 0] [rdB R] (.pv (.int .i64 (cm R).1)) [rdB (cm R).2]:=by
 have h1:=i7 (T:=T) (p:=p) R 2 hR
 unfold cm
 generalize bi R 2=Q at *
 obtain⟨t,L⟩:=Q
 simp only[rdB,rdC,tkP] at h1 ⊢
 by_cases h0:L.e=0
 ·have h0I:(L.e=0)=True:=eq_true h0
  cases hd:t.dec with
  | true=>
    rw[hd] at h1
    have hf:=bV (T:=T) (p:=p) L t.pos 13
    rw[if_pos ⟨h0,rfl⟩]
    simp only[rdB,rdC] at hf
    refine aI.intro IA.2 (by simp[IA]) ?_
    simp(disch:=try exact dI) only[IA,push_cast,seval]
    refine ae.lentK h1 [0] rfl qsZ qsZ ?_
    simp(disch:=try exact dI) only[h0I,push_cast,seval]
    refine ae.lentK hf [0] rfl qsZ qsZ ?_
    refine zgZ ?_
    exact am [] qsZ
  | false=>
    rw[hd] at h1
    rw[if_neg (fun q=>by cases q.2)]
    refine aI.intro IA.2 (by simp[IA]) ?_
    simp(disch:=try exact dI) only[IA,push_cast,seval]
    refine ae.lentK h1 [0] rfl qsZ qsZ ?_
    simp(disch:=try exact dI) only[h0I,push_cast,seval]
    exact am [] qsZ
 ·rw[if_neg (fun q=>h0 q.1)]
  refine aI.intro IA.2 (by simp[IA]) ?_
  simp(disch:=try exact dI) only[IA,push_cast,seval]
  refine ae.lentK h1 [0] rfl qsZ qsZ ?_
  simp(disch:=try exact dI) only[h0,push_cast,seval]
  exact am [] qsZ
theorem Qr (R:Rd)(sc:Int)(hR:OkR R):aI Tryz.prog (bE T p) 1 125 [.ptr 0 0,.pv (.int .i64 sc)] [rdB R] (.pv (.int .i64 (mB sc R).1)) [rdB (mB sc R).2]:=by
 have h1:=i7 (T:=T) (p:=p) R 2 hR
 unfold mB
 generalize bi R 2=Q at *
 obtain⟨t,L⟩:=Q
 simp only[rdB,rdC,tkP] at h1 ⊢
 by_cases h0:L.e=0
 ·have h0I:(L.e=0)=True:=eq_true h0
  have hf:=bV (T:=T) (p:=p) L t.pos 13
  simp only[rdB,rdC] at hf
  cases hd:t.exa with
  | true=>
    rw[hd] at h1
    rw[if_pos ⟨h0,.inl rfl⟩]
    refine aI.intro zJ.2 (by simp[zJ]) ?_
    simp(disch:=try exact dI) only[zJ,push_cast,seval]
    refine ae.lentK h1 [0] rfl qsZ qsZ ?_
    simp(disch:=try exact dI) only[h0I,push_cast,seval]
    refine ae.lentK hf [0] rfl qsZ qsZ ?_
    refine zgZ ?_
    exact am [] qsZ
  | false=>
    rw[hd] at h1
    by_cases hs:(t.sc:Int)=sc
    ·have hsI:((t.sc:Int)=sc)=True:=eq_true hs
     rw[if_neg (fun q=>q.2.elim (fun x=>by cases x) (fun x=>x hs))]
     refine aI.intro zJ.2 (by simp[zJ]) ?_
     simp(disch:=try exact dI) only[zJ,push_cast,seval]
     refine ae.lentK h1 [0] rfl qsZ qsZ ?_
     simp(disch:=try exact dI) only[h0I,hsI,push_cast,seval]
     exact am [] qsZ
    ·rw[if_pos ⟨h0,.inr hs⟩]
     refine aI.intro zJ.2 (by simp[zJ]) ?_
     simp(disch:=try exact dI) only[zJ,push_cast,seval]
     refine ae.lentK h1 [0] rfl qsZ qsZ ?_
     simp(disch:=try exact dI) only[h0I,hs,push_cast,seval]
     refine ae.lentK hf [0] rfl qsZ qsZ ?_
     refine zgZ ?_
     exact am [] qsZ
 ·rw[if_neg (fun q=>h0 q.1)]
  refine aI.intro zJ.2 (by simp[zJ]) ?_
  simp(disch:=try exact dI) only[zJ,push_cast,seval]
  refine ae.lentK h1 [0] rfl qsZ qsZ ?_
  simp(disch:=try exact dI) only[h0,push_cast,seval]
  exact am [] qsZ
def bxB:Blk:=.cells 73 true [.ptr 0 0]
theorem Qf (R:Rd)(k a b sc:Int)(hR:OkR R):aI Tryz.prog (bE T p) 3 124 [.ptr 2 0,.ptr 1 0] [rdB R,tyB k a b sc,bxB] (.pv (.int .i64 (mB sc R).1)) [rdB (mB sc R).2,tyB k a b sc,bxB]:=by
 have h:=Qr (T:=T) (p:=p) R sc hR
 generalize mB sc R=Q at *
 obtain⟨n,L⟩:=Q
 simp only[rdB,rdC,tyB,tyC,bxB] at h ⊢
 refine aI.intro Ts.2 (by simp[Ts]) ?_
 simp(disch:=try exact dI) only[Ts,push_cast,seval]
 refine ae.lentK h [0] rfl qsZ qsZ ?_
 refine zgZ ?_
 exact am [] qsZ
theorem Qe (R:Rd)(k a b sc:Int)(hR:OkR R):aI Tryz.prog (bE T p) 3 126 [.ptr 2 0] [rdB R,tyB k a b sc,bxB] (.pv (.int .i64 (aO R bz).1)) [rdB (aO R bz).2,tyB k a b sc,bxB]:=by
 have h:=iD (T:=T) (p:=p) R hR 128 bz BQ
 generalize aO R bz=Q at *
 obtain⟨n,L⟩:=Q
 simp only[rdB,rdC,tyB,tyC,bxB] at h ⊢
 refine aI.intro Tq.2 (by simp[Tq]) ?_
 simp(disch:=try exact dI) only[Tq,push_cast,seval]
 refine ae.lentK h [0] rfl qsZ qsZ ?_
 refine zgZ ?_
 exact am [] qsZ
theorem Qd (R:Rd)(k a b sc:Int)(hR:OkR R):aI Tryz.prog (bE T p) 3 129 [.ptr 2 0] [rdB R,tyB k a b sc,bxB] (.pv (.int .i64 (aO R br).1)) [rdB (aO R br).2,tyB k a b sc,bxB]:=by
 have h:=iD (T:=T) (p:=p) R hR 130 br lp
 generalize aO R br=Q at *
 obtain⟨n,L⟩:=Q
 simp only[rdB,rdC,tyB,tyC,bxB] at h ⊢
 refine aI.intro Tp.2 (by simp[Tp]) ?_
 simp(disch:=try exact dI) only[Tp,push_cast,seval]
 refine ae.lentK h [0] rfl qsZ qsZ ?_
 refine zgZ ?_
 exact am [] qsZ
theorem Ap (g:Nat)(as1 as2:List AV)(bd:Rd->Int×Rd)(k a b sc:Int)(hs:∀ R,OkR R->OkT R->bY R (bd R).2/\I64 (bd R).1)
  (hb:∀ R a b,OkR R->aI Tryz.prog (bE T p) 3 g (as1++as2) [rdB R,tyB k a b sc,bxB] (.pv (.int .i64 (bd R).1)) [rdB (bd R).2,tyB k a b sc,bxB])
  (hcl:(as1=[]/\as2=[.ptr 2 0,.ptr 1 0])\/(as1=[]/\as2=[.ptr 2 0])) (R:Rd) (hR:OkR R) (hT:OkT R) :
  aI Tryz.prog (bE T p) 3 123 [.ptr 0 0,.ptr 1 0,.clo g as1 as2] [rdB R,tyB k a b sc,bxB] (.pv (.tup [])) [rdB (dF bd R).2,tyB k (dF bd R).1.1 (dF bd R).1.2 sc,bxB]:=by
 have s1:=(hs R hR hT).1
 have h1:=hb R a b hR
 have s2:=aG (t:=[46,46]) s1.1 s1.2.1
 have h2:=aJ (T:=T) (p:=p) (bd R).2 [46,46] s1.1
 have h3:=fun a b=>hb (aq (bd R).2 [46,46]) a b s2.1
 unfold dF
 generalize bd R=Q1 at *
 obtain⟨n1,L1⟩:=Q1
 simp only at h1 h2 h3 ⊢
 generalize aq L1 [46,46]=L2 at *
 generalize bd L2=Q3 at *
 obtain⟨n3,L3⟩:=Q3
 have h3:=h3 n1 b
 clear hs hb s1 s2 hR hT
 simp only[rdB,rdC,tyB,tyC,bxB] at h1 h2 h3 ⊢
 rcases hcl with ⟨rfl,rfl⟩ | ⟨rfl,rfl⟩
 all_goals
  simp only[List.nil_append,List.append_nil] at h1 h3
  refine aI.intro N1.2 (by simp[N1]) ?_
  simp(disch:=try exact dI) only[N1,push_cast,seval]
  refine ae.lentK h1 [0,1,2] rfl qsZ qsZ ?_
  refine zgZ ?_
  refine ae.lentK h2 [0] rfl qsZ qsZ ?_
  refine zgZ ?_
  refine ae.lentK h3 [0,1,2] rfl qsZ qsZ ?_
  refine zgZ ?_
  exact am [] qsZ
theorem rR (k a b sc:Int)(R:Rd)(hR:OkR R)(hT:OkT R) :
  aI Tryz.prog (bE T p) 2 123 [.ptr 0 0,.ptr 1 0,.clo 122 [.ptr 0 0] []] [rdB R,tyB k a b sc] (.pv (.tup [])) [rdB (dF cm R).2,tyB k (dF cm R).1.1 (dF cm R).1.2 sc]:=by
 have s1:=(bF hR hT).1
 have h1:=vv (T:=T) (p:=p) R hR
 have s2:=aG (t:=[46,46]) s1.1 s1.2.1
 have h2:=aJ (T:=T) (p:=p) (cm R).2 [46,46] s1.1
 have h3:=vv (T:=T) (p:=p) _ s2.1
 unfold dF
 generalize cm R=Q1 at *
 obtain⟨n1,L1⟩:=Q1
 simp only at h1 h2 h3 ⊢
 generalize aq L1 [46,46]=L2 at *
 generalize cm L2=Q3 at *
 obtain⟨n3,L3⟩:=Q3
 simp only[rdB,rdC,tyB,tyC] at h1 h2 h3 ⊢
 refine aI.intro N1.2 (by simp[N1]) ?_
 simp(disch:=try exact dI) only[N1,push_cast,seval]
 refine ae.lentK h1 [0] rfl qsZ qsZ ?_
 refine zgZ ?_
 refine ae.lentK h2 [0] rfl qsZ qsZ ?_
 refine zgZ ?_
 refine ae.lentK h3 [0] rfl qsZ qsZ ?_
 refine zgZ ?_
 exact am [] qsZ
end
theorem Kj (n:Nat)(v:Val)(hd:j3 n v)(hv:v.ok)(hs:(fm n 1 v).length<=9223372036854775806):au Tryz.prog aH 200 [v.pv] (.int .i64 ((fm n 1 v).length:Int)):=by
 have hseq:=jJ n v hd hv
 have h243:=ll v
 generalize hxs:fm n 1 v=xs at *
 obtain⟨k,a,s,t,l,fs⟩:=v
 simp only[Un] at h243 hseq
 refine au.intro S4.2 (by simp[S4]) ?_
 simp(disch:=try exact dI) only[S4,Un,push_cast,seval]
 refine ae.pure h243 rfl ?_
 refine zgZ ?_
 refine II ([]) (fun i:Nat=>[]) (fun i:Nat=>[(0,.cells 3 true [.pv (.int .i64 (i:Int))])]) (fun j i=>j=i/\i<=xs.length) (0) (hseq) ?_;intro e0 σ0 n0 h0;simp(disch:=try exact dI) only[push_cast,seval] at h0;obtain⟨rfl,rfl,rfl⟩:=h0;refine⟨?_,?_,?_,?_,?_⟩
 ·exact qsZ
 ·exact⟨rfl,by omega⟩
 ·rfl
 ·rintro j i y hy ⟨hij,hi⟩
  subst hij
  have hjl:j<xs.length:=by
   have:=(List.getElem?_eq_some_iff.1 hy).1
   simpa using this
  obtain⟨q,hq⟩:∃ q,xs[j]? = some q:=⟨_,List.getElem?_eq_getElem hjl⟩
  have hye:y=zD q:=by simpa[hq] using hy.symm
  subst hye
  obtain⟨lv,⟨k',n',s',t',l',f'⟩⟩:=q
  refine⟨rfl,?_⟩
  simp only[zD,Un]
  clear hy h243 hseq
  refine zgZ ?_
  exact⟨j+1,bu qsZ,rfl,by omega⟩
 ·rintro j ⟨hj,hi⟩
  simp only[List.length_map] at hj
  subst hj
  exact qsZ
def inB (n a b:Int):Bool:=decide (a<=n)&&decide (n<=b)
theorem qL (n a b:Int):au Tryz.prog aH 195 [.int .i64 n,.int .i64 a,.int .i64 b] (.bool (inB n a b)):=by
 refine au.intro QN.2 (by simp[QN]) ?_
 by_cases h1:a<=n
 ·by_cases h2:n<=b
  ·rw[show inB n a b=true by simp[inB,h1,h2]]
   simp(disch:=try exact dI) only[QN,push_cast,seval]
  ·rw[show inB n a b=false by simp[inB,h2]]
   simp(disch:=try exact dI) only[QN,push_cast,seval]
 ·rw[show inB n a b=false by simp[inB,h1]]
  simp(disch:=try exact dI) only[QN,push_cast,seval]
def lim (nm:List UInt8)(lo hi:Int)(b1 b2 b3 b4 b5:Bool):PV:=.agg [.str nm,.int .i64 lo,.int .i64 hi,.bool b1,.bool b2,.bool b3,.bool b4,.bool b5]
def lY (b1 b2 b3 b4 b5:Bool):Typ->Bool
 | .mk k m M s w e f=>(!b1&&!(decide (m=0)&&decide (M=0)))||((!b2&&!decide (s=0))||((!b3&&!decide (w.length=0))||((!b4&&!decide (e.length=0))||(!b5&&!decide (f.length=0)))))
theorem CG (b:Bool)(n:Nat):(b=false/\(0:Int)<(n:Int)/\¬ n=0)\/(b=false/\¬ (0:Int)<(n:Int)/\n=0)\/b=true:=by
 cases b<;>by_cases h:n=0<;>simp[h];omega
theorem Mq (k m M s:Int)(w:List (List UInt8))(e:List Typ)(f:List TFd)(nm:List UInt8)(lo hi:Int)(b1 b2 b3 b4 b5:Bool):au Tryz.prog aH 196 [(Typ.mk k m M s w e f).pv,lim nm lo hi b1 b2 b3 b4 b5] (.int .i64 (if lY b1 b2 b3 b4 b5 (.mk k m M s w e f)=true then 3 else 0)):=by
 obtain⟨r,hr⟩:∃ r,r=lY b1 b2 b3 b4 b5 (.mk k m M s w e f):=⟨_,rfl⟩
 rw[<- hr]
 refine au.intro S6.2 (by simp[S6]) ?_
 have h1:(b1=false/\¬ m=0)\/(b1=false/\m=0/\¬ M=0)\/(b1=false/\m=0/\M=0)\/b1=true:=by cases b1<;>simp<;>omega
 have h2:(b2=false/\¬ s=0)\/(b2=false/\s=0)\/b2=true:=by cases b2<;>simp<;>omega
 have h3:=CG b3 w.length
 have h4:=CG b4 e.length
 have h5:=CG b5 f.length
 rcases h1 with ⟨rfl,a⟩ | ⟨rfl,a,b⟩ | ⟨rfl,a,b⟩ | rfl
 all_goals first | (have:=hend;skip) | (refine cQ (c:=true) hr ?_ ?_;(focus (simp[lY, *];done));rintro rfl;have hend:=trivial;clear h2 h3 h4 h5) | rcases h2 with ⟨rfl,a2⟩ | ⟨rfl,a2⟩ | rfl
 all_goals first | (have:=hend;skip) | (refine cQ (c:=true) hr ?_ ?_;(focus (simp[lY, *];done));rintro rfl;have hend:=trivial;clear h3 h4 h5) | rcases h3 with ⟨rfl,a3,c3⟩ | ⟨rfl,a3,c3⟩ | rfl
 all_goals first | (have:=hend;skip) | (refine cQ (c:=true) hr ?_ ?_;(focus (simp[lY, *];done));rintro rfl;have hend:=trivial;clear h4 h5) | rcases h4 with ⟨rfl,a4,c4⟩ | ⟨rfl,a4,c4⟩ | rfl
 all_goals first | (have:=hend;skip) | (refine cQ (c:=true) hr ?_ ?_;(focus (simp[lY, *];done));rintro rfl;have hend:=trivial;clear h5) | rcases h5 with ⟨rfl,a5,c5⟩ | ⟨rfl,a5,c5⟩ | rfl
 all_goals first | (have:=hend;skip) | (refine cQ (c:=true) hr ?_ ?_;(focus (simp[lY, *];done));rintro rfl) | (refine cQ (c:=false) hr ?_ ?_;(focus (simp[lY, *];done));rintro rfl)
 all_goals clear hr
 all_goals simp(disch:=try exact dI) only[S6,Ul,lim, *,push_cast,seval]
