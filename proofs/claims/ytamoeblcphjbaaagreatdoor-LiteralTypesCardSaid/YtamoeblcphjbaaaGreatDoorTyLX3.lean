/- A part. -/
import Derived.Test.YtamoeblcphjbaaaGreatDoorTyL12
set_option linter.unusedVariables false
set_option linter.unusedSimpArgs false
set_option maxRecDepth 100000
open List renaming mem_singleton->XE,mem_append->Xk,length_append->WF,length_singleton->Xi,length_nil->WL,nil_append->WO,cons_append->WQ,append_nil->W7,flatMap_cons->Xf,append_assoc->WS,length_cons->WG,drop_succ_cons->XZ,singleton_append->Xc
open Bool renaming false_eq_true->Xz,and_eq_true->WT
open UInt8 renaming toNat_inj->XV,ofNat->Xn,toNat_ofNat'->XD
namespace Go.Proofs.YtamoeblcphjbaaaGreatDoor
open Go Go.Ab
theorem fg:bX.ok:=by
 unfold bX
 rw[WA]
 exact⟨bD,bD,bD,bD,by simp,by simp,by simp,by simp,by simp,by simp⟩
theorem iS {k a b c:Int}(hk:I64 k)(ha:I64 a)(hb:I64 b)(hc:I64 c):(Typ.mk k a b c [] [] []).ok:=by
 rw[WA]
 exact⟨hk,ha,hb,hc,by simp,by simp,by simp,by simp,by simp,by simp⟩
section
variable {s:List UInt8}{kind:Rd->Typ×Rd}{val:Rd->Val×Rd}
theorem qK (hk:KF kind s){R:Rd}(hR:OkR R)(hT:OkT R)(hs:R.s=s) :
  cE R (cR R).2/\cE R (uP R).2/\cE R (sh R).2/\cE R (aw (sh R).2 [58])/\cE R (jp kind R).2/\cE R (At kind R)/\cE R (ny kind R).2/\(jp kind R).1.ok/\((ny kind R).2.e=0->R.now.pos<(ny kind R).2.now.pos)/\I64 (cR R).1/\(uP R).1.length<=65536:=by
 obtain⟨a,a2,a3⟩:=cG hR hT
 obtain⟨b,b2⟩:=qL a.1 a.2.1
 have ab:cE R (uP R).2:=a.trans b
 have c:cE R (sh R).2:=ab.trans (lQ ab.1 ab.2.1).1
 have d:=c.trans (aO (t:=[58]) c.1 c.2.1)
 obtain⟨k1,k2,k3⟩:=hk _ d.1 d.2.1 (d.2.2.1.trans hs)
 have e:cE R (jp kind R).2:=d.trans k2
 have f:cE (jp kind R).2 (At kind R):=by
  unfold At
  split
  ·exact br (by decide)
  ·exact .refl e.1 e.2.1
 have g:cE (At kind R) (ny kind R).2:=(lQ (e.trans f).1 (e.trans f).2.1).1
 refine⟨a,ab,c,d,e,e.trans f,(e.trans f).trans g,k1,fun he=>?_,a2,b2⟩
 have q1:=(f.trans g).2.2.2 he
 have q2:=k3 q1.1
 have q3:=(d.2.2.2 (k2.2.2.2 q1.1).1).2
 unfold jp at q1
 omega
theorem vW (hk:KF kind s)(hv:ye val s){R:Rd}(hR:OkR R)(hT:OkT R)(hs:R.s=s) :
  (pU kind val R).1.ok/\cE R (pU kind val R).2/\((pU kind val R).2.e=0->R.now.pos<(pU kind val R).2.now.pos):=by
 obtain⟨_,_,_,_,_,_,g,k1,gp,a2,b2⟩:=qK hk hR hT hs
 unfold pU
 generalize ny kind R=Z at *
 generalize (jp kind R).1=t at *
 split
 ·obtain⟨v1,v2,v3⟩:=hv Z.2 g.1 g.2.1 (g.2.2.1.trans hs)
  refine⟨?_,g.trans v2,fun he=>?_⟩
  ·rw[Ws]
   refine⟨a2,by omega,d9 (by omega) (by omega),k1,by simp,fun x hx=>?_⟩
   rw[XE.1 hx];exact v1
  ·have q1:=v2.2.2.2 he
   have q2:=gp q1.1
   simp only at he ⊢
   omega
 ·refine⟨?_,g,gp⟩
  rw[Ws]
  refine⟨a2,by omega,?_,k1,by simp,by simp⟩
  split<;>exact d9 (by omega) (by omega)
def V8 (fld:Rd->TFd×Rd)(s:List UInt8):Prop:=
 ∀ R,OkR R->OkT R->R.s=s->(fld R).1.ok/\cE R (fld R).2/\((fld R).2.e=0->R.now.pos<(fld R).2.now.pos)
variable {fld:Rd->TFd×Rd}
theorem Ly {k:Nat}{b:Bool}{l:List TFd}{R:Rd}(h:¬ R.e=0):kB fld k b l R=(l,R):=by
 cases k with
 | zero=>rfl
 | succ k=>rw[kB];exact if_neg h
theorem EP {k:Nat}{l:List TFd}{R:Rd}(h:R.e=0):kB fld (k+1) true l R=kB fld k false (l++[(fld R).1]) (fld R).2:=by
 rw[kB,if_pos h,if_pos rfl]
theorem EO {k:Nat}{l:List TFd}{R:Rd}(h:R.e=0)(hl:0<l.length)(hi:isT R [44]=true):kB fld (k+1) false l R=kB fld k false (l++[(fld (bi R)).1]) (fld (bi R)).2:=by
 rw[kB,if_pos h,if_neg (by decide),if_pos hl]
 simp only[bE,if_pos hi]
 rfl
theorem EN {k:Nat}{l:List TFd}{R:Rd}(h:R.e=0)(hl:0<l.length)(hi:isT R [44]=false):kB fld (k+1) false l R=(l,R):=by
 rw[kB,if_pos h,if_neg (by decide),if_pos hl]
 have:bE R [44]=(false,R):=by unfold bE;rw[if_neg (by rw[hi];decide)]
 simp only[this]
 rfl
theorem EM {k:Nat}{l:List TFd}{R:Rd}(hl:¬ 0<l.length):kB fld k false l R=(l,R):=by
 cases k with
 | zero=>rfl
 | succ k=>
   rw[kB]
   split
   ·simp only[Xz,if_false,if_neg hl]
   ·rfl
theorem Lx (hf:V8 fld s):∀ (k:Nat) (b:Bool) (l:List TFd) (R:Rd),OkR R->OkT R->R.s=s->(∀ x∈l,x.ok) ->
  (∀ x∈(kB fld k b l R).1,x.ok)/\cE R (kB fld k b l R).2/\(kB fld k b l R).1.length<=l.length+k
 | 0,b,l,R,h1,h2,h3,h4=>⟨h4,.refl h1 h2,Nat.le_refl _⟩
 | k+1,b,l,R,h1,h2,h3,h4=>by
   have stay:(∀ x∈(l,R).1,x.ok)/\cE R (l,R).2/\(l,R).1.length<=l.length+(k+1):=⟨h4,.refl h1 h2,by simp only;omega⟩
   have go:∀ R1,cE R R1->(∀ x∈(kB fld k false (l++[(fld R1).1]) (fld R1).2).1,x.ok)/\cE R (kB fld k false (l++[(fld R1).1]) (fld R1).2).2/\(kB fld k false (l++[(fld R1).1]) (fld R1).2).1.length<=l.length+(k+1):=fun R1 hst=>by
    obtain⟨g1,g2,_⟩:=hf R1 hst.1 hst.2.1 (hst.2.2.1.trans h3)
    generalize fld R1=q at *
    obtain⟨k1,k2,k3⟩:=Lx hf k false (l++[q.1]) q.2 g2.1 g2.2.1 (g2.2.2.1.trans (hst.2.2.1.trans h3)) (fun x hx=>by
     rcases Xk.1 hx with hx | hx
     ·exact h4 x hx
     ·rw[XE.1 hx];exact g1)
    refine⟨k1,hst.trans (g2.trans k2),?_⟩
    rw[WF,Xi] at k3
    omega
   by_cases h0:R.e=0
   ·cases b with
    | true=>rw[EP h0];exact go R (.refl h1 h2)
    | false=>
      by_cases hl:0<l.length
      ·cases hi:isT R [44] with
       | true=>rw[EO h0 hl hi];exact go (bi R) (bq h1 h2).1
       | false=>rw[EN h0 hl hi];exact stay
      ·rw[EM hl];exact stay
   ·rw[Ly h0];exact stay
end
theorem KJ {k:Nat}{b:Bool}{l:List (List UInt8)}{R:Rd}(h:¬ R.e=0):kY k b l R=(l,R):=by
 cases k with
 | zero=>rfl
 | succ k=>rw[kY];exact if_neg h
theorem By {k:Nat}{l:List (List UInt8)}{R:Rd}(h:R.e=0):kY (k+1) true l R=kY k false (l++[(bV R 3).1.bytes]) (bV R 3).2:=by
 rw[kY,if_pos h,if_pos rfl]
theorem Bx {k:Nat}{l:List (List UInt8)}{R:Rd}(h:R.e=0)(hi:isT R [124]=true):kY (k+1) false l R=kY k false (l++[(bV (bi R) 3).1.bytes]) (bV (bi R) 3).2:=by
 rw[kY,if_pos h,if_neg (by decide)]
 simp only[bE,if_pos hi]
 rfl
theorem Bw {k:Nat}{l:List (List UInt8)}{R:Rd}(h:R.e=0)(hi:isT R [124]=false):kY (k+1) false l R=(l,R):=by
 rw[kY,if_pos h,if_neg (by decide)]
 have:bE R [124]=(false,R):=by unfold bE;rw[if_neg (by rw[hi];decide)]
 simp only[this]
 rfl
theorem KI:∀ (k:Nat) (b:Bool) (l:List (List UInt8)) (R:Rd),OkR R->OkT R->(∀ x∈l,x.length<=300000) ->
  (∀ x∈(kY k b l R).1,x.length<=300000)/\cE R (kY k b l R).2/\(kY k b l R).1.length<=l.length+k
 | 0,b,l,R,h1,h2,h4=>⟨h4,.refl h1 h2,Nat.le_refl _⟩
 | k+1,b,l,R,h1,h2,h4=>by
   have stay:(∀ x∈(l,R).1,x.length<=300000)/\cE R (l,R).2/\(l,R).1.length<=l.length+(k+1):=⟨h4,.refl h1 h2,by simp only;omega⟩
   have go:∀ R1,cE R R1->(∀ x∈(kY k false (l++[(bV R1 3).1.bytes]) (bV R1 3).2).1,x.length<=300000)/\cE R (kY k false (l++[(bV R1 3).1.bytes]) (bV R1 3).2).2/\(kY k false (l++[(bV R1 3).1.bytes]) (bV R1 3).2).1.length<=l.length+(k+1):=fun R1 hst=>by
    have g2:=dX (k:=3) hst.1 hst.2.1
    have g1:=(BP (k:=3) hst.2.1).2
    generalize bV R1 3=q at *
    obtain⟨k1,k2,k3⟩:=KI k false (l++[q.1.bytes]) q.2 g2.1 g2.2.1 (fun x hx=>by
     rcases Xk.1 hx with hx | hx
     ·exact h4 x hx
     ·rw[XE.1 hx];exact g1)
    refine⟨k1,hst.trans (g2.trans k2),?_⟩
    rw[WF,Xi] at k3
    omega
   by_cases h0:R.e=0
   ·cases b with
    | true=>rw[By h0];exact go R (.refl h1 h2)
    | false=>
      cases hi:isT R [124] with
      | true=>rw[Bx h0 hi];exact go (bi R) (bq h1 h2).1
      | false=>rw[Bw h0 hi];exact stay
   ·rw[KJ h0];exact stay
section
variable {s:List UInt8}{kind:Rd->Typ×Rd}{val:Rd->Val×Rd}
theorem B7 (hsl:s.length<=65536)(hk:KF kind s)(hv:ye val s){R:Rd}(hR:OkR R)(hT:OkT R)(hs:R.s=s){k:Int}(hk1:0<=k/\k<=10) :
  (cm kind val k R).1.ok/\cE R (cm kind val k R).2:=by
 unfold cm
 split
 ·have a:=cG hR hT
  have b:=a.1.trans (aO (t:=[44]) a.1.1 a.1.2.1)
  have c:=dK (b:=oS (cR R).1) (fun R h ht=>pc _ h ht) b.1 b.2.1
  exact⟨iS (d9 (by omega) (by omega)) c.2.1 c.2.2 a.2.1,b.trans c.1⟩
 split
 ·have c:=dK (b:=fun R=>aR R bU) (fun R h ht=>df bU pw h ht) hR hT
  exact⟨iS (d9 (by omega) (by omega)) c.2.1 c.2.2 bD,c.1⟩
 split
 ·have c:=dK (b:=fun R=>aR R bG) (fun R h ht=>df bG pu h ht) hR hT
  exact⟨iS (d9 (by omega) (by omega)) c.2.1 c.2.2 bD,c.1⟩
 split
 ·obtain⟨k1,k2,k3⟩:=Lx (fld:=pU kind val) (fun R h ht q=>vW hk hv h ht q) (R.s.length+3) (!isT R [41]) [] R hR hT hs (fun x hx=>by cases hx)
  refine⟨?_,k2⟩
  simp only[WL] at k3
  rw[WA]
  exact⟨d9 (by omega) (by omega),bD,bD,bD,by simp,by simp,by simp,by simp,by rw[hs] at k3 ⊢;omega,k1⟩
 split
 ·obtain⟨k1,k2,k3⟩:=KI (R.s.length+3) true [] R hR hT (fun x hx=>by cases hx)
  refine⟨?_,k2⟩
  simp only[WL] at k3
  rw[WA]
  exact⟨d9 (by omega) (by omega),bD,bD,bD,by rw[hs] at k3 ⊢;omega,fun x hx=>by have:=k1 x hx;omega,by simp,by simp,by simp,by simp⟩
 ·have c:=dK (b:=cR) (fun R h ht=>⟨(cG h ht).1,(cG h ht).2.1⟩) hR hT
  simp only
  split
  ·have d:=c.1.trans (aO (t:=[44]) c.1.1 c.1.2.1)
   obtain⟨k1,k2,_⟩:=hk _ d.1 d.2.1 (d.2.2.1.trans hs)
   refine⟨?_,d.trans k2⟩
   rw[WA]
   refine⟨d9 (by omega) (by omega),c.2.1,c.2.2,bD,by simp,by simp,by simp,fun x hx=>?_,by simp,by simp⟩
   rw[XE.1 hx];exact k1
  ·exact⟨iS (d9 (by omega) (by omega)) c.2.1 c.2.2 bD,c.1⟩
end
theorem r6 (t:List UInt8):0<=bH t/\bH t<=10:=by
 unfold bH uG
 simp only[Eb]
 repeat' split
 all_goals omega
theorem D4 {val:Rd->Val×Rd}{f:Nat}{R:Rd}(h:¬ R.e=0):cj val f R=(bX,R):=by
 cases f<;>(unfold cj;rw[if_neg h])
theorem pG {val:Rd->Val×Rd}{f:Nat}{R:Rd}(h:R.e=0)(hk:R.now.kind≠1):cj val f R=(bX,ba R R.now.pos 13):=by
 cases f<;>(unfold cj;rw[if_pos h,if_pos hk])
theorem wV {val:Rd->Val×Rd}{R:Rd}(h:R.e=0)(hk:R.now.kind=1):cj val 0 R=(bX,ba R R.now.pos 23):=by
 unfold cj;rw[if_pos h,if_neg (fun q=>q hk)]
theorem Lo {val:Rd->Val×Rd}{f:Nat}{R:Rd}(h:R.e=0)(hk:R.now.kind=1)(hw:bH R.now.text=0):cj val (f+1) R=(bX,ba (bi R) R.now.pos 13):=by
 rw[cj,if_pos h,if_neg (fun q=>q hk),if_pos hw]
theorem pF {val:Rd->Val×Rd}{f:Nat}{R:Rd}(h:R.e=0)(hk:R.now.kind=1)(hw:bH R.now.text=1):cj val (f+1) R=(.mk 1 0 0 0 [] [] [],bi R):=by
 rw[cj,if_pos h,if_neg (fun q=>q hk),if_neg (by rw[hw];decide),if_pos hw]
theorem D3 {val:Rd->Val×Rd}{f:Nat}{R:Rd}(h:R.e=0)(hk:R.now.kind=1)(h0:¬ bH R.now.text=0)(h1:¬ bH R.now.text=1) :
  cj val (f+1) R=((cm (cj val f) val (bH R.now.text) (aw (bi R) [40])).1,aw (cm (cj val f) val (bH R.now.text) (aw (bi R) [40])).2 [41]):=by
 rw[cj,if_pos h,if_neg (fun q=>q hk),if_neg h0,if_neg h1]
theorem Og {val:Rd->Val×Rd}(s:List UInt8)(hsl:s.length<=65536)(hv:ye val s):∀ f,KF (cj val f) s
 | 0=>fun R hR hT hs=>by
   by_cases h0:¬ R.e=0
   ·rw[D4 h0];exact⟨fg,.refl hR hT,fun h=>absurd h h0⟩
   have h0:R.e=0:=Classical.not_not.1 h0
   by_cases hk:¬ R.now.kind=1
   ·rw[pG h0 hk];exact⟨fg,br (by decide),fun h=>absurd h (bY (by decide))⟩
   rw[wV h0 (Classical.not_not.1 hk)];exact⟨fg,br (by decide),fun h=>absurd h (bY (by decide))⟩
 | f+1=>fun R hR hT hs=>by
   by_cases h0:¬ R.e=0
   ·rw[D4 h0];exact⟨fg,.refl hR hT,fun h=>absurd h h0⟩
   have h0:R.e=0:=Classical.not_not.1 h0
   by_cases hk:¬ R.now.kind=1
   ·rw[pG h0 hk];exact⟨fg,br (by decide),fun h=>absurd h (bY (by decide))⟩
   have hk:R.now.kind=1:=Classical.not_not.1 hk
   obtain⟨a1,a2⟩:=bq hR hT
   have key:∀ (R':Rd),cE (bi R) R'->cE R R'/\(R'.e=0->R.now.pos<R'.now.pos):=fun R' hst=>⟨a1.trans hst,fun he=>by
    have q1:=hst.2.2.2 he
    have q2:=a2 q1.1 (by rw[hk];decide)
    omega⟩
   by_cases w0:bH R.now.text=0
   ·rw[Lo h0 hk w0];exact⟨fg,key _ (br (by decide))⟩
   by_cases w1:bH R.now.text=1
   ·rw[pF h0 hk w1]
    exact⟨iS (d9 (by omega) (by omega)) bD bD bD,key _ (.refl a1.1 a1.2.1)⟩
   rw[D3 h0 hk w0 w1]
   have b:=aO (t:=[40]) a1.1 a1.2.1
   obtain⟨k1,k2⟩:=B7 hsl (Og s hsl hv f) hv b.1 b.2.1 (b.2.2.1.trans (a1.2.2.1.trans hs)) (r6 R.now.text)
   exact⟨k1,key _ (b.trans (k2.trans (aO k2.1 k2.2.1)))⟩
section
variable {s s':List UInt8}{kind:Rd->Typ×Rd}{val:Rd->Val×Rd}
variable {fld:Rd->TFd×Rd}
end
def A (s:List UInt8)(i:Nat):Rd:=bi ⟨s,i,{},0,0⟩
theorem UZ {R:Rd}(he:R.e=0)(ho:R.off=0):bi R=A R.s R.next:=by
 obtain⟨s,n,w,e,o⟩:=R
 simp only at he ho
 subst he;subst ho
 rfl
theorem S9 {s:List UInt8}{i:Nat}(h:s.length<=i):A s i=⟨s,i,{ pos:=i },0,0⟩:=by
 have e:bR aW s i=i:=Cm h
 have:=Gf (R:=⟨s,i,{},0,0⟩) rfl (by simp only;rw[e];exact h)
 rw[A,this]
 simp only[e]
theorem PG {s:List UInt8}{i:Nat}{c:UInt8}(hc:s[i]? = some c)(hb:aW c=false):A s i=dH (fc ⟨s,i,{ pos:=i },0,0⟩ i c) i:=by
 have e:bR aW s i=i:=by rw[wa hc,if_neg (by rw[hb];decide)]
 have:=Ge (R:=⟨s,i,{},0,0⟩) (c:=c) rfl (by simp only;rw[e];exact hc)
 rw[A,this]
 simp only[e]
theorem nv {s:List UInt8}{i:Nat}{c:UInt8}(hc:s[i]? = some c)(hb:aW c=true):A s i=A s (i+1):=by
 have e:bR aW s i=bR aW s (i+1):=by rw[wa hc,if_pos hb]
 unfold A bi
 simp only[e]
 rw[if_pos trivial,if_pos trivial]
theorem bt {s r:List UInt8}{i:Nat}{c:UInt8}(h:s.drop i=c::r):s[i]? = some c/\s.drop (i+1)=r:=by
 refine⟨?_,?_⟩
 ·have:=congrArg (fun l=>l[0]?) h
  simpa using this
 ·have:=congrArg (fun l=>l.drop 1) h
  simpa[List.drop_drop] using this
theorem aQ {s a b:List UInt8}{i:Nat}(h:s.drop i=a++b):s.drop (i+a.length)=b:=by
 have:=congrArg (fun l=>l.drop a.length) h
 simpa[List.drop_drop] using this
theorem en {s a b:List UInt8}{i:Nat}(h:s.drop i=a++b):(s.take (i+a.length)).drop i=a:=by
 rw[List.drop_take,h,show i+a.length - i=a.length by omega]
 simp
theorem OJ (c:UInt8)(h:c.toNat<32\/c.toNat=127):nH 0 (qx c)=some c.toNat/\(qx c).length<=2/\1<=(qx c).length/\gu c.toNat=some [c]/\∀ b∈qx c,b≠125:=by
 have key:∀ c:UInt8,(c.toNat<32\/c.toNat=127)->nH 0 (qx c)=some c.toNat/\(qx c).length<=2/\1<=(qx c).length/\gu c.toNat=some [c]/\(qx c).all (fun b=>!decide (b=125))=true:=fP (by decide +kernel)
 obtain⟨h1,h2,h3,h4,h5⟩:=key c h
 refine⟨h1,h2,h3,h4,fun b hb=>?_⟩
 have:=List.all_eq_true.1 h5 b hb
 simpa using this
theorem xO:∀ (a r:List UInt8),(∀ b∈a,b≠125)->ki 125 (a++125::r)=some (a,r)
 | [],r,_=>by rw[WO,ki,if_pos rfl]
 | c::a,r,h=>by
   rw[WQ,ki,if_neg (h c (by simp)),xO a r fun b hb=>h b (List.mem_cons_of_mem _ hb)];rfl
theorem oI:sY 34=some 34/\sY 92=some 92/\sY 110=some 10/\sY 114=some 13/\sY 116=some 9/\sY 117=none:=by decide
theorem nU:∀ (t r:List UInt8) (f i:Nat) (o:List UInt8),(t.flatMap dz).length<f->kK f (t.flatMap dz++34::r) i o = .done (o++t) (i+(t.flatMap dz).length+1)
 | [],r,f,i,o,hf=>by
   obtain⟨f,rfl⟩:∃ g,f=g+1:=⟨f - 1,by simp at hf;omega⟩
   rw[List.flatMap_nil,WO,jL rfl,W7];rfl
 | c::t,r,f,i,o,hf=>by
   have ih:=nU t r
   rw[Xf,WF] at hf
   rw[Xf,WS,WF]
   generalize t.flatMap dz=M at *
   obtain⟨f,rfl⟩:∃ g,f=g+1:=⟨f - 1,by omega⟩
   have one:∀ (b d:UInt8),sY b=some d->dz c=[92,b]->c=d->kK (f+1) (dz c++(M++34::r)) i o = .done (o++c::t) (i+((dz c).length+M.length)+1):=by
    intro b d hk he hcd
    rw[he] at hf ⊢
    simp only[WG,WL] at hf
    rw[WQ,WQ,WO,fo rfl (by simp),E9 hk,if_pos rfl]
    simp only[XZ,List.drop_zero]
    rw[ih f _ _ (by omega),<- hcd,WS]
    simp only[WG,WL,Xc]
    congr 1;omega
   by_cases h1:c.toNat=34\/c.toNat=92
   ·rcases h1 with h | h
    ·have hc:c=34:=XV.1 (by simpa using h)
     exact one c 34 (by rw[hc];exact oI.1) (JS (.inl h)) hc
    ·have hc:c=92:=XV.1 (by simpa using h)
     exact one c 92 (by rw[hc];exact oI.2.1) (JS (.inr h)) hc
   by_cases h2:c.toNat=10
   ·exact one 110 10 oI.2.2.1 (ON h2) (XV.1 (by simpa using h2))
   by_cases h3:c.toNat=13
   ·exact one 114 13 oI.2.2.2.1 (OM h3) (XV.1 (by simpa using h3))
   by_cases h4:c.toNat=9
   ·exact one 116 9 oI.2.2.2.2.1 (OL h4) (XV.1 (by simpa using h4))
   by_cases h5:c.toNat<32\/c.toNat=127
   ·obtain⟨g1,g2,g3,g4,g5⟩:=OJ c h5
    rw[OK h5 h2 h3 h4] at hf ⊢
    generalize qx c=X at *
    simp only[WG,WF,WL] at hf
    have hU:(117::123::(X++[125]++(M++34::r))).drop 2=X++125::(M++34::r):=by simp
    have hS:ke (117::123::(X++[125]++(M++34::r)))=(([c],X.length+3),0):=by
     rw[E8 oI.2.2.2.2.2,if_pos (by simp[ii]),hU,E7 (xO X _ g5) (by omega),g1]
     simp only[LG,g4]
    rw[WQ,WQ,WQ,fo rfl (by simp),hS,if_pos rfl]
    have hd:(117::123::(X++[125]++(M++34::r))).drop (X.length+3)=M++34::r:=by
     rw[show X.length+3=(X.length+1)+1+1 by omega,XZ,XZ]
     have:X.length+1=(X++[125]).length:=by simp
     rw[this,List.drop_left]
    simp only
    rw[hd,ih f _ _ (by omega),WS]
    simp only[WG,WF,WL,Xc]
    congr 1;omega
   ·rw[JR h5 h1] at hf ⊢
    simp only[Xi] at hf
    rw[Xc,dQ (by omega) h5 (by omega),ih f _ _ (by omega),WS]
    simp only[Xi,Xc]
    congr 1;omega
theorem Gv {s r t:List UInt8}{i:Nat}(h:s.drop i=aA t++r)(hv:Lib.validD t=true):A s i=⟨s,i+(aA t).length,{ kind:=3,pos:=i,text:=aA t,bytes:=t },0,0⟩:=by
 have h':s.drop i=34::(t.flatMap dz++34::r):=by rw[h,aA];simp
 obtain⟨hc,hd⟩:=bt h'
 have hl:(t.flatMap dz).length<s.length+1:=by
  have:=congrArg List.length h'
  rw[List.length_drop,WG,WF] at this
  omega
 have hq:(aA t).length=(t.flatMap dz).length+2:=by simp[aA]
 have e:vT ⟨s,i,{ pos:=i },0,0⟩ i=⟨s,i+(aA t).length,{ kind:=3,pos:=i,bytes:=t },0,0⟩:=by
  unfold vT
  simp only
  rw[hd,nU t r _ _ _ hl,bT]
  simp only[WO]
  rw[if_neg (by rw[hv];simp)]
  rw[hq,show i+1+(t.flatMap dz).length+1=i+((t.flatMap dz).length+2) by omega]
 rw[PG hc (by decide)]
 unfold fc
 rw[if_pos (show (34:UInt8).toNat=34 from rfl),e,dH,if_pos rfl]
 simp only
 rw[en h]
theorem Er {n:Nat}(h:n<16):r8 (hxB n)=some n:=by
 have key:∀ k:Fin 16,r8 (hxB k.val)=some k.val:=by decide +kernel
 exact key ⟨n,h⟩
theorem xo:∀ (t r:List UInt8) (i:Nat) (o:List UInt8),kQ (t.flatMap hx2++34::r) i none o = .done (o++t) (i+(t.flatMap hx2).length+1)
 | [],r,i,o=>by rw[List.flatMap_nil,WO,uL rfl,W7];rfl
 | c::t,r,i,o=>by
   have ih:=xo t r
   have hcl:=c.toNat_lt
   rw[Xf,WS,WF]
   generalize t.flatMap hx2=M at *
   unfold hx2
   rw[WQ,WQ,WO,Eu (Er (by omega)),Et (Er (by omega)),ih,
    show Xn (16*(c.toNat / 16)+c.toNat % 16)=c by
     rw[show 16*(c.toNat / 16)+c.toNat % 16=c.toNat by omega];simp,WS]
   simp only[WG,WL,Xc]
   congr 1;omega
theorem VT {s r t:List UInt8}{i:Nat}(h:s.drop i=ox t++r):A s i=⟨s,i+(ox t).length,{ kind:=4,pos:=i,text:=ox t,bytes:=t },0,0⟩:=by
 have h':s.drop i=120::34::(t.flatMap hx2++34::r):=by rw[h,ox];simp
 obtain⟨hc,hd⟩:=bt h'
 obtain⟨hc2,hd2⟩:=bt hd
 have hq:(ox t).length=(t.flatMap hx2).length+3:=by simp[ox]
 have e:xm ⟨s,i,{ pos:=i },0,0⟩ i=⟨s,i+(ox t).length,{ kind:=4,pos:=i,bytes:=t },0,0⟩:=by
  unfold xm
  simp only
  rw[show i+2=i+1+1 from rfl,hd2,xo t r,bT]
  simp only[WO]
  rw[if_neg (fun q=>by cases q.1)]
  rw[hq,show i+1+1+(t.flatMap hx2).length+1=i+((t.flatMap hx2).length+3) by omega]
 rw[PG hc (by decide)]
 unfold fc
 rw[if_neg (by decide),if_pos ⟨rfl,hc2⟩,e,dH,if_pos rfl]
 simp only
 rw[en h]
theorem KO {q:UInt8->Bool}:∀ (N r:List UInt8),N.all q=true->(r.head?.any q)=false->(N++r).takeWhile q=N
 | [],r,_,h=>by
   cases r with
   | nil=>rfl
   | cons c r=>simp at h;simp[h]
 | c::N,r,h1,h2=>by
   simp only[List.all_cons,WT] at h1
   rw[WQ,List.takeWhile_cons,if_pos h1.1,KO N r h1.2 h2]
theorem l7 {q:UInt8->Bool}{s N r:List UInt8}{a:Nat}(h:s.drop a=N++r)(h1:N.all q=true)(h2:(r.head?.any q)=false):bR q s a=a+N.length:=by
 unfold bR;rw[h,KO N r h1 h2]
def nC (r:List UInt8):Prop:=∀ c,r.head? = some c->c=44\/c=93\/c=125\/c=41
theorem B6 {q:UInt8->Bool}{r:List UInt8}(h:nC r)(hq:q 44=false/\q 93=false/\q 125=false/\q 41=false):(r.head?.any q)=false:=by
 cases hr:r.head? with
 | none=>rfl
 | some c=>
   obtain⟨h1,h2,h3,h4⟩:=hq
   show q c=false
   rcases h c hr with rfl | rfl | rfl | rfl<;>assumption
theorem mL {s r:List UInt8}{i:Nat}(h:s.drop i=r):s[i]? = r.head?:=by
 rw[<- h,List.head?_drop]
theorem sX {s w r:List UInt8}{i:Nat}{c:UInt8}{w':List UInt8}(h:s.drop i=w++r)(hw:w=c::w')(hc:aY c=true)(hx:¬ (c.toNat=120/\(w'++r).head? = some 34))(ha:w.all db=true)(hr:(r.head?.any db)=false) :
  A s i=⟨s,i+w.length,{ kind:=1,pos:=i,text:=w },0,0⟩:=by
 have h':s.drop i=c::(w'++r):=by rw[h,hw];rfl
 obtain⟨hci,hd⟩:=bt h'
 have hn:bR db s i=i+w.length:=l7 h ha hr
 have key:∀ c:UInt8,aY c=true->¬ c.toNat=34/\aW c=false:=fP (by decide +kernel)
 obtain⟨k1,k2⟩:=key c hc
 rw[PG hci k2]
 have hx':¬ (c.toNat=120/\(⟨s,i,{ pos:=i },0,0⟩:Rd).s[i+1]? = some 34):=by
  intro q
  apply hx
  refine⟨q.1,?_⟩
  have:=mL hd
  rw[<- this];exact q.2
 unfold fc
 rw[if_neg k1,if_neg hx',if_pos hc]
 simp only
 rw[hn,dH,if_pos rfl]
 simp only
 rw[en h]
theorem nu {s r:List UInt8}{i:Nat}{c:UInt8}(h:s.drop i=c::r)(hc:vP c=true):A s i=⟨s,i+1,{ kind:=5,pos:=i,text:=[c] },0,0⟩:=by
 obtain⟨hci,hd⟩:=bt h
 have key:∀ c:UInt8,vP c=true->¬ c.toNat=34/\aW c=false/\¬ c.toNat=120/\aY c=false/\isD c=false/\¬ c.toNat=45/\¬ c.toNat=46:=fP (by decide +kernel)
 obtain⟨k1,k2,k3,k4,k5,k6,k7⟩:=key c hc
 rw[PG hci k2]
 unfold fc
 rw[if_neg k1,if_neg (fun q=>k3 q.1),if_neg (by rw[k4];decide),if_neg (by rw[k5];rintro (q | q);cases q;exact k6 q),if_neg (fun q=>k7 q.1),if_pos hc]
 simp only
 rw[dH,if_pos rfl]
 simp only
 have:=en (a:=[c]) (b:=r) h
 simp only[Xi] at this
 rw[this]
theorem gv:∀ (k a:Nat),(bn k a).all isD=true
 | 0,_=>rfl
 | k+1,a=>by
   rw[bn,List.all_append,gv k,Bool.true_and]
   have hc:(Xn (48+a % 10)).toNat=48+a % 10:=by rw[XD];omega
   simp only[List.all_cons,List.all_nil,Bool.and_true,isD,hc,WT,decide_eq_true_eq]
   omega
theorem gT {n:Int}(h:IsN n 0):aN n=cl n 0:=by
 obtain⟨h1,h2,_⟩:=h
 have ha:n.natAbs<10 ^ 15:=by
  have:(10:Nat) ^ 15=1000000000000000:=by decide
  omega
 have hs:=fH ha
 have hd:bI 20 n.natAbs=bn (dl n.natAbs) n.natAbs:=by
  have:=su (a:=n.natAbs) (K:=dl n.natAbs) ha (Nat.le_refl _)
  simpa using this
 unfold cl
 rw[if_pos rfl,W7,show max (dl n.natAbs) (0+1) - 0=dl n.natAbs by omega,Nat.pow_zero,Nat.div_one,<- hd]
 unfold aN
 by_cases hn:n<0
 ·rw[if_pos hn,if_pos hn];rfl
 ·rw[if_neg hn,if_neg hn,WO,show n.toNat=n.natAbs by omega]
theorem ob {n:Int}{sc:Nat}(h:IsN n sc):bC (cl n sc)=((n,sc),0):=by
 have hlen:=AI h
 obtain⟨h1,h2,h3⟩:=h
 have ha:n.natAbs<10 ^ 15:=by
  have:(10:Nat) ^ 15=1000000000000000:=by decide
  omega
 have hs:=fH ha
 obtain⟨K,hK⟩:∃ K,K=max (dl n.natAbs) (sc+1) - sc:=⟨_,rfl⟩
 have hK1:1<=K:=by omega
 have haK:n.natAbs / 10 ^ sc<10 ^ K:=by
  refine Nat.div_lt_of_lt_mul ?_
  rw[<- Nat.pow_add]
  exact Nat.lt_of_lt_of_le hs.2.2 (Nat.pow_le_pow_right (by omega) (by omega))
 have hrd:∀ q:List UInt8,q=bn K (n.natAbs / 10 ^ sc)++(if sc=0 then [] else 46::bn sc n.natAbs)->rdS false 0 0 q=(n.natAbs,sc):=by
  intro q hq
  subst hq
  rw[mc,Nat.zero_mul,Nat.zero_add,Nat.mod_eq_of_lt haK]
  by_cases h0:sc=0
  ·subst h0
   rw[if_pos rfl,rdS,Nat.pow_zero,Nat.div_one]
  ·rw[if_neg h0,rdS,if_neg (by decide)]
   have:(false||decide ((46:UInt8)=46))=true:=rfl
   rw[this]
   have:=pn sc (n.natAbs / 10 ^ sc) 0 n.natAbs []
   rw[W7] at this
   rw[this,rdS,Nat.zero_add]
   congr 1
   have:=Nat.div_add_mod n.natAbs (10 ^ sc)
   rw[Nat.mul_comm] at this
   exact this
 have hdec:cl n sc=(if n<0 then [45] else [])++(bn K (n.natAbs / 10 ^ sc)++(if sc=0 then [] else 46::bn sc n.natAbs)):=by unfold cl;rw[<- hK]
 have hall:rdS false 0 0 (cl n sc)=(n.natAbs,sc)/\sgI (cl n sc) n.natAbs=n/\cl n sc≠[]:=by
  rw[hdec]
  obtain⟨c,r,hcr,hc1,hc2⟩:=dZ (k:=K) (a:=n.natAbs / 10 ^ sc) (by omega)
  by_cases hn:n<0
  ·rw[if_pos hn]
   refine⟨?_,?_,by simp⟩
   ·rw[Xc,rdS,if_neg (by decide)]
    exact hrd _ rfl
   ·unfold sgI
    rw[Xc,List.head?_cons,if_pos rfl];omega
  ·rw[if_neg hn,WO]
   refine⟨hrd _ rfl,?_,by rw[hcr];simp⟩
   unfold sgI
   rw[hcr]
   rw[if_neg (by simp;intro q;subst q;simp at hc1)]
   omega
 obtain⟨g1,g2,g3⟩:=hall
 unfold bC
 rw[if_neg g3,if_neg (by omega),g1]
 simp only
 rw[g2,if_pos ⟨⟨h1,h2,h3⟩,rfl⟩]
theorem xL {n:Int}{sc:Nat}(h:IsN n sc):(cl n sc).getLast?≠some 100:=by
 have ha:n.natAbs<10 ^ 15:=by
  have:(10:Nat) ^ 15=1000000000000000:=by decide
  have:=h.1;have:=h.2.1
  omega
 have hs:=fH ha
 have key:∀ (k a:Nat),0<k->(bn k a).getLast?≠some 100:=by
  intro k a hk
  obtain⟨j,rfl⟩:∃ j,k=j+1:=⟨k - 1,by omega⟩
  rw[bn,List.getLast?_concat]
  intro q
  have:=congrArg UInt8.toNat (Option.some.inj q)
  rw[XD] at this
  have h100:(100:UInt8).toNat=100:=rfl
  omega
 unfold cl
 by_cases h0:sc=0
 ·subst h0
  rw[if_pos rfl,W7]
  have hk:=key (max (dl n.natAbs) (0+1) - 0) (n.natAbs / 10 ^ 0) (by omega)
  obtain⟨c,r,hcr,_,_⟩:=dZ (k:=max (dl n.natAbs) (0+1) - 0) (a:=n.natAbs / 10 ^ 0) (by omega)
  rw[hcr] at hk ⊢
  rw[List.getLast?_append]
  cases hl:(c::r).getLast? with
  | none=>simp at hl
  | some x=>rw[hl] at hk;simpa using hk
 ·rw[if_neg h0]
  have hk:=key sc n.natAbs (by omega)
  obtain⟨c,r,hcr,_,_⟩:=dZ (k:=sc) (a:=n.natAbs) (by omega)
  rw[hcr] at hk ⊢
  rw[List.getLast?_append,List.getLast?_append,List.getLast?_cons_cons]
  cases hl:(c::r).getLast? with
  | none=>simp at hl
  | some x=>rw[hl] at hk;simpa using hk
theorem m7 {n:Int}{sc:Nat}(h:IsN n sc):∃ sg N F,cl n sc=sg++(N++F)/\(sg=[]\/sg=[45])/\(∃ c r,N=c::r/\isD c=true)/\N.all isD=true/\(sc=0->F=[])/\(sc≠0->∃ M c r,F=46::M/\M=c::r/\M.all isD=true):=by
 have ha:n.natAbs<10 ^ 15:=by
  have:(10:Nat) ^ 15=1000000000000000:=by decide
  have:=h.1;have:=h.2.1
  omega
 have hs:=fH ha
 refine⟨if n<0 then [45] else [],bn (max (dl n.natAbs) (sc+1) - sc) (n.natAbs / 10 ^ sc),if sc=0 then [] else 46::bn sc n.natAbs,rfl,?_,?_,gv _ _,fun h0=>if_pos h0,fun h0=>?_⟩
 ·split
  ·exact .inr rfl
  ·exact .inl rfl
 ·obtain⟨c,r,hcr,h1,h2⟩:=dZ (k:=max (dl n.natAbs) (sc+1) - sc) (a:=n.natAbs / 10 ^ sc) (by omega)
  exact⟨c,r,hcr,by simp[isD,h1,h2]⟩
 ·obtain⟨c,r,hcr,_,_⟩:=dZ (k:=sc) (a:=n.natAbs) (by omega)
  exact⟨_,c,r,if_neg h0,hcr,gv _ _⟩
theorem DW {s:List UInt8}{i:Nat}{c:UInt8}(hc:isD c=true\/c=45):fc ⟨s,i,{ pos:=i },0,0⟩ i c=rC ⟨s,i,{ pos:=i },0,0⟩ i/\aW c=false:=by
 have key:∀ c:UInt8,(isD c=true\/c=45)->¬ c.toNat=34/\¬ c.toNat=120/\aY c=false/\(isD c=true\/c.toNat=45)/\aW c=false:=fP (by decide +kernel)
 obtain⟨k1,k2,k3,k4,k5⟩:=key c hc
 refine⟨?_,k5⟩
 unfold fc
 rw[if_neg k1,if_neg (fun q=>k2 q.1),if_neg (by rw[k3];decide),if_pos k4]
theorem Ls {c:UInt8}(h:isD c=true):c≠45/\c≠46/\c≠100:=by
 have key:∀ c:UInt8,isD c=true->c≠45/\c≠46/\c≠100:=fP (by decide +kernel)
 exact key c h
theorem S8 {s r:List UInt8}{i:Nat}{n:Int}{sc:Nat}(hn:IsN n sc)(b:Bool)(hb:b=true->sc=0)(h:s.drop i=cl n sc++((if b=true then [100] else [])++r))(hr:nC r) :
  A s i=⟨s,i+(cl n sc++(if b=true then [100] else [])).length,{ kind:=2,pos:=i,text:=cl n sc++(if b=true then [100] else []),num:=n,sc:=sc,dec:=b||decide (sc≠0),exa:=b },0,0⟩:=by
 have hp:=ob hn
 have hlast:=xL hn
 obtain⟨sg,N,F,e,hsg,⟨c0,N',hN,hc0⟩,hNa,hF0,hF1⟩:=m7 hn
 have hh:s.drop i=sg++(N++(F++((if b=true then [100] else [])++r))):=by rw[h,e];simp
 obtain⟨a,hadef⟩:∃ a,a=i+sg.length:=⟨_,rfl⟩
 have hda:s.drop a=N++(F++((if b=true then [100] else [])++r)):=by rw[hadef];exact aQ hh
 have hfd:(F++((if b=true then [100] else [])++r)).head?.any isD=false:=by
  by_cases h0:sc=0
  ·rw[hF0 h0,WO]
   cases b with
   | true=>rfl
   | false=>exact B6 hr (by decide)
  ·obtain⟨M,c,r',hFM,_,_⟩:=hF1 h0
   rw[hFM];rfl
 have hz:bR isD s a=a+N.length:=l7 hda hNa hfd
 have hdz:s.drop (a+N.length)=F++((if b=true then [100] else [])++r):=aQ hda
 have hN1:1<=N.length:=by rw[hN];simp
 obtain⟨c,hc,hcd,hca⟩:∃ c,s[i]? = some c/\(isD c=true\/c=45)/\(if s[i]? = some 45 then i+1 else i)=a:=by
  rcases hsg with rfl | rfl
  ·have:s.drop i=c0::(N'++(F++((if b=true then [100] else [])++r))):=by rw[hh,hN];rfl
   obtain⟨q1,q2⟩:=bt this
   refine⟨c0,q1,.inl hc0,?_⟩
   rw[q1,if_neg (fun q=>(Ls hc0).1 (Option.some.inj q)),hadef];simp
  ·obtain⟨q1,q2⟩:=bt (c:=45) (r:=N++(F++((if b=true then [100] else [])++r))) hh
   exact⟨45,q1,.inr rfl,by rw[q1,if_pos rfl,hadef];rfl⟩
 obtain⟨hlex,hbl⟩:=DW (s:=s) (i:=i) hcd
 have hE:ub s (a+N.length)=(i+(cl n sc++(if b=true then [100] else [])).length,b||decide (sc≠0),b):=by
  have hlen:(cl n sc).length=sg.length+(N.length+F.length):=by rw[e];simp
  by_cases h0:sc=0
  ·have hF:=hF0 h0
   rw[hF,WO] at hdz
   rw[hF] at hlen
   have hd0:decide (sc≠0)=false:=decide_eq_false (fun q=>q h0)
   rw[hd0,Bool.or_false]
   cases b with
   | true=>
     have hz1:=mL hdz
     simp only[if_true,Xc,List.head?_cons] at hz1
     rw[wG (fun q=>by rw[hz1] at q;exact absurd q.1 (by decide)) hz1]
     simp only[if_true,WF,hlen,WL,Xi]
     rw[show a+N.length+1=i+(sg.length+(N.length+0)+1) by omega]
   | false=>
     have hz1:=mL hdz
     simp only[Xz,if_false,WO] at hz1
     have q1:s[a+N.length]?≠some 46:=by
      rw[hz1];intro q
      have:=hr 46 q
      revert this;decide
     have q2:s[a+N.length]?≠some 100:=by
      rw[hz1];intro q
      have:=hr 100 q
      revert this;decide
     rw[ol (fun q=>q1 q.1) q2]
     simp only[Xz,if_false,W7,hlen,WL]
     rw[show a+N.length=i+(sg.length+(N.length+0)) by omega]
  ·have hb0:b=false:=by
    cases b with
    | true=>exact absurd (hb rfl) h0
    | false=>rfl
   subst hb0
   obtain⟨M,c1,M',hFM,hM,hMa⟩:=hF1 h0
   simp only[Xz,if_false,WO] at hdz ⊢
   rw[hFM,WQ] at hdz
   obtain⟨z1,z2⟩:=bt hdz
   have hM1:s[a+N.length+1]? = some c1:=by rw[mL z2,hM];rfl
   have hc1:isD c1=true:=by rw[hM] at hMa;simp only[List.all_cons,WT] at hMa;exact hMa.1
   rw[Dw ⟨z1,by rw[hM1];exact hc1⟩,l7 z2 hMa (B6 hr (by decide)),W7,hlen,hFM,Bool.false_or,decide_eq_true h0]
   rw[show a+N.length+1+M.length=i+(sg.length+(N.length+(46::M).length)) by simp only[WG];omega]
 have htx:s.drop i=(cl n sc++(if b=true then [100] else []))++r:=by rw[h];simp
 have hta:=en htx
 have hcut:fK (cl n sc++(if b=true then [100] else []))=cl n sc:=by
  cases b with
  | true=>simp only[if_true];unfold fK;rw[if_pos (by simp),List.dropLast_concat]
  | false=>simp only[Xz,if_false,W7];unfold fK;rw[if_neg hlast]
 rw[PG hc hbl,hlex,fS (R:=⟨s,i,{ pos:=i },0,0⟩) hca hz (by omega) hE]
 simp only
 rw[hta,hcut,hp,fT,dH,if_pos rfl]
 simp only
 rw[hta]
