/- A part. -/
import Derived.Test.YtamoeblcphjbaaaGreatDoorBlMP6
set_option linter.unusedVariables false
set_option linter.unusedSimpArgs false
set_option maxHeartbeats 16000000
set_option maxRecDepth 100000
open Nat renaming le_refl->UA,zero_le->U8
open List renaming getElem?_eq_some_iff->Up,length_drop->UC,getElem?_eq_getElem->Uo,replicate->U4,mem_of_getElem?->Uw
namespace Go.Proofs.YtamoeblcphjbaaaGreatDoor
open Go Go.Ab
def Nk (M:Mo):Prop:=M.s.length<=65536/\M.nx<=M.s.length
def OkM (M:Mo):Prop:=Nk M/\M.x.length<=65536/\(M.e=0->M.p<=M.nx/\(M.k≠0->M.p<M.nx)/\(M.k=110->M.x≠[])/\(M.k=0->M.p=M.s.length))
theorem uH {M:Mo}{a:Nat}{v:Bool}{Z:Sc}(ha:a<M.s.length)(hz:∀ o j,Z = .done o j->a<j/\j<=M.s.length):a<(dt M a v Z).1.2/\(dt M a v Z).1.2<=M.s.length:=by
 cases Z with
 | done o j=>exact hz o j rfl
 | bad i e=>exact⟨ha,UA _⟩
 | short=>exact⟨ha,UA _⟩
theorem oR (M:Mo)(e:Int)(i:Nat):(cC M e i).nx=M.nx:=by unfold cC;split<;>rfl
theorem tm (M:Mo)(e:Int)(i:Nat):(cC M e i).x=M.x:=by unfold cC;split<;>rfl
theorem Mx (M:Mo)(e:Int)(i:Nat):(cC M e i).k=M.k:=by unfold cC;split<;>rfl
theorem Dv {M:Mo}{e:Int}{i:Nat}(he:e≠0):(cC M e i).e≠0:=by
 unfold cC
 split
 ·exact he
 ·assumption
theorem BB (M:Mo)(a:Nat)(v:Bool)(Z:Sc):(dt M a v Z).2=M\/∃ e i,(dt M a v Z).2=cC M e i:=by
 cases Z with
 | done o j=>
   show (if v=true/\Lib.validD o=false then cC M 16 a else M)=M\/_
   by_cases h:v=true/\Lib.validD o=false
   ·right;exact⟨16,a,if_pos h⟩
   ·left;exact if_neg h
 | bad i e=>exact .inr ⟨_,_,rfl⟩
 | short=>exact .inr ⟨_,_,rfl⟩
theorem vg {M:Mo}{i:Nat}{c:UInt8}(hc:M.s[i]? = some c):i<(rJ M i c).2/\(rJ M i c).2<=M.s.length/\(rJ M i c).1.s=M.s/\(rJ M i c).1.nx=M.nx/\(rJ M i c).1.x=M.x:=by
 have hi:i<M.s.length:=(Up.1 hc).1
 have q2:∀ (N:Mo) (a:Nat) (v:Bool) (Z:Sc),N.s=M.s->N.nx=M.nx->N.x=M.x->(dt N a v Z).2.s=M.s/\(dt N a v Z).2.nx=M.nx/\(dt N a v Z).2.x=M.x:=by
  intro N a v Z h1 h2 h3
  rcases BB N a v Z with h | ⟨e,j,h⟩
  ·rw[h];exact⟨h1,h2,h3⟩
  ·rw[h,cj,oR,tm];exact⟨h1,h2,h3⟩
 unfold rJ
 split
 ·have:=uH (M:={ M with k:=115 }) (a:=i) (v:=true) hi (Z:=ia (M.s.length+1) (M.s.drop (i+1)) (i+1) []) (fun o j h=>by
   have:=io _ _ _ _ h
   rw[UC] at this
   show i<j/\j<=M.s.length
   omega)
  exact⟨this.1,this.2,q2 { M with k:=115 } _ _ _ rfl rfl rfl⟩
 split
 ·have:=uH (M:={ M with k:=120 }) (a:=i) (v:=false) hi (Z:=eb (M.s.drop (i+2)) (i+2) none []) (fun o j h=>by
   have:=iI _ _ _ _ h
   rw[UC] at this
   show i<j/\j<=M.s.length
   omega)
  exact⟨this.1,this.2,q2 { M with k:=120 } _ _ _ rfl rfl rfl⟩
 split
 ·have h1:=df (q:=bA) (s:=M.s) (i:=i+1)
  have h2:=bI (q:=bA) (s:=M.s) (i:=i+1) (by omega)
  exact⟨by simp only;omega,h2,rfl,rfl,rfl⟩
 split
 ·have h1:=df (q:=isD) (s:=M.s) (i:=i+1)
  have h2:=bI (q:=isD) (s:=M.s) (i:=i+1) (by omega)
  have h3:=sJ h2
  exact⟨by simp only;omega,h3.2,rfl,rfl,rfl⟩
 split
 ·rename_i h
  have:=(Up.1 h.2).1
  exact⟨by simp only;omega,by simp only;omega,rfl,rfl,rfl⟩
 split
 ·exact⟨by simp only;omega,by simp only;omega,rfl,rfl,rfl⟩
 ·rw[cj,oR,tm]
  exact⟨by simp only;omega,by simp only;omega,rfl,rfl,rfl⟩
theorem Cd (M:Mo)(i:Nat):lz M i=M\/∃ e,e≠0/\lz M i=cC M e i:=by
 unfold lz
 split
 ·split
  ·exact .inl rfl
  ·rename_i h;exact .inr ⟨_,h,rfl⟩
 ·exact .inl rfl
theorem PU {q:Mo×Nat}{i:Nat}(hs:q.1.s.length<=65536)(h2:q.2<=q.1.s.length)(hn:q.1.nx<=q.1.s.length)(hx:q.1.x.length<=65536) :
  (gX q i).s=q.1.s/\(gX q i).nx<=q.1.s.length/\(gX q i).x.length<=65536:=by
 unfold gX
 split
 ·refine⟨rfl,h2,?_⟩
  simp only[UC,List.length_take];omega
 ·exact⟨rfl,hn,hx⟩
theorem fL {M:Mo}{R:Rd}(hR:OkR R)(hs:M.s=R.s)(h1:R.e=0)(h2:M.e=0)(h3:M.nx=R.next):Sim (nextM M) (aT R):=by
 have hsl:=(hR h1).1
 unfold nextM
 rw[hs,h3]
 by_cases hi:R.s.length<=aN az R.s R.next
 ·rw[tM h1 hi,List.getElem?_eq_none hi]
  exact⟨rfl,.inl ⟨h1,h2,rfl,rfl,.inl ⟨rfl,rfl⟩⟩⟩
 ·obtain⟨c,hc⟩:∃ c,R.s[aN az R.s R.next]? = some c:=⟨_,Uo (by omega)⟩
  rw[tL h1 hc,hc]
  simp only
  rw[if_pos h2]
  have hl:=Kk (s:=R.s) (i:=aN az R.s R.next) (off:=R.off) (bad:=M.bad) hsl hc
  obtain⟨ms,mn,mk,mp,mx,mv,me,mb⟩:=M
  obtain⟨rs,rn,rt,re,ro⟩:=R
  simp only at hs h1 h2 hl ⊢
  subst hs
  subst h1
  subst h2
  exact hl
theorem FC {M:Mo}{R:Rd}(hR:OkR R)(h:Sim M R):Sim (nextM M) (aT R):=by
 obtain⟨hs,h⟩:=h
 rcases h with ⟨h1,h2,h3,h4⟩ | ⟨h1,h2,h3⟩
 ·exact fL hR hs h1 h2 h3
 ·have hMe:¬ M.e=0:=by rw[h2];exact h1
  rw[rB h1]
  unfold nextM
  cases M.s[aN az M.s M.nx]? with
  | none=>exact⟨hs,.inr ⟨h1,h2,h3⟩⟩
  | some c=>
    simp only
    rw[if_neg hMe]
    exact⟨hs,.inr ⟨h1,h2,h3⟩⟩
theorem gP (M:Mo):(nextM M).s=M.s:=by
 unfold nextM
 split
 ·rfl
 ·rename_i c hc
  split
  ·have h2:=vg (M:={ M with nx:=aN az M.s M.nx,k:=0,p:=aN az M.s M.nx,x:=[],v:=[] }) hc
   generalize rJ { M with nx:=aN az M.s M.nx,k:=0,p:=aN az M.s M.nx,x:=[],v:=[] } (aN az M.s M.nx) c=q at *
   have he:(gX q (aN az M.s M.nx)).s=M.s:=by
    unfold gX
    split
    ·exact h2.2.2.1
    ·exact h2.2.2.1
   rcases Cd (gX q (aN az M.s M.nx)) (aN az M.s M.nx) with h | ⟨e,_,h⟩
   ·rw[h];exact he
   ·rw[h,cj];exact he
  ·rfl
theorem Lu {M:Mo}(hM:Nk M):(nextM M).nx<=M.s.length/\(nextM M).x.length<=65536:=by
 obtain⟨hs,hn⟩:=hM
 have hr:=bI (q:=az) hn
 unfold nextM
 split
 ·exact⟨hr,by simp⟩
 ·rename_i c hc
  split
  ·have h2:=vg (M:={ M with nx:=aN az M.s M.nx,k:=0,p:=aN az M.s M.nx,x:=[],v:=[] }) hc
   generalize rJ { M with nx:=aN az M.s M.nx,k:=0,p:=aN az M.s M.nx,x:=[],v:=[] } (aN az M.s M.nx) c=q at *
   obtain⟨_,g2,g3,g4,g5⟩:=h2
   simp only at g2 g3 g4 g5
   have he:=PU (q:=q) (i:=aN az M.s M.nx) (by rw[g3];exact hs) (by rw[g3];exact g2) (by rw[g3,g4];exact hr) (by rw[g5];simp)
   rw[g3] at he
   rcases Cd (gX q (aN az M.s M.nx)) (aN az M.s M.nx) with h | ⟨e,_,h⟩
   ·rw[h];exact he.2
   ·rw[h,oR,tm];exact he.2
  ·exact⟨hr,by simp⟩
def NC (M:Mo):Rd:=⟨M.s,M.nx,{ pos:=M.nx },M.e,M.bad⟩
theorem lr {M:Mo}(h:Nk M):OkR (NC M):=fun _=>⟨h.1,UA _,h.2,fun q=>absurd rfl q⟩
theorem lC {M:Mo}(h:¬ M.e=0):(nextM M).e=M.e:=by
 unfold nextM
 cases M.s[aN az M.s M.nx]? with
 | none=>rfl
 | some c=>simp only;rw[if_neg h]
theorem mX {M:Mo}{R:Rd}(h:Ry M R):(M.k=0↔R.now.kind=0):=by
 obtain⟨_,h⟩:=h
 rcases h with ⟨a,b⟩ | ⟨a,b,_⟩ | ⟨a,b,_⟩ | ⟨a,b,_⟩ | ⟨a,b,_⟩ | ⟨a,h⟩
 ·rw[a,b];simp
 ·rw[a,b];simp
 ·rw[a,b];simp
 ·rw[a,b];simp
 ·rw[a,b];simp
 ·rw[a]
  rcases h with ⟨b,_⟩ | ⟨c,hc,b,_⟩
  ·rw[b];simp
  ·rw[b]
   constructor
   ·intro q
    have:c=0:=UInt8.toNat_inj.1 q
    subst this
    exact absurd hc (by decide)
   ·intro q;cases q
theorem Cl {M:Mo}(h:(nextM M).e=0)(hk:(nextM M).k=0)(hM:Nk M):(nextM M).p=M.s.length:=by
 have h0:M.e=0:=Classical.byContradiction fun q=>by rw[lC q] at h;exact q h
 have hS:=fL (M:=M) (R:=NC M) (lr hM) rfl h0 h0 rfl
 rcases hS.2 with ⟨a,b,c,d⟩ | ⟨a,b,_⟩
 ·have hk':=(mX d).1 hk
  rw[d.1]
  by_cases hi:M.s.length<=aN az M.s M.nx
  ·rw[tM (R:=NC M) h0 hi]
   have:=bI (q:=az) hM.2
   show aN az M.s M.nx=_
   omega
  ·obtain⟨c',hc⟩:∃ c,M.s[aN az M.s M.nx]? = some c:=⟨_,Uo (by omega)⟩
   rw[tL (R:=NC M) h0 hc] at hk' a
   rw[kO] at a
   have:=Pq a
   rw[cW a] at hk'
   exact absurd hk' this
 ·exact absurd (b▸h) a
def QF (M M':Mo):Prop:=OkM M'/\M'.s=M.s/\(M'.e=0->M.e=0/\M.p<=M'.p)
theorem ow {M:Mo}(hM:Nk M):OkM (nextM M):=by
 have hb:=Lu hM
 refine⟨⟨by rw[gP];exact hM.1,by rw[gP];exact hb.1⟩,hb.2,fun h=>?_⟩
 have h0:M.e=0:=Classical.byContradiction fun q=>by rw[lC q] at h;exact q h
 have hS:=fL (M:=M) (R:=NC M) (lr hM) rfl h0 h0 rfl
 have hok:=(nU (lr hM)).1
 rcases hS.2 with ⟨a,b,c,d⟩ | ⟨a,b,_⟩
 ·obtain⟨g1,g2,g3,g4⟩:=hok a
  refine⟨by rw[c,d.1];exact g2,fun q=>?_,fun q=>?_,fun q=>by rw[gP];exact Cl h q hM⟩
  ·rw[c,d.1];exact g4 fun z=>q ((mX d).2 z)
  ·obtain⟨_,h⟩:=d
   rcases h with ⟨a,b⟩ | ⟨a,b,_⟩ | ⟨a,b,_,_,h⟩ | ⟨a,b,_⟩ | ⟨a,b,_⟩ | ⟨a,h⟩
   ·rw[q] at b;cases b
   ·rw[q] at b;cases b
   ·exact h
   ·rw[q] at b;cases b
   ·rw[q] at b;cases b
   ·rcases h with ⟨b,_⟩ | ⟨c,hc,b,_⟩
    ·rw[q] at b;cases b
    ·rw[q] at b
     have:c=110:=UInt8.toNat_inj.1 b.symm
     subst this
     exact absurd hc (by decide)
 ·exact absurd (b▸h) a
theorem m8 {M:Mo}(h:OkM M):QF M (nextM M)/\((nextM M).e=0->M.k≠0->M.p<(nextM M).p):=by
 have h1:=ow h.1
 have key:(nextM M).e=0->M.e=0/\M.nx<=(nextM M).p:=fun he=>by
  have h0:M.e=0:=Classical.byContradiction fun q=>by rw[lC q] at he;exact q he
  have hS:=fL (M:=M) (R:=NC M) (lr h.1) rfl h0 h0 rfl
  rcases hS.2 with ⟨a,b,c,d⟩ | ⟨a,b,_⟩
  ·refine⟨h0,?_⟩
   rw[d.1]
   exact (nU (lr h.1)).2 a
  ·exact absurd (b▸he) a
 refine⟨⟨h1,gP M,fun he=>?_⟩,fun he hk=>?_⟩
 ·obtain⟨h0,h2⟩:=key he
  have:=(h.2.2 h0).1
  exact⟨h0,by omega⟩
 ·obtain⟨h0,h2⟩:=key he
  have:=(h.2.2 h0).2.1 hk
  omega
attribute [local irreducible] vc
structure Tm where
 k:Nat
 p:Nat
 x:List UInt8
 v:List UInt8
section
variable {T:Nat}{p:PV}
end
def T8 (k:Nat):Prop:=k≠110/\k≠115/\k≠120/\k≠91/\k≠123/\k≠119
instance (k:Nat):Decidable (T8 k):=inferInstanceAs (Decidable (_/\_))
theorem r7 {M:Mo}{R:Rd}(h:Sim M R)(h0:R.e=0):M.e=0/\M.nx=R.next/\Ry M R:=by
 rcases h.2 with ⟨_,b,c,d⟩ | ⟨a,_⟩
 ·exact⟨b,c,d⟩
 ·exact absurd h0 a
theorem uq {M:Mo}{R:Rd}(h:Sim M R):(M.e=0↔R.e=0):=by
 rcases h.2 with ⟨a,b,_⟩ | ⟨a,b,_⟩
 ·rw[a,b]
 ·rw[b]
structure Item {α β:Type}(iM:α->Mo->α×Mo)(iR:β->Rd->β×Rd)(Rel:α->β->Prop)(c:UInt8)(s:List UInt8):Prop where
 sim:∀ a b M R,OkM M->OkR R->OkT R->R.s=s->Sim M R->R.e=0->Rel a b->Sim (iM a M).2 (iR b R).2/\((iR b R).2.e=0->Rel (iM a M).1 (iR b R).1)
 err:∀ b R,¬ R.e=0->(iR b R).2=R
 shut:∀ b M R,Sim M R->OkR R->OkT R->R.e=0->isT R [c]=true->(iR b R).2=aP R R.now.pos 13
 stM:∀ a M,OkM M->M.s=s->QF M (iM a M).2
 stR:∀ b R,OkR R->OkT R->R.s=s->R.e=0->bY R (iR b R).2/\((iR b R).2.e=0->R.now.pos<(iR b R).2.now.pos)
theorem Str.int {R Q:Rd}(h:Str R Q):(cm R).1=(cm Q).1/\Str (cm R).2 (cm Q).2:=by
 obtain⟨h1,h2⟩:=h.take 2
 unfold cm
 simp only
 refine⟨h1.2.2.2.1,?_⟩
 rw[<- h2.e,<- h1.2.2.2.2.2.1]
 split
 ·exact h2.fail (by decide)
 ·exact h2
theorem Str.bnd {R Q:Rd}(h:Str R Q)(sc:Int):(mB sc R).1=(mB sc Q).1/\Str (mB sc R).2 (mB sc Q).2:=by
 obtain⟨h1,h2⟩:=h.take 2
 unfold mB
 simp only
 refine⟨h1.2.2.2.1,?_⟩
 rw[<- h2.e,<- h1.2.2.2.2.2.2,<- h1.2.2.2.2.1]
 split
 ·exact h2.fail (by decide)
 ·exact h2
theorem Str.two {R Q:Rd}(h:Str R Q){b:Rd->Int×Rd}(hb:∀ {R Q:Rd},Str R Q->(b R).1=(b Q).1/\Str (b R).2 (b Q).2):(dF b R).1=(dF b Q).1/\Str (dF b R).2 (dF b Q).2:=by
 obtain⟨e1,e2⟩:=hb h
 obtain⟨f1,f2⟩:=hb (e2.expect [46,46])
 unfold dF
 simp only
 rw[e1,f1]
 exact⟨rfl,f2⟩
def TC (s s':List UInt8)(kind:Rd->Typ×Rd):Prop:=∀ R Q,Two s s' R Q->(kind R).1=(kind Q).1/\Str (kind R).2 (kind Q).2
def TU (s s':List UInt8)(fld:Rd->TFd×Rd):Prop:=∀ R Q,Two s s' R Q->(fld R).1=(fld Q).1/\Str (fld R).2 (fld Q).2
section
variable {s s':List UInt8}{kind:Rd->Typ×Rd}{val:Rd->Val×Rd}
theorem Mr (hk:zm kind s)(hk':zm kind s')(hE:TC s s' kind)(vE:Nc s s' val):TU s s' (pl kind val):=fun R Q h=>by
 obtain⟨_,_,_,d,e,f,g,_⟩:=ip hk h.rok h.rtk h.rs
 obtain⟨_,_,_,d',e',f',g',_⟩:=ip hk' h.qok h.qtk h.qs
 obtain⟨a1,a2⟩:=h.str.int
 obtain⟨b1,b2⟩:(qT R).1=(qT Q).1/\Str (qT R).2 (qT Q).2:=a2.name
 obtain⟨c1,c2⟩:(oP R).1=(oP Q).1/\Str (oP R).2 (oP Q).2:=b2.accept [63]
 obtain⟨k1,k2⟩:(gU kind R).1=(gU kind Q).1/\Str (gU kind R).2 (gU kind Q).2:=hE _ _ (h.step d d' (c2.expect [58]))
 have x:Str (zx kind R) (zx kind Q):=by
  unfold zx
  rw[<- k2.is,<- c1]
  split
  ·exact k2.fail (by decide)
  ·exact k2
 obtain⟨q1,q2⟩:(mG kind R).1=(mG kind Q).1/\Str (mG kind R).2 (mG kind Q).2:=x.accept [61]
 obtain⟨v1,v2⟩:=vE _ _ (h.step g g' q2)
 unfold pl
 rw[<- q1,<- a1,<- b1,<- k1,<- c1]
 split
 ·simp only
  rw[v1]
  exact⟨rfl,v2⟩
 ·exact⟨rfl,q2⟩
variable {fld:Rd->TFd×Rd}
theorem Dn (hf:Rs fld s)(hf':Rs fld s')(hE:TU s s' fld):∀ (k j:Nat) (b:Bool) (l:List TFd) (R Q:Rd),Two s s' R Q->msr R<k->msr Q<j ->
  (gq fld k b l R).1=(gq fld j b l Q).1/\Str (gq fld k b l R).2 (gq fld j b l Q).2
 | 0,_,_,_,_,_,_,h,_=>absurd h (by omega)
 | _+1,0,_,_,_,_,_,_,h=>absurd h (by omega)
 | k+1,j+1,b,l,R,Q,h,hk,hj=>by
   by_cases h0:¬ R.e=0
   ·rw[qN h0,qN (by rw[<- h.str.e];exact h0)]
    exact⟨rfl,h.str⟩
   have h0:R.e=0:=Classical.not_not.1 h0
   have q0:Q.e=0:=by rw[<- h.str.e];exact h0
   have go:∀ R1 Q1,bY R R1->bY Q Q1->Str R1 Q1->(gq fld k false (l++[(fld R1).1]) (fld R1).2).1=(gq fld j false (l++[(fld Q1).1]) (fld Q1).2).1/\Str (gq fld k false (l++[(fld R1).1]) (fld R1).2).2 (gq fld j false (l++[(fld Q1).1]) (fld Q1).2).2:=fun R1 Q1 a b st=>by
    obtain⟨_,g2,g3⟩:=hf R1 a.1 a.2.1 (a.2.2.1.trans h.rs)
    obtain⟨_,p2,p3⟩:=hf' Q1 b.1 b.2.1 (b.2.2.1.trans h.qs)
    obtain⟨e1,e2⟩:=hE R1 Q1 (h.step a b st)
    have m1:msr (fld R1).2<msr R:=fo h.rok h0 (a.trans g2) fun he=>by
     have:=g3 he
     have:=(a.2.2.2 (g2.2.2.2 he).1).2
     omega
    have m2:msr (fld Q1).2<msr Q:=fo h.qok q0 (b.trans p2) fun he=>by
     have:=p3 he
     have:=(b.2.2.2 (p2.2.2.2 he).1).2
     omega
    rw[e1]
    exact Dn hf hf' hE k j false _ _ _ (h.step (a.trans g2) (b.trans p2) e2) (by omega) (by omega)
   cases b with
   | true=>
     rw[qR h0,qR q0]
     exact go R Q (.refl h.rok h.rtk) (.refl h.qok h.qtk) h.str
   | false=>
     by_cases hl:0<l.length
     ·cases hi:isT R [44] with
      | true=>
        rw[qQ h0 hl hi,qQ q0 hl (by rw[<- h.str.is];exact hi)]
        exact go _ _ (aQ h.rok h.rtk).1 (aQ h.qok h.qtk).1 h.str.adv
      | false=>
        rw[qP h0 hl hi,qP q0 hl (by rw[<- h.str.is];exact hi)]
        exact⟨rfl,h.str⟩
     ·rw[qO hl,qO hl]
      exact⟨rfl,h.str⟩
theorem z7:∀ (k j:Nat) (b:Bool) (l:List (List UInt8)) (R Q:Rd),Two s s' R Q->msr R<k->msr Q<j ->
  (gG k b l R).1=(gG j b l Q).1/\Str (gG k b l R).2 (gG j b l Q).2
 | 0,_,_,_,_,_,_,h,_=>absurd h (by omega)
 | _+1,0,_,_,_,_,_,_,h=>absurd h (by omega)
 | k+1,j+1,b,l,R,Q,h,hk,hj=>by
   by_cases h0:¬ R.e=0
   ·rw[tW h0,tW (by rw[<- h.str.e];exact h0)]
    exact⟨rfl,h.str⟩
   have h0:R.e=0:=Classical.not_not.1 h0
   have q0:Q.e=0:=by rw[<- h.str.e];exact h0
   have go:∀ R1 Q1,bY R R1->bY Q Q1->Str R1 Q1->(gG k false (l++[(bi R1 3).1.bytes]) (bi R1 3).2).1=(gG j false (l++[(bi Q1 3).1.bytes]) (bi Q1 3).2).1/\Str (gG k false (l++[(bi R1 3).1.bytes]) (bi R1 3).2).2 (gG j false (l++[(bi Q1 3).1.bytes]) (bi Q1 3).2).2:=fun R1 Q1 a b st=>by
    have g2:=cE (k:=3) a.1 a.2.1
    have p2:=cE (k:=3) b.1 b.2.1
    have g3:=il (k:=3) a.1 a.2.1 (by decide)
    have p3:=il (k:=3) b.1 b.2.1 (by decide)
    obtain⟨e1,e2⟩:=st.take 3
    have m1:msr (bi R1 3).2<msr R:=fo h.rok h0 (a.trans g2) fun he=>by
     have:=g3 he
     have:=(a.2.2.2 (g2.2.2.2 he).1).2
     omega
    have m2:msr (bi Q1 3).2<msr Q:=fo h.qok q0 (b.trans p2) fun he=>by
     have:=p3 he
     have:=(b.2.2.2 (p2.2.2.2 he).1).2
     omega
    rw[e1.2.2.1]
    exact z7 k j false _ _ _ (h.step (a.trans g2) (b.trans p2) e2) (by omega) (by omega)
   cases b with
   | true=>
     rw[tZ h0,tZ q0]
     exact go R Q (.refl h.rok h.rtk) (.refl h.qok h.qtk) h.str
   | false=>
     cases hi:isT R [124] with
     | true=>
       rw[tY h0 hi,tY q0 (by rw[<- h.str.is];exact hi)]
       exact go _ _ (aQ h.rok h.rtk).1 (aQ h.qok h.qtk).1 h.str.adv
     | false=>
       rw[tX h0 hi,tX q0 (by rw[<- h.str.is];exact hi)]
       exact⟨rfl,h.str⟩
theorem H7 (hk:zm kind s)(hk':zm kind s')(hv:mI val s)(hv':mI val s')(hE:TC s s' kind)(vE:Nc s s' val)(k:Int){R Q:Rd}(h:Two s s' R Q) :
  (bX kind val k R).1=(bX kind val k Q).1/\Str (bX kind val k R).2 (bX kind val k Q).2:=by
 have hq:(R.e=0/\R.now.kind=3)↔(Q.e=0/\Q.now.kind=3):=by
  rw[<- h.str.e]
  refine and_congr_right fun h0=>?_
  rw[(h.str.k h0).1]
 unfold bX
 by_cases k3:k=3
 ·rw[if_pos k3,if_pos k3]
  obtain⟨a1,a2⟩:=h.str.int
  obtain⟨b1,b2⟩:=(a2.expect [44]).two (b:=mB (cm R).1) (fun h=>h.bnd _)
  simp only
  rw[<- a1,b1]
  exact⟨rfl,b2⟩
 rw[if_neg k3,if_neg k3]
 by_cases k6:k=6
 ·rw[if_pos k6,if_pos k6]
  obtain⟨b1,b2⟩:=h.str.two (b:=fun R=>aO R bz) (fun h=>h.moment _)
  simp only
  rw[b1]
  exact⟨rfl,b2⟩
 rw[if_neg k6,if_neg k6]
 by_cases k7:k=7
 ·rw[if_pos k7,if_pos k7]
  obtain⟨b1,b2⟩:=h.str.two (b:=fun R=>aO R br) (fun h=>h.moment _)
  simp only
  rw[b1]
  exact⟨rfl,b2⟩
 rw[if_neg k7,if_neg k7]
 by_cases k9:k=9\/k=10
 ·rw[if_pos k9,if_pos k9]
  obtain⟨e1,e2⟩:=Dn (fld:=pl kind val) (fun R a b c=>j8 hk hv a b c) (fun R a b c=>j8 hk' hv' a b c) (Mr hk hk' hE vE) (R.s.length+3) (Q.s.length+3) (!isT R [41]) [] R Q h
   (by have:=jO s h.rs;rw[h.rs];omega) (by have:=jO s' h.qs;rw[h.qs];omega)
  simp only
  rw[<- h.str.is,e1]
  exact⟨rfl,e2⟩
 rw[if_neg k9,if_neg k9]
 by_cases k4:k=4/\R.e=0/\R.now.kind=3
 ·rw[if_pos k4,if_pos ⟨k4.1,hq.1 k4.2⟩]
  obtain⟨e1,e2⟩:=z7 (R.s.length+3) (Q.s.length+3) true [] R Q h (by have:=jO s h.rs;rw[h.rs];omega) (by have:=jO s' h.qs;rw[h.qs];omega)
  simp only
  rw[e1]
  exact⟨rfl,e2⟩
 have n4:¬ (k=4/\Q.e=0/\Q.now.kind=3):=fun q=>k4 ⟨q.1,hq.2 q.2⟩
 rw[if_neg k4,if_neg n4]
 obtain⟨b1,b2⟩:=h.str.two (b:=cm) (fun h=>h.int)
 have c:=cu (b:=cm) (fun R h ht=>⟨(bF h ht).1,(bF h ht).2.1⟩) h.rok h.rtk
 have c':=cu (b:=cm) (fun R h ht=>⟨(bF h ht).1,(bF h ht).2.1⟩) h.qok h.qtk
 simp only
 rw[<- b1]
 split
 ·have d:=c.1.trans (aG (t:=[44]) c.1.1 c.1.2.1)
  have d':=c'.1.trans (aG (t:=[44]) c'.1.1 c'.1.2.1)
  obtain⟨e1,e2⟩:=hE _ _ (h.step d d' (b2.expect [44]))
  simp only
  rw[e1]
  exact⟨rfl,e2⟩
 ·exact⟨rfl,b2⟩
end
theorem vq {val:Rd->Val×Rd}{s s':List UInt8}(hs:s.length<=65536)(hs':s'.length<=65536)(hv:mI val s)(hv':mI val s')(vE:Nc s s' val):∀ f,TC s s' (cU val f)
 | 0=>fun R Q h=>by
   by_cases h0:¬ R.e=0
   ·rw[oD h0,oD (by rw[<- h.str.e];exact h0)];exact⟨rfl,h.str⟩
   have h0:R.e=0:=Classical.not_not.1 h0
   have q0:Q.e=0:=by rw[<- h.str.e];exact h0
   obtain⟨e1,e2,_⟩:=h.str.k h0
   by_cases hk:¬ R.now.kind=1
   ·rw[fV h0 hk,fV q0 (by rw[<- e1];exact hk)];exact⟨rfl,h.str.fail (by decide)⟩
   have hk:R.now.kind=1:=Classical.not_not.1 hk
   have hk':Q.now.kind=1:=by rw[<- e1];exact hk
   rw[kq h0 hk,kq q0 hk'];exact⟨rfl,h.str.fail (by decide)⟩
 | f+1=>fun R Q h=>by
   by_cases h0:¬ R.e=0
   ·rw[oD h0,oD (by rw[<- h.str.e];exact h0)];exact⟨rfl,h.str⟩
   have h0:R.e=0:=Classical.not_not.1 h0
   have q0:Q.e=0:=by rw[<- h.str.e];exact h0
   obtain⟨e1,e2,_⟩:=h.str.k h0
   by_cases hk:¬ R.now.kind=1
   ·rw[fV h0 hk,fV q0 (by rw[<- e1];exact hk)];exact⟨rfl,h.str.fail (by decide)⟩
   have hk:R.now.kind=1:=Classical.not_not.1 hk
   have hk':Q.now.kind=1:=by rw[<- e1];exact hk
   have ha:=h.step (aQ h.rok h.rtk).1 (aQ h.qok h.qtk).1 h.str.adv
   by_cases w0:bt R.now.text=0
   ·rw[vj h0 hk w0,vj q0 hk' (by rw[<- e2];exact w0)];exact⟨rfl,ha.str.fail (by decide)⟩
   by_cases w1:bt R.now.text=1
   ·rw[kr h0 hk w1,kr q0 hk' (by rw[<- e2];exact w1)];exact⟨rfl,ha.str⟩
   rw[vm h0 hk w0 w1,vm q0 hk' (by rw[<- e2];exact w0) (by rw[<- e2];exact w1),<- e2]
   obtain⟨b1,b2⟩:=H7 (CT s hs hv f) (CT s' hs' hv' f) hv hv' (vq hs hs' hv hv' vE f) vE (bt R.now.text)
    (ha.step (aG (t:=[40]) ha.rok ha.rtk) (aG (t:=[40]) ha.qok ha.qtk) (ha.str.expect [40]))
   simp only
   rw[b1]
   exact⟨rfl,b2.expect _⟩
theorem jC:∀ a:List UInt8,Lib.compareBytes a a=0
 | []=>by simp[Lib.compareBytes]
 | a::r=>by
   rw[Lib.compareBytes]
   have:¬ a<a:=UInt8.lt_irrefl a
   simp[this,jC r]
theorem Jd (x:Int):au Tryz.prog aH 173 [.int .i64 x] (.bool false):=by
 refine au.intro Tc.2 (by simp[Tc]) ?_
 simp(disch:=try exact dI) only[Tc,eq_self,push_cast,seval]
theorem DY (x:Int):au Tryz.prog aH 102 [.int .i64 x,.int .i64 x] (.int .i64 0):=by
 refine au.intro Tz.2 (by simp[Tz]) ?_
 simp(disch:=try exact dI) only[Tz,push_cast,seval]
 refine ae.pure (Jd x) rfl ?_
 refine zgZ ?_
 refine ae.pure (Jd x) rfl ?_
 simp(disch:=try exact dI) only[Int.lt_irrefl,push_cast,seval]
theorem O4 (n:Nat)(hn:n<=1000):au Tryz.prog aH 101 [.list (U4 n (PV.int .i64 0))] (.int .i64 0):=by
 refine au.intro TA.2 (by simp[TA]) ?_
 simp(disch:=try exact dI) only[TA,push_cast,seval]
 refine aK ([]) (fun i:Nat=>[(8,.pv (.int .i64 (i:Int)))]) (fun _=>[]) (fun i=>i<=n) (fun i=>n - i) (0) ?_;intro e0 σ0 n0 h0;simp(disch:=try exact dI) only[push_cast,seval] at h0;obtain⟨rfl,rfl,rfl⟩:=h0;refine⟨?_,?_,?_⟩
 ·exact qsZ
 ·exact U8 _
 intro i hi
 have hrl:(U4 n (PV.int .i64 0)).length=n:=List.length_replicate
 by_cases hlt:i<n
 ·have hltI:(i:Int)<(n:Int):=by omega
  have hx:(U4 n (PV.int .i64 0))[i]? = some (.int .i64 0):=by rw[List.getElem?_replicate,if_pos hlt]
  simp(disch:=try exact dI) only[hrl,hltI,hx,eq_self,push_cast,seval]
  exact⟨i+1,bu qsZ,by omega,by omega⟩
 ·have hltI:¬ (i:Int)<(n:Int):=by omega
  simp(disch:=try exact dI) only[hrl,hltI,push_cast,seval]
theorem yK (l:List Val)(g:Nat)(hg:∀ x∈l,au Tryz.prog aH g [x.pv,x.pv] (.int .i64 0))(hl:l.length<=9000000000000):au Tryz.prog aH 104 [.list (l.map Val.pv),.list (l.map Val.pv),.clo g [] []] (.int .i64 0):=by
 refine au.intro Ty.2 (by simp[Ty]) ?_
 simp(disch:=try exact dI) only[Ty,push_cast,seval]
 refine aK ([]) (fun m:Nat=>[(13,.pv (.int .i64 (m:Int)))]) (fun m=>[]) (fun m=>m<=l.length) (fun m=>l.length - m) (0) ?_;intro e0 σ0 n0 h0;simp(disch:=try exact dI) only[push_cast,seval] at h0;obtain⟨rfl,rfl,rfl⟩:=h0;refine⟨?_,?_,?_⟩
 ·exact qsZ
 ·exact U8 _
 intro m hm
 by_cases hlt:m<l.length
 ·have hltI:(m:Int)<l.length:=by omega
  obtain⟨x,hx⟩:∃ x,l[m]? = some x:=⟨_,Uo hlt⟩
  have hcall:=hg x (Uw hx)
  obtain⟨w1,w2,w3,w4,w5,w6⟩:=x
  rw[Un] at hcall
  simp(disch:=try exact dI) only[hx,Un,push_cast,seval]
  refine ae.pure hcall rfl ?_
  refine zgZ ?_
  exact⟨m+1,bu qsZ,by omega,by omega⟩
 ·have hltI:¬ (m:Int)<l.length:=by omega
  simp(disch:=try exact dI) only[Int.lt_irrefl,push_cast,seval]
theorem yJ (l:List Fld)(g:Nat)(hg:∀ x∈l,au Tryz.prog aH g [x.pv,x.pv] (.int .i64 0))(hl:l.length<=9000000000000):au Tryz.prog aH 105 [.list (l.map Fld.pv),.list (l.map Fld.pv),.clo g [] []] (.int .i64 0):=by
 refine au.intro Tx.2 (by simp[Tx]) ?_
 simp(disch:=try exact dI) only[Tx,push_cast,seval]
 refine aK ([]) (fun m:Nat=>[(13,.pv (.int .i64 (m:Int)))]) (fun m=>[]) (fun m=>m<=l.length) (fun m=>l.length - m) (0) ?_;intro e0 σ0 n0 h0;simp(disch:=try exact dI) only[push_cast,seval] at h0;obtain⟨rfl,rfl,rfl⟩:=h0;refine⟨?_,?_,?_⟩
 ·exact qsZ
 ·exact U8 _
 intro m hm
 by_cases hlt:m<l.length
 ·have hltI:(m:Int)<l.length:=by omega
  obtain⟨x,hx⟩:∃ x,l[m]? = some x:=⟨_,Uo hlt⟩
  have hcall:=hg x (Uw hx)
  obtain⟨w0,⟨w1,w2,w3,w4,w5,w6⟩⟩:=x
  simp only[Ub,Un] at hcall
  simp(disch:=try exact dI) only[hx,Ub,Un,push_cast,seval]
  refine ae.pure hcall rfl ?_
  refine zgZ ?_
  exact⟨m+1,bu qsZ,by omega,by omega⟩
 ·have hltI:¬ (m:Int)<l.length:=by omega
  simp(disch:=try exact dI) only[Int.lt_irrefl,push_cast,seval]
theorem Qc (x:Fld)(hcall:au Tryz.prog aH 48 [x.value.pv,x.value.pv] (.int .i64 0)):au Tryz.prog aH 106 [x.pv,x.pv] (.int .i64 0):=by
 obtain⟨xn,xv⟩:=x
 have h102:=jA xn xn
 rw[jC] at h102
 have h130:=O4 2 (by decide)
 simp only[U4] at h130
 obtain⟨w1,w2,w3,w4,w5,w6⟩:=xv
 simp only[Fld.value,Un] at hcall
 refine au.intro Tw.2 (by simp[Tw]) ?_
 simp(disch:=try exact dI) only[Tw,Ub,Un,push_cast,seval]
 refine ap h102 rfl ?_
 refine zgZ ?_
 refine ae.pure hcall rfl ?_
 refine zgZ ?_
 refine ae.pure h130 rfl ?_
 exact qsZ
theorem nP:∀ (n:Nat) (a:Val),tK n a->a.ok->au Tryz.prog aH 48 [a.pv,a.pv] (.int .i64 0)
 | 0,a,h,_=>h.elim
 | n+1,a,hd,ha=>by
   have ih:=nP n
   obtain⟨w1,w2,w3,w4,w5,w6⟩:=a
   simp only[tK] at hd
   obtain⟨d4,d5⟩:=hd
   rw[Um] at ha
   obtain⟨a1,a2,a3,a4,a5,a7,a6,a8⟩:=ha
   have h132:=yK w5 48 (fun x hx=>ih x (d4 x hx) (a7 x hx)) (by omega)
   have h133:=yJ w6 106 (fun x hx=>Qc x (ih x.value (d5 x hx) (by have:=a8 x hx;obtain⟨xn,xv⟩:=x;rw[Ua] at this;exact this.2))) (by omega)
   have h1:=DY w1
   have h2:=DY w2
   have h3:=DY w3
   have h4:=jA w4 w4
   rw[jC] at h4
   have h130:=O4 6 (by decide)
   simp only[U4] at h130
   refine au.intro Q48.2 (by simp[Q48]) ?_
   simp(disch:=try exact dI) only[Q48,Un,push_cast,seval]
   refine ap h1 rfl ?_
   refine zgZ ?_
   refine ap h2 rfl ?_
   refine zgZ ?_
   refine ap h3 rfl ?_
   refine zgZ ?_
   refine ap h4 rfl ?_
   refine zgZ ?_
   refine ap h132 rfl ?_
   refine zgZ ?_
   refine ae.pure h133 rfl ?_
   refine zgZ ?_
   refine ae.pure h130 rfl ?_
   exact qsZ
theorem nJ (v:Val)(hv:v.ok):au Tryz.prog aH 19 [v.pv,v.pv] (.bool true):=by
 obtain⟨n,hn⟩:=g7 v
 have hcall:=nP n v hn hv
 obtain⟨w1,w2,w3,w4,w5,w6⟩:=v
 simp only[Un] at hcall ⊢
 refine au.intro Q19.2 (by simp[Q19]) ?_
 simp(disch:=try exact dI) only[Q19,push_cast,seval]
 refine ae.pure hcall rfl ?_
 exact qsZ
open Go.RowKit
theorem z8 {w:List UInt8}{c:UInt8}{w' r:List UInt8}(hw:w=c::w')(ha:w.all bA=true)(hr:r.head?≠some 34):¬ (c.toNat=120/\(w'++r).head? = some 34):=by
 rintro⟨_,h⟩
 cases w' with
 | nil=>exact hr h
 | cons b q=>
   rw[hw] at ha
   simp only[List.all_cons,Bool.and_eq_true] at ha
   have:b=34:=Option.some.inj h
   subst this
   exact absurd ha.2.1 (by decide)
