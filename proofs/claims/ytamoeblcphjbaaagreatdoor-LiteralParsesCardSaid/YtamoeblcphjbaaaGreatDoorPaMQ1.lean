/- A part of the proof. -/
import Derived.Test.YtamoeblcphjbaaaGreatDoorPaMP6
set_option maxHeartbeats 16000000
set_option maxRecDepth 100000
set_option linter.unusedVariables false
set_option linter.unusedSimpArgs false
namespace Go.Proofs.YtamoeblcphjbaaaGreatDoor
open Go Go.Ab
def CQ (M:Mo):Prop:=M.s.length≤65536∧M.nx≤M.s.length
def OkM (M:Mo):Prop:=CQ M∧M.x.length≤65536∧(M.e=0→M.p≤M.nx∧(M.k≠0→M.p<M.nx)∧(M.k=110→M.x≠[])∧(M.k=0→M.p=M.s.length))
theorem tw {M:Mo}{a:Nat}{v:Bool}{Z:Sc}(ha:a<M.s.length)(hz:∀ o j,Z = .done o j→a<j∧j≤M.s.length):a<(cZ M a v Z).1.2∧(cZ M a v Z).1.2≤M.s.length:=by
 cases Z with
 | done o j=>exact hz o j rfl
 | bad i e=>exact⟨ha,Nat.le_refl _⟩
 | short=>exact⟨ha,Nat.le_refl _⟩
theorem jI (M:Mo)(e:Int)(i:Nat):(aU M e i).nx=M.nx:=by unfold aU;split<;>rfl
theorem nw (M:Mo)(e:Int)(i:Nat):(aU M e i).x=M.x:=by unfold aU;split<;>rfl
theorem JX (M:Mo)(e:Int)(i:Nat):(aU M e i).k=M.k:=by unfold aU;split<;>rfl
theorem dB {M:Mo}{e:Int}{i:Nat}(he:e≠0):(aU M e i).e≠0:=by
 unfold aU
 split
 ·exact he
 ·assumption
theorem zD (M:Mo)(a:Nat)(v:Bool)(Z:Sc):(cZ M a v Z).2=M∨∃ e i,(cZ M a v Z).2=aU M e i:=by
 cases Z with
 | done o j=>
   show (if v=true∧Lib.validD o=false then aU M 16 a else M)=M∨_
   by_cases h:v=true∧Lib.validD o=false
   ·right;exact⟨16,a,if_pos h⟩
   ·left;exact if_neg h
 | bad i e=>exact .inr ⟨_,_,rfl⟩
 | short=>exact .inr ⟨_,_,rfl⟩
theorem A5 {M:Mo}{i:Nat}{c:UInt8}(hc:M.s[i]? = some c):i<(rM M i c).2∧(rM M i c).2≤M.s.length∧(rM M i c).1.s=M.s∧(rM M i c).1.nx=M.nx∧(rM M i c).1.x=M.x:=by
 have hi:i<M.s.length:=(List.getElem?_eq_some_iff.1 hc).1
 have q2:∀ (N:Mo) (a:Nat) (v:Bool) (Z:Sc),N.s=M.s→N.nx=M.nx→N.x=M.x→(cZ N a v Z).2.s=M.s∧(cZ N a v Z).2.nx=M.nx∧(cZ N a v Z).2.x=M.x:=by
  intro N a v Z h1 h2 h3
  rcases zD N a v Z with h | ⟨e,j,h⟩
  ·rw[h];exact⟨h1,h2,h3⟩
  ·rw[h,bw,jI,nw];exact⟨h1,h2,h3⟩
 unfold rM
 split
 ·have:=tw (M:={ M with k:=115 }) (a:=i) (v:=true) hi (Z:=ir (M.s.length+1) (M.s.drop (i+1)) (i+1) []) (fun o j h=>by
   have:=gG _ _ _ _ h
   rw[List.length_drop] at this
   show i<j∧j≤M.s.length
   omega)
  exact⟨this.1,this.2,q2 { M with k:=115 } _ _ _ rfl rfl rfl⟩
 split
 ·have:=tw (M:={ M with k:=120 }) (a:=i) (v:=false) hi (Z:=en (M.s.drop (i+2)) (i+2) none []) (fun o j h=>by
   have:=gV _ _ _ _ h
   rw[List.length_drop] at this
   show i<j∧j≤M.s.length
   omega)
  exact⟨this.1,this.2,q2 { M with k:=120 } _ _ _ rfl rfl rfl⟩
 split
 ·have h1:=da (q:=bM) (s:=M.s) (i:=i+1)
  have h2:=bq (q:=bM) (s:=M.s) (i:=i+1) (by omega)
  exact⟨by simp only;omega,h2,rfl,rfl,rfl⟩
 split
 ·have h1:=da (q:=isD) (s:=M.s) (i:=i+1)
  have h2:=bq (q:=isD) (s:=M.s) (i:=i+1) (by omega)
  have h3:=rq h2
  exact⟨by simp only;omega,h3.2,rfl,rfl,rfl⟩
 split
 ·rename_i h
  have:=(List.getElem?_eq_some_iff.1 h.2).1
  exact⟨by simp only;omega,by simp only;omega,rfl,rfl,rfl⟩
 split
 ·exact⟨by simp only;omega,by simp only;omega,rfl,rfl,rfl⟩
 ·rw[bw,jI,nw]
  exact⟨by simp only;omega,by simp only;omega,rfl,rfl,rfl⟩
theorem G6 (M:Mo)(i:Nat):kr M i=M∨∃ e,e≠0∧kr M i=aU M e i:=by
 unfold kr
 split
 ·split
  ·exact .inl rfl
  ·rename_i h;exact .inr ⟨_,h,rfl⟩
 ·exact .inl rfl
theorem Ot {q:Mo×Nat}{i:Nat}(hs:q.1.s.length≤65536)(h2:q.2≤q.1.s.length)(hn:q.1.nx≤q.1.s.length)(hx:q.1.x.length≤65536) :
  (g9 q i).s=q.1.s∧(g9 q i).nx≤q.1.s.length∧(g9 q i).x.length≤65536:=by
 unfold g9
 split
 ·refine⟨rfl,h2,?_⟩
  simp only[List.length_drop,List.length_take];omega
 ·exact⟨rfl,hn,hx⟩
theorem ff {M:Mo}{R:Rd}(hR:OkR R)(hs:M.s=R.s)(h1:R.e=0)(h2:M.e=0)(h3:M.nx=R.next):Sim (nextM M) (aY R):=by
 have hsl:=(hR h1).1
 unfold nextM
 rw[hs,h3]
 by_cases hi:R.s.length≤aK aC R.s R.next
 ·rw[sm h1 hi,List.getElem?_eq_none hi]
  exact⟨rfl,.inl ⟨h1,h2,rfl,rfl,.inl ⟨rfl,rfl⟩⟩⟩
 ·obtain⟨c,hc⟩:∃ c,R.s[aK aC R.s R.next]? = some c:=⟨_,List.getElem?_eq_getElem (by omega)⟩
  rw[sl h1 hc,hc]
  simp only
  rw[if_pos h2]
  have hl:=Ic (s:=R.s) (i:=aK aC R.s R.next) (off:=R.off) (bad:=M.bad) hsl hc
  obtain⟨ms,mn,mk,mp,mx,mv,me,mb⟩:=M
  obtain⟨rs,rn,rt,re,ro⟩:=R
  simp only at hs h1 h2 hl ⊢
  subst hs
  subst h1
  subst h2
  exact hl
theorem fG {M:Mo}{R:Rd}(hR:OkR R)(h:Sim M R):Sim (nextM M) (aY R):=by
 obtain⟨hs,h⟩:=h
 rcases h with ⟨h1,h2,h3,h4⟩ | ⟨h1,h2,h3⟩
 ·exact ff hR hs h1 h2 h3
 ·have hMe:¬ M.e=0:=by rw[h2];exact h1
  rw[p8 h1]
  unfold nextM
  cases M.s[aK aC M.s M.nx]? with
  | none=>exact⟨hs,.inr ⟨h1,h2,h3⟩⟩
  | some c=>
    simp only
    rw[if_neg hMe]
    exact⟨hs,.inr ⟨h1,h2,h3⟩⟩
theorem iH (M:Mo):(nextM M).s=M.s:=by
 unfold nextM
 split
 ·rfl
 ·rename_i c hc
  split
  ·have h2:=A5 (M:={ M with nx:=aK aC M.s M.nx,k:=0,p:=aK aC M.s M.nx,x:=[],v:=[] }) hc
   generalize rM { M with nx:=aK aC M.s M.nx,k:=0,p:=aK aC M.s M.nx,x:=[],v:=[] } (aK aC M.s M.nx) c=q at *
   have he:(g9 q (aK aC M.s M.nx)).s=M.s:=by
    unfold g9
    split
    ·exact h2.2.2.1
    ·exact h2.2.2.1
   rcases G6 (g9 q (aK aC M.s M.nx)) (aK aC M.s M.nx) with h | ⟨e,_,h⟩
   ·rw[h];exact he
   ·rw[h,bw];exact he
  ·rfl
theorem Jm {M:Mo}(hM:CQ M):(nextM M).nx≤M.s.length∧(nextM M).x.length≤65536:=by
 obtain⟨hs,hn⟩:=hM
 have hr:=bq (q:=aC) hn
 unfold nextM
 split
 ·exact⟨hr,by simp⟩
 ·rename_i c hc
  split
  ·have h2:=A5 (M:={ M with nx:=aK aC M.s M.nx,k:=0,p:=aK aC M.s M.nx,x:=[],v:=[] }) hc
   generalize rM { M with nx:=aK aC M.s M.nx,k:=0,p:=aK aC M.s M.nx,x:=[],v:=[] } (aK aC M.s M.nx) c=q at *
   obtain⟨_,g2,g3,g4,g5⟩:=h2
   simp only at g2 g3 g4 g5
   have he:=Ot (q:=q) (i:=aK aC M.s M.nx) (by rw[g3];exact hs) (by rw[g3];exact g2) (by rw[g3,g4];exact hr) (by rw[g5];simp)
   rw[g3] at he
   rcases G6 (g9 q (aK aC M.s M.nx)) (aK aC M.s M.nx) with h | ⟨e,_,h⟩
   ·rw[h];exact he.2
   ·rw[h,jI,nw];exact he.2
  ·exact⟨hr,by simp⟩
def L0 (M:Mo):Rd:=⟨M.s,M.nx,{ pos:=M.nx },M.e,M.bad⟩
theorem kj {M:Mo}(h:CQ M):OkR (L0 M):=fun _=>⟨h.1,Nat.le_refl _,h.2,fun q=>absurd rfl q⟩
theorem gR {M:Mo}(h:¬ M.e=0):(nextM M).e=M.e:=by
 unfold nextM
 cases M.s[aK aC M.s M.nx]? with
 | none=>rfl
 | some c=>simp only;rw[if_neg h]
theorem sW {M:Mo}{R:Rd}(h:C8 M R):(M.k=0↔R.now.kind=0):=by
 obtain⟨_,h⟩:=h
 rcases h with ⟨a,b⟩ | ⟨a,b,_⟩ | ⟨a,b,_⟩ | ⟨a,b,_⟩ | ⟨a,b,_⟩ | ⟨a,h⟩
 ·rw[a,b];simp
 ·rw[a,b];simp
 ·rw[a,b];simp
 ·rw[a,b];simp
 ·rw[a,b];simp
 ·rw[a]
  rcases h with ⟨b,_⟩ | ⟨c,hc,b,_⟩
  ·rw[b];simp
  ·rw[b]
   constructor
   ·intro q
    have:c=0:=UInt8.toNat_inj.1 q
    subst this
    exact absurd hc (by decide)
   ·intro q;cases q
theorem AD {M:Mo}(h:(nextM M).e=0)(hk:(nextM M).k=0)(hM:CQ M):(nextM M).p=M.s.length:=by
 have h0:M.e=0:=Classical.byContradiction fun q=>by rw[gR q] at h;exact q h
 have hS:=ff (M:=M) (R:=L0 M) (kj hM) rfl h0 h0 rfl
 rcases hS.2 with ⟨a,b,c,d⟩ | ⟨a,b,_⟩
 ·have hk':=(sW d).1 hk
  rw[d.1]
  by_cases hi:M.s.length≤aK aC M.s M.nx
  ·rw[sm (R:=L0 M) h0 hi]
   have:=bq (q:=aC) hM.2
   show aK aC M.s M.nx=_
   omega
  ·obtain⟨c',hc⟩:∃ c,M.s[aK aC M.s M.nx]? = some c:=⟨_,List.getElem?_eq_getElem (by omega)⟩
   rw[sl (R:=L0 M) h0 hc] at hk' a
   rw[sY] at a
   have:=NW a
   rw[fa a] at hk'
   exact absurd hk' this
 ·exact absurd (b▸h) a
def c8 (M M':Mo):Prop:=OkM M'∧M'.s=M.s∧(M'.e=0→M.e=0∧M.p≤M'.p)
theorem c8.refl {M:Mo}(h:OkM M):c8 M M:=⟨h,rfl,fun h=>⟨h,Nat.le_refl _⟩⟩
theorem c8.trans {a b c:Mo}(h:c8 a b)(k:c8 b c):c8 a c:=
 ⟨k.1,k.2.1.trans h.2.1,fun hc=>⟨(h.2.2 (k.2.2 hc).1).1,Nat.le_trans (h.2.2 (k.2.2 hc).1).2 (k.2.2 hc).2⟩⟩
theorem m6 {M:Mo}(hM:CQ M):OkM (nextM M):=by
 have hb:=Jm hM
 refine⟨⟨by rw[iH];exact hM.1,by rw[iH];exact hb.1⟩,hb.2,fun h=>?_⟩
 have h0:M.e=0:=Classical.byContradiction fun q=>by rw[gR q] at h;exact q h
 have hS:=ff (M:=M) (R:=L0 M) (kj hM) rfl h0 h0 rfl
 have hok:=(uP (kj hM)).1
 rcases hS.2 with ⟨a,b,c,d⟩ | ⟨a,b,_⟩
 ·obtain⟨g1,g2,g3,g4⟩:=hok a
  refine⟨by rw[c,d.1];exact g2,fun q=>?_,fun q=>?_,fun q=>by rw[iH];exact AD h q hM⟩
  ·rw[c,d.1];exact g4 fun z=>q ((sW d).2 z)
  ·obtain⟨_,h⟩:=d
   rcases h with ⟨a,b⟩ | ⟨a,b,_⟩ | ⟨a,b,_,_,h⟩ | ⟨a,b,_⟩ | ⟨a,b,_⟩ | ⟨a,h⟩
   ·rw[q] at b;cases b
   ·rw[q] at b;cases b
   ·exact h
   ·rw[q] at b;cases b
   ·rw[q] at b;cases b
   ·rcases h with ⟨b,_⟩ | ⟨c,hc,b,_⟩
    ·rw[q] at b;cases b
    ·rw[q] at b
     have:c=110:=UInt8.toNat_inj.1 b.symm
     subst this
     exact absurd hc (by decide)
 ·exact absurd (b▸h) a
theorem be {M:Mo}(h:OkM M):c8 M (nextM M)∧((nextM M).e=0→M.k≠0→M.p<(nextM M).p):=by
 have h1:=m6 h.1
 have key:(nextM M).e=0→M.e=0∧M.nx≤(nextM M).p:=fun he=>by
  have h0:M.e=0:=Classical.byContradiction fun q=>by rw[gR q] at he;exact q he
  have hS:=ff (M:=M) (R:=L0 M) (kj h.1) rfl h0 h0 rfl
  rcases hS.2 with ⟨a,b,c,d⟩ | ⟨a,b,_⟩
  ·refine⟨h0,?_⟩
   rw[d.1]
   exact (uP (kj h.1)).2 a
  ·exact absurd (b▸he) a
 refine⟨⟨h1,iH M,fun he=>?_⟩,fun he hk=>?_⟩
 ·obtain⟨h0,h2⟩:=key he
  have:=(h.2.2 h0).1
  exact⟨h0,by omega⟩
 ·obtain⟨h0,h2⟩:=key he
  have:=(h.2.2 h0).2.1 hk
  omega
theorem cg {M:Mo}{i:Nat}{e:Int}(he:e≠0)(h:OkM M):c8 M (aU M e i):=by
 refine⟨⟨⟨by rw[bw];exact h.1.1,by rw[bw,jI];exact h.1.2⟩,by rw[nw];exact h.2.1,fun q=>absurd q (dB he)⟩,bw _ _ _,fun q=>absurd q (dB he)⟩
end Go.Proofs.YtamoeblcphjbaaaGreatDoor
-- many steps
namespace Go.Proofs.YtamoeblcphjbaaaGreatDoor
open Go Go.Ab
attribute [local irreducible] vc
theorem Bl (s:List UInt8):au Tryz.prog aM 186 [.str s] (.bool (bC s)):=by
 refine au.intro K5 (by simp[PT]) ?_
 by_cases h0:s.length<1
 ·have e:bC s=false:=by simp only[bC,decide_eq_false (show ¬ 0<s.length by omega),Bool.false_and]
  rw[e]
  simp(disch:=try exact dI) only[PT,push_cast,seval]
 by_cases h32:32<s.length
 ·have e:bC s=false:=by simp only[bC,decide_eq_false (show ¬ s.length≤32 by omega),Bool.false_and,Bool.and_false]
  rw[e]
  simp(disch:=try exact dI) only[PT,push_cast,seval]
 simp(disch:=try exact dI) only[PT,push_cast,seval]
 refine bf ([]) (fun i:Nat=>[(16,.pv (.int .i64 (i:Int)))]) (fun _=>[]) (fun i=>i≤s.length∧(s.take i).all okC=true∧(0<i→lr (s.headD 0)=true)) (fun i=>s.length - i) (0) ?_;intro e0 σ0 n0 h0;simp(disch:=try exact dI) only[push_cast,seval] at h0;obtain⟨rfl,rfl,rfl⟩:=h0;refine⟨?_,?_,?_⟩
 ·exact qsZ
 ·exact⟨by omega,by simp,fun h=>absurd h (by omega)⟩
 rintro i ⟨hi,hall,hlt0⟩
 by_cases hlt:i<s.length
 ·have hltI:(i:Int)<(s.length:Int):=by omega
  obtain⟨b,hb⟩:∃ b,s[i]? = some b:=⟨_,List.getElem?_eq_getElem hlt⟩
  have hbn:=b.toNat_lt
  have hsn:=uO hb
  rw[hall,Bool.true_and] at hsn
  by_cases hlc:97≤b.toNat∧b.toNat≤122
  ·have a1:(97:Int)≤(b.toNat:Int):=by omega
   have a2:(b.toNat:Int)≤122:=by omega
   have hok:okC b=true:=by simp[okC,lr];omega
   have hl:lr b=true:=by simp[lr];omega
   simp(disch:=try exact dI) only[hltI,hb,ae,a1,a2,push_cast,seval]
   refine⟨i+1,bz qsZ,⟨by omega,by rw[hsn,hok],fun _=>?_⟩,by omega⟩
   by_cases hz:i=0
   ·subst hz
    cases s with
    | nil=>cases hb
    | cons x r=>cases hb;exact hl
   ·exact hlt0 (by omega)
  ·by_cases hz:i=0
   ·subst hz
    have e:bC s=false:=by
     have hh:s.headD 0=b:=by
      cases s with
      | nil=>cases hb
      | cons x r=>cases hb;rfl
     have hl:lr b=false:=by simp[lr];omega
     simp only[bC,hh,hl,Bool.false_and,Bool.and_false]
    rw[e]
    by_cases h97:97≤b.toNat
    ·have a1:(97:Int)≤(b.toNat:Int):=by omega
     have a2:¬ (b.toNat:Int)≤122:=by omega
     simp(disch:=try exact dI) only[hltI,hb,ae,a1,a2,push_cast,seval]
    ·have a1:¬ (97:Int)≤(b.toNat:Int):=by omega
     simp(disch:=try exact dI) only[hltI,hb,ae,a1,push_cast,seval]
   ·have hzI:¬ (i:Int)=0:=by omega
    have go:∀ (e1:okC b=false),bC s=false:=fun e1=>by simp only[bC,nL hb e1,Bool.and_false]
    have hc:b.toNat<48∨(48≤b.toNat∧b.toNat≤57)∨(57<b.toNat∧b.toNat<97∧b.toNat≠95)∨b.toNat=95∨122<b.toNat:=by omega
    rcases hc with hc | hc | hc | hc | hc
    ·rw[go (by simp[okC,lr];omega)]
     have a1:¬ (97:Int)≤(b.toNat:Int):=by omega
     have a3:¬ (b.toNat:Int)=95:=by omega
     simp(disch:=try exact dI) only[hltI,hb,ae,a1,a3,hzI,push_cast,seval]
    ·have hok:okC b=true:=by simp[okC,lr];omega
     have a1:¬ (97:Int)≤(b.toNat:Int):=by omega
     have a3:¬ (b.toNat:Int)=95:=by omega
     simp(disch:=try exact dI) only[hltI,hb,ae,a1,a3,hzI,push_cast,seval]
     exact⟨i+1,bz qsZ,⟨by omega,by rw[hsn,hok],fun _=>hlt0 (by omega)⟩,by omega⟩
    ·rw[go (by simp[okC,lr];omega)]
     have a1:¬ (97:Int)≤(b.toNat:Int):=by omega
     have a3:¬ (b.toNat:Int)=95:=by omega
     simp(disch:=try exact dI) only[hltI,hb,ae,a1,a3,hzI,push_cast,seval]
    ·have hok:okC b=true:=by simp[okC,lr];omega
     have a1:¬ (97:Int)≤(b.toNat:Int):=by omega
     have a3:((b.toNat:Int)=95)=True:=eq_true (by omega)
     simp(disch:=try exact dI) only[hltI,hb,ae,a1,a3,hzI,push_cast,seval]
     exact⟨i+1,bz qsZ,⟨by omega,by rw[hsn,hok],fun _=>hlt0 (by omega)⟩,by omega⟩
    ·rw[go (by simp[okC,lr];omega)]
     have a1:(97:Int)≤(b.toNat:Int):=by omega
     have a2:¬ (b.toNat:Int)≤122:=by omega
     have a3:¬ (b.toNat:Int)=95:=by omega
     simp(disch:=try exact dI) only[hltI,hb,ae,a1,a2,a3,hzI,push_cast,seval]
 ·have he:s.take i=s:=List.take_of_length_le (by omega)
  rw[he] at hall
  have e:bC s=true:=by
   simp only[bC,hall,hlt0 (by omega),decide_eq_true (show 0<s.length by omega),decide_eq_true (show s.length≤32 by omega),Bool.true_and]
  rw[e]
  have hnI:¬ (i:Int)<(s.length:Int):=by omega
  simp(disch:=try exact dI) only[hnI,push_cast,seval]
structure Tm where
 k:Nat
 p:Nat
 x:List UInt8
 v:List UInt8
def tkM (t:Tm):PV:=.agg [.int .u8 (t.k:Int),.int .i64 (t.p:Int),.str t.x,.str t.v]
def dd (M:Mo):Tm:=⟨M.k,M.p,M.x,M.v⟩
def lm (M:Mo)(k:Int):Bool×Mo:=if M.e=0∧(M.k:Int)=k then (true,nextM M) else (false,M)
def bi (M:Mo)(k:Int):Tm×Mo:=if (M.k:Int)=k then (dd M,nextM M) else (⟨0,M.p,[],[]⟩,aU M 13 M.p)
def fq (M:Mo)(t:Tm):Mo:=if t.k=119∧bC t.x=false then aU M 12 t.p else M
def r7 (ps:List UInt8→Int×Int)(M:Mo)(t:Tm):Mo:=if t.k=115∧¬ (ps t.v).2=0 then aU M (ps t.v).2 t.p else M
def f0 (M:Mo)(t:Tm)(d:Nat):Val×Mo:=
 if t.x=[116,114,117,101] then (.mk 1 1 0 [] [] [],M)
 else if t.x=[102,97,108,115,101] then (.mk 1 0 0 [] [] [],M)
 else if t.x=[110,117,108,108]∧d=0 then (aH,M)
 else if t.x=[100,97,116,101] then (.mk 6 (b9 (bi M 115).1.v).1 0 [] [] [],r7 b9 (bi M 115).2 (bi M 115).1)
 else if t.x=[116,105,109,101] then (.mk 7 (bI (bi M 115).1.v).1 0 [] [] [],r7 bI (bi M 115).2 (bi M 115).1)
 else (aH,aU M 13 t.p)
section
variable {T:Nat}{p:PV}
def jw (T:Nat)(p:PV):Prop:=∀ M,CQ M→aF Tryz.prog (bG T p) 1 53 [.ptr 0 0] [moB M] (.pv (.tup [])) [moB (nextM M)]
theorem p9 (hN:jw T p)(M:Mo)(k:Int)(hM:CQ M):aF Tryz.prog (bG T p) 1 115 [.ptr 0 0,.pv (.int .u8 k)] [moB M] (.pv (.bool (lm M k).1)) [moB (lm M k).2]:=by
 have hn:=hN M hM
 unfold lm
 simp only[moB,moC] at hn
 by_cases h0:M.e=0
 ·have h0I:(M.e=0)=True:=eq_true h0
  by_cases hk:(M.k:Int)=k
  ·have hkI:((M.k:Int)=k)=True:=eq_true hk
   rw[if_pos ⟨h0,hk⟩]
   refine aF.intro sI (by simp[LE]) ?_
   simp(disch:=try exact dI) only[LE,moB,moC,h0I,hkI,push_cast,seval]
   refine ab.lentK hn [0] rfl qsZ qsZ ?_
   refine zgZ ?_
   exact am [] (by simp(disch:=try exact dI) only[moB,moC,push_cast,seval])
  ·rw[if_neg (fun q=>hk q.2)]
   refine aF.intro sI (by simp[LE]) ?_
   simp(disch:=try exact dI) only[LE,moB,moC,h0I,hk,push_cast,seval]
   exact am [] (by simp(disch:=try exact dI) only[moB,moC,push_cast,seval])
 ·rw[if_neg (fun q=>h0 q.1)]
  refine aF.intro sI (by simp[LE]) ?_
  simp(disch:=try exact dI) only[LE,moB,moC,h0,push_cast,seval]
  exact am [] (by simp(disch:=try exact dI) only[moB,moC,push_cast,seval])
theorem il (hN:jw T p)(M:Mo)(k:Int)(hM:CQ M):aF Tryz.prog (bG T p) 1 116 [.ptr 0 0,.pv (.int .u8 k)] [moB M] (.pv (tkM (bi M k).1)) [moB (bi M k).2]:=by
 have hn:=hN M hM
 have hf:=dC (T:=T) (p:=p) M M.p 13
 unfold bi
 simp only[moB,moC] at hn hf
 by_cases hk:(M.k:Int)=k
 ·have hkI:((M.k:Int)=k)=True:=eq_true hk
  rw[if_pos hk]
  refine aF.intro C0 (by simp[P5]) ?_
  simp(disch:=try exact dI) only[P5,moB,moC,hkI,tkM,dd,push_cast,seval]
  refine ab.lentK hn [0] rfl qsZ qsZ ?_
  refine zgZ ?_
  exact am [] (by simp(disch:=try exact dI) only[moB,moC,push_cast,seval])
 ·rw[if_neg hk]
  refine aF.intro C0 (by simp[P5]) ?_
  simp(disch:=try exact dI) only[P5,moB,moC,hk,tkM,push_cast,seval]
  refine ab.lentK hf [0] rfl qsZ qsZ ?_
  refine zgZ ?_
  exact am [] (by simp(disch:=try exact dI) only[moB,moC,push_cast,seval])
theorem AO (M:Mo)(t:Tm):aF Tryz.prog (bG T p) 1 118 [.ptr 0 0,.pv (tkM t)] [moB M] (.pv (.str t.x)) [moB (fq M t)]:=by
 have hn:=toE (T:=T) (p:=p) (Bl t.x)
 have hf:=dC (T:=T) (p:=p) M t.p 12
 unfold fq
 simp only[moB,moC] at hf
 by_cases hk:t.k=119
 ·have hkI:((t.k:Int)=119)=True:=eq_true (by omega)
  cases hb:bC t.x with
  | true=>
    rw[hb] at hn
    rw[if_neg (by simp)]
    refine aF.intro sH (by simp[LC]) ?_
    simp(disch:=try exact dI) only[LC,moB,moC,hkI,tkM,push_cast,seval]
    refine ab.pure hn rfl ?_
    refine zgZ ?_
    exact am [] (by simp(disch:=try exact dI) only[moB,moC,push_cast,seval])
  | false=>
    rw[hb] at hn
    rw[if_pos ⟨hk,rfl⟩]
    refine aF.intro sH (by simp[LC]) ?_
    simp(disch:=try exact dI) only[LC,moB,moC,hkI,tkM,push_cast,seval]
    refine ab.pure hn rfl ?_
    refine zgZ ?_
    refine ab.lentK hf [0] rfl qsZ qsZ ?_
    refine zgZ ?_
    exact am [] (by simp(disch:=try exact dI) only[moB,moC,push_cast,seval])
 ·have hkI:¬ (t.k:Int)=119:=by omega
  rw[if_neg (fun q=>hk q.1)]
  refine aF.intro sH (by simp[LC]) ?_
  simp(disch:=try exact dI) only[LC,moB,moC,hkI,tkM,push_cast,seval]
  exact am [] (by simp(disch:=try exact dI) only[moB,moC,push_cast,seval])
theorem OC (M:Mo)(t:Tm):aF Tryz.prog (bG T p) 1 187 [.ptr 0 0,.pv (tkM t)] [moB M] (.pv (.int .i64 (b9 t.v).1)) [moB (r7 b9 M t)]:=by
 have hn:=toE (T:=T) (p:=p) (Ad t.v)
 have hf:=dC (T:=T) (p:=p) M t.p (b9 t.v).2
 unfold r7
 generalize b9 t.v=q at *
 obtain⟨n,e⟩:=q
 simp only[moB,moC] at hf hn ⊢
 by_cases hk:t.k=115
 ·have hkI:((t.k:Int)=115)=True:=eq_true (by omega)
  by_cases he:e=0
  ·have heI:(e=0)=True:=eq_true he
   rw[if_neg (fun q=>q.2 he)]
   refine aF.intro sA (by simp[K4]) ?_
   simp(disch:=try exact dI) only[K4,hkI,heI,tkM,push_cast,seval]
   refine ab.pure hn rfl ?_
   simp(disch:=try exact dI) only[hkI,heI,push_cast,seval]
   exact am [] qsZ
  ·rw[if_pos ⟨hk,he⟩]
   refine aF.intro sA (by simp[K4]) ?_
   simp(disch:=try exact dI) only[K4,hkI,he,tkM,push_cast,seval]
   refine ab.pure hn rfl ?_
   simp(disch:=try exact dI) only[hkI,he,push_cast,seval]
   refine ab.lentK hf [0] rfl qsZ qsZ ?_
   refine zgZ ?_
   exact am [] qsZ
 ·have hkI:¬ (t.k:Int)=115:=by omega
  rw[if_neg (fun q=>hk q.1)]
  refine aF.intro sA (by simp[K4]) ?_
  simp(disch:=try exact dI) only[K4,hkI,tkM,push_cast,seval]
  refine ab.pure hn rfl ?_
  simp(disch:=try exact dI) only[hkI,push_cast,seval]
  exact am [] qsZ
theorem AP (M:Mo)(t:Tm):aF Tryz.prog (bG T p) 1 188 [.ptr 0 0,.pv (tkM t)] [moB M] (.pv (.int .i64 (bI t.v).1)) [moB (r7 bI M t)]:=by
 have hn:=toE (T:=T) (p:=p) (kh t.v)
 have hf:=dC (T:=T) (p:=p) M t.p (bI t.v).2
 unfold r7
 generalize bI t.v=q at *
 obtain⟨n,e⟩:=q
 simp only[moB,moC] at hf hn ⊢
 by_cases hk:t.k=115
 ·have hkI:((t.k:Int)=115)=True:=eq_true (by omega)
  by_cases he:e=0
  ·have heI:(e=0)=True:=eq_true he
   rw[if_neg (fun q=>q.2 he)]
   refine aF.intro sy (by simp[K3]) ?_
   simp(disch:=try exact dI) only[K3,hkI,heI,tkM,push_cast,seval]
   refine ab.pure hn rfl ?_
   simp(disch:=try exact dI) only[hkI,heI,push_cast,seval]
   exact am [] qsZ
  ·rw[if_pos ⟨hk,he⟩]
   refine aF.intro sy (by simp[K3]) ?_
   simp(disch:=try exact dI) only[K3,hkI,he,tkM,push_cast,seval]
   refine ab.pure hn rfl ?_
   simp(disch:=try exact dI) only[hkI,he,push_cast,seval]
   refine ab.lentK hf [0] rfl qsZ qsZ ?_
   refine zgZ ?_
   exact am [] qsZ
 ·have hkI:¬ (t.k:Int)=115:=by omega
  rw[if_neg (fun q=>hk q.1)]
  refine aF.intro sy (by simp[K3]) ?_
  simp(disch:=try exact dI) only[K3,hkI,tkM,push_cast,seval]
  refine ab.pure hn rfl ?_
  simp(disch:=try exact dI) only[hkI,push_cast,seval]
  exact am [] qsZ
theorem HO (hN:jw T p)(M:Mo)(t:Tm)(d:Nat)(hM:CQ M):aF Tryz.prog (bG T p) 1 119 [.ptr 0 0,.pv (tkM t),.pv (.int .i64 (d:Int))] [moB M] (.pv (f0 M t d).1.pv) [moB (f0 M t d).2]:=by
 unfold f0
 by_cases t1:t.x=[116,114,117,101]
 ·have b1:decide (t.x=[116,114,117,101])=true:=decide_eq_true t1
  rw[if_pos t1]
  refine aF.intro gA (by simp[sG]) ?_
  simp(disch:=try exact dI) only[sG,moB,moC,tkM,b1,Val.pv_mk,push_cast,seval]
  exact am [] qsZ
 have b1:decide (t.x=[116,114,117,101])=false:=decide_eq_false t1
 rw[if_neg t1]
 by_cases t2:t.x=[102,97,108,115,101]
 ·have b2:decide (t.x=[102,97,108,115,101])=true:=decide_eq_true t2
  rw[if_pos t2]
  refine aF.intro gA (by simp[sG]) ?_
  simp(disch:=try exact dI) only[sG,moB,moC,tkM,b1,b2,Val.pv_mk,push_cast,seval]
  exact am [] qsZ
 have b2:decide (t.x=[102,97,108,115,101])=false:=decide_eq_false t2
 rw[if_neg t2]
 have hf:=dC (T:=T) (p:=p) M t.p 13
 simp only[moB,moC] at hf
 by_cases t3:t.x=[110,117,108,108]
 ·have b3:decide (t.x=[110,117,108,108])=true:=decide_eq_true t3
  by_cases hd0:d=0
  ·subst hd0
   rw[if_pos ⟨t3,rfl⟩]
   refine aF.intro gA (by simp[sG]) ?_
   simp(disch:=try exact dI) only[sG,moB,moC,tkM,b1,b2,b3,Val.pv_mk,aH,push_cast,seval]
   exact am [] qsZ
  ·have hdI:¬ (d:Int)=0:=by omega
   have t4:¬ t.x=[100,97,116,101]:=by rw[t3];decide
   have t5:¬ t.x=[116,105,109,101]:=by rw[t3];decide
   have b4:decide (t.x=[100,97,116,101])=false:=decide_eq_false t4
   have b5:decide (t.x=[116,105,109,101])=false:=decide_eq_false t5
   rw[if_neg (fun q=>hd0 q.2),if_neg t4,if_neg t5]
   refine aF.intro gA (by simp[sG]) ?_
   simp(disch:=try exact dI) only[sG,moB,moC,tkM,b1,b2,b3,b4,b5,hdI,Val.pv_mk,aH,push_cast,seval]
   refine ab.lentK hf [0] rfl qsZ qsZ ?_
   refine zgZ ?_
   exact am [] (by simp(disch:=try exact dI) only[moB,moC,push_cast,seval])
 have b3:decide (t.x=[110,117,108,108])=false:=decide_eq_false t3
 rw[if_neg (fun q=>t3 q.1)]
 have hk:=il hN M 115 hM
 generalize bi M 115=Q at *
 obtain⟨u,N⟩:=Q
 simp only at hk ⊢
 by_cases t4:t.x=[100,97,116,101]
 ·have b4:decide (t.x=[100,97,116,101])=true:=decide_eq_true t4
  rw[if_pos t4]
  have hd:=OC (T:=T) (p:=p) N u
  generalize r7 b9 N u=N2 at *
  simp only[moB,moC,tkM] at hk hd ⊢
  refine aF.intro gA (by simp[sG]) ?_
  simp(disch:=try exact dI) only[sG,moB,moC,b1,b2,b3,b4,Val.pv_mk,push_cast,seval]
  refine ab.lentK hk [0] rfl qsZ qsZ ?_
  refine zgZ ?_
  refine ab.lentK hd [0] rfl qsZ qsZ ?_
  refine zgZ ?_
  exact am [] (by simp(disch:=try exact dI) only[moB,moC,push_cast,seval])
 have b4:decide (t.x=[100,97,116,101])=false:=decide_eq_false t4
 rw[if_neg t4]
 by_cases t5:t.x=[116,105,109,101]
 ·have b5:decide (t.x=[116,105,109,101])=true:=decide_eq_true t5
  rw[if_pos t5]
  have hd:=AP (T:=T) (p:=p) N u
  generalize r7 bI N u=N2 at *
  simp only[moB,moC,tkM] at hk hd ⊢
  refine aF.intro gA (by simp[sG]) ?_
  simp(disch:=try exact dI) only[sG,moB,moC,b1,b2,b3,b4,b5,Val.pv_mk,push_cast,seval]
  refine ab.lentK hk [0] rfl qsZ qsZ ?_
  refine zgZ ?_
  refine ab.lentK hd [0] rfl qsZ qsZ ?_
  refine zgZ ?_
  exact am [] (by simp(disch:=try exact dI) only[moB,moC,push_cast,seval])
 have b5:decide (t.x=[116,105,109,101])=false:=decide_eq_false t5
 rw[if_neg t5]
 refine aF.intro gA (by simp[sG]) ?_
 simp(disch:=try exact dI) only[sG,moB,moC,tkM,b1,b2,b3,b4,b5,Val.pv_mk,aH,push_cast,seval]
 refine ab.lentK hf [0] rfl qsZ qsZ ?_
 refine zgZ ?_
 exact am [] (by simp(disch:=try exact dI) only[moB,moC,push_cast,seval])
end
end Go.Proofs.YtamoeblcphjbaaaGreatDoor
