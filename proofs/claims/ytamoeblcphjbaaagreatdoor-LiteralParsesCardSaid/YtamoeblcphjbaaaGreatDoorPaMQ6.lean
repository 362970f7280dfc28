/- A part of the proof. -/
import Derived.Test.YtamoeblcphjbaaaGreatDoorPaMQ1
set_option maxRecDepth 100000
set_option linter.unusedVariables false
set_option linter.unusedSimpArgs false
namespace Go.Proofs.YtamoeblcphjbaaaGreatDoor
open Go Go.Ab
theorem dm {M:Mo}{k:Int}(h:OkM M):c8 M (bi M k).2:=by
 unfold bi
 split
 ·exact (be h).1
 ·exact cg (by decide) h
theorem iu {M:Mo}{t:Tm}(h:OkM M):c8 M (fq M t):=by
 unfold fq
 split
 ·exact cg (by decide) h
 ·exact .refl h
theorem oo {ps:List UInt8→Int×Int}{M:Mo}{t:Tm}(h:OkM M):c8 M (r7 ps M t):=by
 unfold r7
 split
 ·rename_i q;exact cg q.2 h
 ·exact .refl h
theorem vr {M:Mo}{t:Tm}{d:Nat}(h:OkM M):c8 M (f0 M t d).2:=by
 have h1:=dm (k:=115) h
 unfold f0
 split
 ·exact .refl h
 split
 ·exact .refl h
 split
 ·exact .refl h
 split
 ·exact h1.trans (oo h1.1)
 split
 ·exact h1.trans (oo h1.1)
 ·exact cg (by decide) h
def Dg (M:Mo)(k:Nat):Mo:=if (nextM M).e=0∧(nextM M).k=k then aU (nextM M) 13 (nextM M).p else nextM M
theorem d7 {M:Mo}{k:Nat}(h:OkM M):c8 M (Dg M k):=by
 have h1:=(be h).1
 unfold Dg
 split
 ·exact h1.trans (cg (by decide) h1.1)
 ·exact h1
def eZ (val:Mo→Val×Mo):Nat→List Val→Mo→List Val×Mo
 | 0,l,M=>(l,M)
 | k+1,l,M=>
   if M.e=0∧¬ M.k=93 then
    (if (val M).2.e=0∧(val M).2.k=44 then eZ val k (l++[(val M).1]) (Dg (val M).2 93) else (l++[(val M).1],(val M).2))
   else (l,M)
def gtN (a b:List UInt8):Bool:=!(bx a b||a == b)
def oT (nm:List UInt8):Nat→List Fld→Nat
 | i,[]=>i
 | i,x::r=>if gtN x.name nm=true then i else oT nm (i+1) r
def i7 (l:List Fld)(nm:List UInt8)(i:Nat):Nat:=oT nm i (l.drop i)
def jL (M:Mo)(t:Tm)(l:List Fld):Mo:=if t.k=119∧∃ x∈l,x.name=t.x then aU M 7 t.p else M
def Dc (l:List Fld)(x:Fld):List Fld:=l.take (i7 l x.name 0)++[x]++l.drop (i7 l x.name 0)
def bT (M:Mo):Tm:=(bi M 119).1
def gZ (M:Mo):Mo:=fq (bi M 119).2 (bi M 119).1
def eT (l:List Fld)(M:Mo):Mo:=(bi (jL (gZ M) (bT M) l) 58).2
def cb (val:Mo→Val×Mo)(l:List Fld)(M:Mo):List Fld×Mo:=(Dc l (.mk (bT M).x (val (eT l M)).1),(val (eT l M)).2)
def nX (val:Mo→Val×Mo):Nat→List Fld→Mo→List Fld×Mo
 | 0,l,M=>(l,M)
 | k+1,l,M=>
   if M.e=0∧¬ M.k=125 then
    (if (cb val l M).2.e=0∧(cb val l M).2.k=44 then nX val k (cb val l M).1 (Dg (cb val l M).2 125) else cb val l M)
   else (l,M)
def pZ (k:Nat):Prop:=k≠110∧k≠115∧k≠120∧k≠91∧k≠123∧k≠119
instance (k:Nat):Decidable (pZ k):=inferInstanceAs (Decidable (_∧_))
def Av (x:List UInt8):Val:=if 0<(aQ (bX x)).1.2∨x.getLast? = some 100 then .mk 3 (aQ (bX x)).1.1 (aQ (bX x)).1.2 [] [] [] else .mk 2 (aQ (bX x)).1.1 0 [] [] []
def GG (val:Mo→Val×Mo)(M:Mo)(t:Tm):Val×Mo:=(.mk 10 0 0 t.x [(val (nextM (fq M t))).1] [],(bi (val (nextM (fq M t))).2 41).2)
def qy (val:Mo→Val×Mo)(d:Nat)(M:Mo):Val×Mo:=
 if M.k=110 then (Av M.x,nextM M)
 else if M.k=115 then (.mk 4 0 0 M.v [] [],nextM M)
 else if M.k=120 then (.mk 5 0 0 M.v [] [],nextM M)
 else if M.k=91 then (.mk 8 0 0 [] (eZ val (M.s.length+2) [] (nextM M)).1 [],(bi (eZ val (M.s.length+2) [] (nextM M)).2 93).2)
 else if M.k=123 then (.mk 9 0 0 [] [] (nX val (M.s.length+2) [] (nextM M)).1,(bi (nX val (M.s.length+2) [] (nextM M)).2 125).2)
 else if (nextM M).e=0∧(nextM M).k=40 then GG val (nextM M) (dd M)
 else f0 (nextM M) (dd M) d
def dt:Nat→Nat→Mo→Val×Mo
 | f,d,M=>
   if ¬ M.e=0 then (aH,M)
   else if pZ M.k then (aH,aU M 13 M.p)
   else match f with
    | 0=>(aH,aU M 23 M.p)
    | f+1=>qy (dt f (d+1)) d M
theorem sP {f d:Nat}{M:Mo}(h:¬ M.e=0):dt f d M=(aH,M):=by unfold dt;rw[if_pos h]
theorem mM {f d:Nat}{M:Mo}(h:M.e=0)(h2:pZ M.k):dt f d M=(aH,aU M 13 M.p):=by unfold dt;rw[if_neg (fun q=>q h),if_pos h2]
theorem jU {d:Nat}{M:Mo}(h:M.e=0)(h2:¬ pZ M.k):dt 0 d M=(aH,aU M 23 M.p):=by unfold dt;rw[if_neg (fun q=>q h),if_neg h2]
theorem qx {f d:Nat}{M:Mo}(h:M.e=0)(h2:¬ pZ M.k):dt (f+1) d M=qy (dt f (d+1)) d M:=by rw[dt,if_neg (fun q=>q h),if_neg h2]
def ln (val:Mo→Val×Mo)(s:List UInt8):Prop:=∀ M,OkM M→M.s=s→c8 M (val M).2∧((val M).2.e=0→M.p<(val M).2.p)
def msM (M:Mo):Nat:=if M.e=0 then M.s.length+1 - M.p else 0
theorem I1 {M:Mo}(h:OkM M)(h0:M.e=0):M.p≤M.s.length:=by
 have h1:=h.1.2
 have h2:=(h.2.2 h0).1
 omega
theorem Ha {M M':Mo}(hM:OkM M)(h0:M.e=0)(h:c8 M M')(hp:M'.e=0→M.p<M'.p):msM M'<msM M:=by
 unfold msM
 have:=I1 hM h0
 by_cases h1:M'.e=0
 ·have:=hp h1
  rw[if_pos h1,if_pos h0,h.2.1];omega
 ·rw[if_neg h1,if_pos h0];omega
theorem jz {a b c:Mo}(h:c8 a b)(k:c8 b c)(hp:b.e=0→a.p<b.p):c.e=0→a.p<c.p:=fun hc=>
 Nat.lt_of_lt_of_le (hp (k.2.2 hc).1) (k.2.2 hc).2
theorem tX {val:Mo→Val×Mo}{s:List UInt8}(hv:ln val s):∀ (k:Nat) (l:List Val) (M:Mo),OkM M→M.s=s→c8 M (eZ val k l M).2
 | 0,l,M,h1,h2=>.refl h1
 | k+1,l,M,h1,h2=>by
   rw[eZ]
   obtain⟨g1,g2⟩:=hv M h1 h2
   split
   ·split
    ·have g3:=g1.trans (d7 (k:=93) g1.1)
     exact g3.trans (tX hv k _ _ g3.1 (g3.2.1.trans h2))
    ·exact g1
   ·exact .refl h1
theorem jY {M:Mo}{t:Tm}{l:List Fld}(h:OkM M):c8 M (jL M t l):=by
 unfold jL
 split
 ·exact cg (by decide) h
 ·exact .refl h
theorem gi {M:Mo}(h:OkM M):c8 M (gZ M):=by
 have h1:=dm (k:=119) h
 exact h1.trans (iu h1.1)
theorem gh {M:Mo}{l:List Fld}(h:OkM M):c8 M (eT l M):=by
 have h1:=gi h
 have h2:=h1.trans (jY (t:=bT M) (l:=l) h1.1)
 exact h2.trans (dm h2.1)
theorem kQ {val:Mo→Val×Mo}{s:List UInt8}(hv:ln val s){l:List Fld}{M:Mo}(h:OkM M)(hs:M.s=s):c8 M (cb val l M).2∧((cb val l M).2.e=0→M.p<(cb val l M).2.p):=by
 have h1:=gh (l:=l) h
 obtain⟨g1,g2⟩:=hv _ h1.1 (h1.2.1.trans hs)
 refine⟨h1.trans g1,fun he=>?_⟩
 have:=g2 he
 have:=(h1.2.2 (g1.2.2 he).1).2
 show M.p<(val (eT l M)).2.p
 omega
theorem y8 {val:Mo→Val×Mo}{s:List UInt8}(hv:ln val s):∀ (k:Nat) (l:List Fld) (M:Mo),OkM M→M.s=s→c8 M (nX val k l M).2
 | 0,l,M,h1,h2=>.refl h1
 | k+1,l,M,h1,h2=>by
   rw[nX]
   obtain⟨g1,g2⟩:=kQ hv (l:=l) h1 h2
   split
   ·split
    ·have g3:=g1.trans (d7 (k:=125) g1.1)
     exact g3.trans (y8 hv k _ _ g3.1 (g3.2.1.trans h2))
    ·exact g1
   ·exact .refl h1
theorem gD (s:List UInt8):∀ f d,ln (dt f d) s
 | f,d=>by
   intro M hM hs
   refine Classical.byCases (p:=¬ M.e=0) (fun h0=>by rw[sP h0];exact⟨.refl hM,fun h=>absurd h h0⟩) fun h0=>?_
   have h0:M.e=0:=Classical.not_not.1 h0
   by_cases hb:pZ M.k
   ·rw[mM h0 hb]
    exact⟨cg (by decide) hM,fun h=>absurd h (dB (by decide))⟩
   cases f with
   | zero=>
     rw[jU h0 hb]
     exact⟨cg (by decide) hM,fun h=>absurd h (dB (by decide))⟩
   | succ f=>
     rw[qx h0 hb]
     have ih:=gD s f (d+1)
     have hk0:M.k≠0:=fun q=>hb (by rw[q];unfold pZ;decide)
     obtain⟨n1,n2⟩:=be hM
     have n3:=fun he=>n2 he hk0
     have n4:(nextM M).s=s:=n1.2.1.trans hs
     unfold qy
     split
     ·exact⟨n1,n3⟩
     split
     ·exact⟨n1,n3⟩
     split
     ·exact⟨n1,n3⟩
     split
     ·have h1:=tX ih (M.s.length+2) [] (nextM M) n1.1 n4
      have h2:=h1.trans (dm (k:=93) h1.1)
      exact⟨n1.trans h2,jz n1 h2 n3⟩
     split
     ·have h1:=y8 ih (M.s.length+2) [] (nextM M) n1.1 n4
      have h2:=h1.trans (dm (k:=125) h1.1)
      exact⟨n1.trans h2,jz n1 h2 n3⟩
     split
     ·have h1:=iu (t:=dd M) n1.1
      have h2:=h1.trans (be h1.1).1
      have h3:=h2.trans (ih _ h2.1 (h2.2.1.trans n4)).1
      have h4:=h3.trans (dm (k:=41) h3.1)
      exact⟨n1.trans h4,jz n1 h4 n3⟩
     ·have h1:=vr (t:=dd M) (d:=d) n1.1
      exact⟨n1.trans h1,jz n1 h1 n3⟩
theorem oj {c:UInt8}(h:lq c=true):c.toNat≠0∧c.toNat≠46∧c.toNat≠110∧c.toNat≠115∧c.toNat≠119∧c.toNat≠120∧aJ c=false:=by
 unfold lq at h
 have h:=of_decide_eq_true h
 simp only[List.mem_cons,List.not_mem_nil,or_false] at h
 rcases h with rfl | rfl | rfl | rfl | rfl | rfl | rfl | rfl | rfl | rfl | rfl<;>decide
theorem pC {M:Mo}{R:Rd}{c:UInt8}(hc:lq c=true)(h0:R.e=0)(hk0:R.now.kind=0→R.now.text=[])(h:C8 M R):isT R [c]=decide (M.k=c.toNat):=by
 obtain⟨n0,n46,n110,n115,n119,n120,nl⟩:=oj hc
 obtain⟨_,h⟩:=h
 unfold isT
 rw[h0]
 rcases h with ⟨a,b⟩ | ⟨a,b,_,d,r,e,f⟩ | ⟨a,b,_⟩ | ⟨a,b,_⟩ | ⟨a,b,_⟩ | ⟨a,h⟩
 ·rw[a,b,hk0 a,show decide (0=c.toNat)=false from decide_eq_false (fun q=>n0 q.symm)];simp
 ·rw[a,b,e,show decide (119=c.toNat)=false from decide_eq_false (fun q=>n119 q.symm)]
  have:¬ d::r=[c]:=fun q=>by
   have:=(List.cons.inj q).1
   subst this
   rw[f] at nl;cases nl
  simp only[decide_eq_false this,Bool.and_false]
 ·rw[a,b,show decide (110=c.toNat)=false from decide_eq_false (fun q=>n110 q.symm)];simp
 ·rw[a,b,show decide (115=c.toNat)=false from decide_eq_false (fun q=>n115 q.symm)];simp
 ·rw[a,b,show decide (120=c.toNat)=false from decide_eq_false (fun q=>n120 q.symm)];simp
 ·rw[a]
  rcases h with ⟨b,t⟩ | ⟨d,hd,b,t⟩
  ·rw[b,t,show decide (46=c.toNat)=false from decide_eq_false (fun q=>n46 q.symm)];simp
  ·rw[b,t]
   by_cases hdc:d=c
   ·subst hdc;simp
   ·rw[show decide (d.toNat=c.toNat)=false from decide_eq_false (fun q=>hdc (UInt8.toNat_inj.1 q))]
    have:¬ ([d]:List UInt8)=[c]:=fun q=>hdc (List.cons.inj q).1
    simp[this]
theorem j2 {M:Mo}{R:Rd}(h:Sim M R)(h0:R.e=0):M.e=0∧M.nx=R.next∧C8 M R:=by
 rcases h.2 with ⟨_,b,c,d⟩ | ⟨a,_⟩
 ·exact⟨b,c,d⟩
 ·exact absurd h0 a
theorem gH {M:Mo}{R:Rd}(h:Sim M R):(M.e=0↔R.e=0):=by
 rcases h.2 with ⟨a,b,_⟩ | ⟨a,b,_⟩
 ·rw[a,b]
 ·rw[b]
theorem Ie {M M':Mo}{R R':Rd}(h:Sim M R)(h0:¬ R.e=0)(hs:M'.s=M.s)(he:M'.e=M.e)(hb:M'.bad=M.bad)(hR:R'=R):Sim M' R':=by
 subst hR
 rcases h.2 with ⟨a,_⟩ | ⟨a,b,c⟩
 ·exact absurd a h0
 ·exact⟨hs.trans h.1,.inr ⟨a,he.trans b,hb.trans c⟩⟩
theorem AE {M:Mo}(h:¬ M.e=0):(nextM M).bad=M.bad:=by
 unfold nextM
 cases M.s[aK aC M.s M.nx]? with
 | none=>rfl
 | some c=>simp only;rw[if_neg h]
def n7 (M M':Mo):Prop:=¬ M.e=0→M'.s=M.s∧M'.e=M.e∧M'.bad=M.bad
theorem n7.refl (M:Mo):n7 M M:=fun _=>⟨rfl,rfl,rfl⟩
theorem n7.trans {a b c:Mo}(h:n7 a b)(k:n7 b c):n7 a c:=fun q=>by
 obtain⟨h1,h2,h3⟩:=h q
 obtain⟨k1,k2,k3⟩:=k (by rw[h2];exact q)
 exact⟨k1.trans h1,k2.trans h2,k3.trans h3⟩
theorem pA (M:Mo):n7 M (nextM M):=fun q=>⟨iH M,gR q,AE q⟩
theorem dz (M:Mo)(e:Int)(i:Nat):n7 M (aU M e i):=fun q=>by rw[BM q];exact⟨rfl,rfl,rfl⟩
theorem cQ (M:Mo)(k:Int):n7 M (bi M k).2:=by
 unfold bi
 split
 ·exact pA M
 ·exact dz M _ _
theorem Bf (M:Mo)(t:Tm):n7 M (fq M t):=by
 unfold fq
 split
 ·exact dz M _ _
 ·exact .refl M
theorem ni (ps:List UInt8→Int×Int)(M:Mo)(t:Tm):n7 M (r7 ps M t):=by
 unfold r7
 split
 ·exact dz M _ _
 ·exact .refl M
theorem Fw (M:Mo)(t:Tm)(l:List Fld):n7 M (jL M t l):=by
 unfold jL
 split
 ·exact dz M _ _
 ·exact .refl M
theorem Be (M:Mo)(t:Tm)(d:Nat):n7 M (f0 M t d).2:=by
 unfold f0
 split
 ·exact .refl M
 split
 ·exact .refl M
 split
 ·exact .refl M
 split
 ·exact (cQ M 115).trans (ni _ _ _)
 split
 ·exact (cQ M 115).trans (ni _ _ _)
 ·exact dz M _ _
theorem n7.sim {M M':Mo}{R R':Rd}(k:n7 M M')(h:Sim M R)(h0:¬ R.e=0)(hR:R'=R):Sim M' R':=by
 obtain⟨k1,k2,k3⟩:=k (fun q=>h0 ((gH h).1 q))
 exact Ie h h0 k1 k2 k3 hR
theorem cy {R:Rd}{t:List UInt8}(h:¬ R.e=0):aq R t=R:=if_neg h
theorem uw {R:Rd}{t:List UInt8}(h:R.e=0)(h2:isT R t=true):aq R t=aY R:=by unfold aq;rw[if_pos h,if_pos h2]
theorem uz {R:Rd}{t:List UInt8}(h:R.e=0)(h2:isT R t=false):aq R t=aI R R.now.pos 13:=by unfold aq;rw[if_pos h,if_neg (by rw[h2];decide)]
theorem fH {M:Mo}{R:Rd}{c:UInt8}{k:Int}(hk:k=(c.toNat:Int))(hc:lq c=true)(hR:OkR R)(hT:OkT R)(h:Sim M R):Sim (bi M k).2 (aq R [c]):=by
 by_cases h0:R.e=0
 ·obtain⟨a,b,d⟩:=j2 h h0
  have hi:=pC hc h0 (hT h0).2.2.2.2 d
  unfold bi
  by_cases hkc:M.k=c.toNat
  ·rw[decide_eq_true hkc] at hi
   rw[uw h0 hi,if_pos (by rw[hk,hkc])]
   exact fG hR h
  ·rw[decide_eq_false hkc] at hi
   rw[uz h0 hi,if_neg (by rw[hk];omega),← d.1]
   exact bR (by decide) h
 ·exact (cQ M k).sim h h0 (cy h0)
def jq {α:Type}(i:α→Mo→α×Mo)(c:Nat):Nat→α→Mo→α×Mo
 | 0,a,M=>(a,M)
 | k+1,a,M=>if M.e=0∧¬ M.k=c then (if (i a M).2.e=0∧(i a M).2.k=44 then jq i c k (i a M).1 (Dg (i a M).2 c) else i a M) else (a,M)
def eY {β:Type}(i:β→Rd→β×Rd)(c:UInt8):Nat→Bool→β→Rd→β×Rd
 | 0,_,b,R=>(b,R)
 | k+1,f,b,R=>if R.e=0∧isT R [c]=false then eY i c k false (i b (if f=true then R else aq R [44])).1 (i b (if f=true then R else aq R [44])).2 else (b,R)
theorem dN {β:Type}{i:β→Rd→β×Rd}{c:UInt8}{k:Nat}{f:Bool}{b:β}{R:Rd}(h:¬ (R.e=0∧isT R [c]=false)):eY i c k f b R=(b,R):=by
 cases k with
 | zero=>rfl
 | succ k=>rw[eY,if_neg h]
theorem jF {α:Type}{i:α→Mo→α×Mo}{c k:Nat}{a:α}{M:Mo}(h:¬ (M.e=0∧¬ M.k=c)):jq i c k a M=(a,M):=by
 cases k with
 | zero=>rfl
 | succ k=>rw[jq,if_neg h]
structure Item {α β:Type}(iM:α→Mo→α×Mo)(iR:β→Rd→β×Rd)(Rel:α→β→Prop)(c:UInt8)(s:List UInt8):Prop where
 sim:∀ a b M R,OkM M→OkR R→OkT R→R.s=s→Sim M R→R.e=0→Rel a b→Sim (iM a M).2 (iR b R).2∧((iR b R).2.e=0→Rel (iM a M).1 (iR b R).1)
 err:∀ b R,¬ R.e=0→(iR b R).2=R
 shut:∀ b M R,Sim M R→OkR R→OkT R→R.e=0→isT R [c]=true→(iR b R).2=aI R R.now.pos 13
 stM:∀ a M,OkM M→M.s=s→c8 M (iM a M).2
 stR:∀ b R,OkR R→OkT R→R.s=s→R.e=0→fO R (iR b R).2∧((iR b R).2.e=0→R.now.pos<(iR b R).2.now.pos)
theorem tU {α β:Type}{iM:α→Mo→α×Mo}{iR:β→Rd→β×Rd}{Rel:α→β→Prop}{c:UInt8}{s:List UInt8}(hc:lq c=true)(hc44:c≠44)(hI:Item iM iR Rel c s) :
  ∀ (kM kR:Nat) (a:α) (b:β) (M:Mo) (R:Rd),OkM M→OkR R→OkT R→R.s=s→Sim M R→R.e=0→isT R [c]=false→msr R<kM→msr R≤kR→Rel a b →
    Sim (bi (jq iM c.toNat kM a M).2 (c.toNat:Int)).2 (aq (eY iR c kR false (iR b R).1 (iR b R).2).2 [c]) ∧
    ((aq (eY iR c kR false (iR b R).1 (iR b R).2).2 [c]).e=0→Rel (jq iM c.toNat kM a M).1 (eY iR c kR false (iR b R).1 (iR b R).2).1)
 | 0,kR,a,b,M,R,hM,hR,hT,hs,hS,h0,hi,hk,hk2,hr=>by omega
 | kM+1,kR,a,b,M,R,hM,hR,hT,hs,hS,h0,hi,hk,hk2,hr=>by
   obtain⟨e1,e2,e3⟩:=j2 hS h0
   have hMs:M.s=s:=hS.1.trans hs
   have hti:=pC hc h0 (hT h0).2.2.2.2 e3
   rw[hi] at hti
   have hkc:¬ M.k=c.toNat:=of_decide_eq_false hti.symm
   obtain⟨g1,g2⟩:=hI.sim a b M R hM hR hT hs hS h0 hr
   have hstM:=hI.stM a M hM hMs
   obtain⟨hstR,hpos⟩:=hI.stR b R hR hT hs h0
   have hlt:=tQ hR h0 hstR hpos
   rw[jq,if_pos ⟨e1,hkc⟩]
   generalize iM a M=qM at *
   generalize iR b R=qR at *
   obtain⟨a2,M2⟩:=qM
   obtain⟨b2,R2⟩:=qR
   simp only at g1 g2 hstM hstR hlt ⊢
   have hR2:=hstR.1
   have hT2:=hstR.2.1
   have hs2:R2.s=s:=hstR.2.2.1.trans hs
   have fin:Sim M2 R2→Sim (bi M2 (c.toNat:Int)).2 (aq R2 [c]):=fH rfl hc hR2 hT2
   refine Classical.byCases (p:=¬ R2.e=0) (fun h20=>?_) fun h20=>?_
   ·-- an error
    have hM20:¬ M2.e=0:=fun q=>h20 ((gH g1).1 q)
    rw[if_neg (fun q=>hM20 q.1),dN (fun q=>h20 q.1)]
    refine⟨fin g1,fun q=>?_⟩
    simp only at q
    rw[cy h20] at q
    exact absurd q h20
   have h20:R2.e=0:=Classical.not_not.1 h20
   obtain⟨f1,f2,f3⟩:=j2 g1 h20
   have ti:=pC hc h20 (hT2 h20).2.2.2.2 f3
   have t44:=pC (c:=44) (by decide) h20 (hT2 h20).2.2.2.2 f3
   by_cases hc2:M2.k=c.toNat
   ·-- what closes
    rw[decide_eq_true hc2] at ti
    have hn44:¬ M2.k=44:=fun q=>hc44 (UInt8.toNat_inj.1 (hc2.symm.trans q))
    rw[if_neg (fun q=>hn44 q.2),dN (fun q=>by rw[ti] at q;cases q.2)]
    exact⟨fin g1,fun _=>g2 h20⟩
   rw[decide_eq_false hc2] at ti
   obtain⟨k',rfl⟩:∃ k',kR=k'+1:=by
    refine⟨kR - 1,?_⟩
    have:=tQ hR h0 hstR hpos
    omega
   have eR:eY iR c (k'+1) false b2 R2=eY iR c k' false (iR b2 (aq R2 [44])).1 (iR b2 (aq R2 [44])).2:=by
    rw[eY,if_pos ⟨h20,ti⟩,if_neg (by decide)]
   rw[eR]
   by_cases h44:M2.k=44
   ·-- a comma
    rw[if_pos ⟨f1,h44⟩]
    have t44':isT R2 [44]=true:=by rw[t44];exact decide_eq_true h44
    rw[uw h20 t44']
    have n1:=fG hR2 g1
    have nM:=be hstM.1
    have nR:=(df hR2 hT2).1
    have hs3:(aY R2).s=s:=nR.2.2.1.trans hs2
    unfold Dg
    have hms:=Fe hR2 nR
    by_cases h30:(aY R2).e=0
    ·obtain⟨f1',f2',f3'⟩:=j2 n1 h30
     have ti3:=pC hc h30 (nR.2.1 h30).2.2.2.2 f3'
     by_cases hc3:(nextM M2).k=c.toNat
     ·rw[decide_eq_true hc3] at ti3
      rw[if_pos ⟨f1',hc3⟩]
      have hsh:=hI.shut b2 (nextM M2) (aY R2) n1 nR.1 nR.2.1 h30 ti3
      have hf:=bR (e:=13) (i:=(nextM M2).p) (by decide) n1
      have hpp:(nextM M2).p=(aY R2).now.pos:=f3'.1
      rw[hpp] at hf ⊢
      have hfe:¬ (aI (aY R2) (aY R2).now.pos 13).e=0:=aZ (by decide)
      have hfm:¬ (aU (nextM M2) 13 (aY R2).now.pos).e=0:=dB (by decide)
      rw[jF (fun q=>hfm q.1),hsh,dN (fun q=>hfe q.1)]
      refine⟨(cQ _ _).sim hf hfe (cy hfe),fun q=>?_⟩
      simp only at q
      rw[cy hfe] at q
      exact absurd q hfe
     ·rw[decide_eq_false hc3] at ti3
      rw[if_neg (fun q=>hc3 q.2)]
      exact tU hc hc44 hI kM k' a2 b2 (nextM M2) (aY R2) nM.1.1 nR.1 nR.2.1 hs3 n1 h30 ti3 (by omega) (by omega) (g2 h20)
    ·have hM3:¬ (nextM M2).e=0:=fun q=>h30 ((gH n1).1 q)
     rw[if_neg (fun q=>hM3 q.1),jF (fun q=>hM3 q.1)]
     have hsh:=hI.err b2 (aY R2) h30
     rw[hsh,dN (fun q=>h30 q.1)]
     refine⟨(cQ _ _).sim n1 h30 (cy h30),fun q=>?_⟩
     simp only at q
     rw[cy h30] at q
     exact absurd q h30
   ·-- neither
    rw[if_neg (fun q=>h44 q.2)]
    have t44':isT R2 [44]=false:=by rw[t44];exact decide_eq_false h44
    rw[uz h20 t44']
    have hfe:¬ (aI R2 R2.now.pos 13).e=0:=aZ (by decide)
    rw[hI.err b2 _ hfe,dN (fun q=>hfe q.1)]
    have hf:=bR (e:=13) (i:=M2.p) (by decide) g1
    rw[f3.1] at hf
    refine⟨?_,fun q=>?_⟩
    ·simp only
     rw[cy hfe]
     unfold bi
     rw[if_neg (fun q=>hc2 (by omega)),f3.1]
     exact hf
    ·simp only at q
     rw[cy hfe] at q
     exact absurd q hfe
theorem tV {α β:Type}{iM:α→Mo→α×Mo}{iR:β→Rd→β×Rd}{Rel:α→β→Prop}{c:UInt8}{s:List UInt8}(hc:lq c=true)(hc44:c≠44)(hI:Item iM iR Rel c s)
  (a:α) (b:β) (M:Mo) (R:Rd) (hM:OkM M) (hR:OkR R) (hT:OkT R) (hs:R.s=s) (hS:Sim M R) (hr:Rel a b) :
   Sim (bi (jq iM c.toNat (s.length+2) a M).2 (c.toNat:Int)).2 (aq (eY iR c (s.length+2) true b R).2 [c]) ∧
   ((aq (eY iR c (s.length+2) true b R).2 [c]).e=0→Rel (jq iM c.toNat (s.length+2) a M).1 (eY iR c (s.length+2) true b R).1):=by
 have hm:msr R≤s.length+1:=by unfold msr;rw[hs];split<;>omega
 have fin:Sim M R→Sim (bi M (c.toNat:Int)).2 (aq R [c]):=fH rfl hc hR hT
 by_cases h0:R.e=0
 ·obtain⟨f1,f2,f3⟩:=j2 hS h0
  have ti:=pC hc h0 (hT h0).2.2.2.2 f3
  by_cases hc2:M.k=c.toNat
  ·rw[decide_eq_true hc2] at ti
   rw[jF (fun q=>q.2 hc2),dN (fun q=>by rw[ti] at q;cases q.2)]
   exact⟨fin hS,fun _=>hr⟩
  ·rw[decide_eq_false hc2] at ti
   rw[eY,if_pos ⟨h0,ti⟩,if_pos rfl]
   exact tU hc hc44 hI (s.length+2) (s.length+1) a b M R hM hR hT hs hS h0 ti (by omega) hm hr
 ·have hM0:¬ M.e=0:=fun q=>h0 ((gH hS).1 q)
  rw[jF (fun q=>hM0 q.1),dN (fun q=>h0 q.1)]
  refine⟨fin hS,fun q=>?_⟩
  simp only at q
  rw[cy h0] at q
  exact absurd q h0
end Go.Proofs.YtamoeblcphjbaaaGreatDoor
