/- A part of the proof for LiteralAgainCardSaid. -/
import Derived.Test.YtamoeblcphjbaaaGreatDoorAgLH1
set_option maxRecDepth 100000
set_option linter.unusedVariables false
set_option linter.unusedSimpArgs false
namespace Go.Proofs.YtamoeblcphjbaaaGreatDoor
open Go Go.Ab Go.RowKit
theorem zg {R:Rd}{i:Nat}{k:Int}{v:Bool}{z:Sc}(he:∀ j,¬ z = .bad j 0)(hz:∀ o j,z = .done o j→o.length+i<j)(h:(bp R i k v z).e=0):(bp R i k v z).now.bytes.length+i<(bp R i k v z).next:=by
 cases z with
 | short=>exact absurd h (aX (by decide))
 | bad j e=>
   by_cases hx:e=0
   ·subst hx;exact absurd rfl (he j)
   ·exact absurd h (aX hx)
 | done o j=>exact hz o j rfl
theorem z8 (R:Rd)(i:Nat)(w:Nat×Bool×Bool)(q:(Int×Nat)×Int):(w7 R i w q).now.bytes=R.now.bytes:=by
 obtain⟨a,x,y⟩:=w
 obtain⟨⟨n,sc⟩,e⟩:=q
 by_cases he:e=0
 ·subst he;rw[cu]
 ·rw[cD he];simp only[cf]
theorem M5 {R:Rd}{i:Nat}{c:UInt8}(h0:R.e=0)(hc:R.s[i]? = some c)(hn:R.now = { pos:=i })(h:(dC R i c).e=0):(dC R i c).now.bytes.length+i<(dC R i c).next:=by
 have hx:=(mW h0 hc h).1
 unfold dC at h hx ⊢
 split
 ·rename_i h1;rw[if_pos h1] at h
  exact zg (fun j=>lO _ _ _ _) (fun o j hz=>by have:=jY _ _ _ _ hz;rw[List.length_nil] at this;omega) h
 rename_i h1
 rw[if_neg h1] at h hx
 split
 ·rename_i h2;rw[if_pos h2] at h
  exact zg (fun j=>l8 _ _ _ _) (fun o j hz=>by have:=kO _ _ _ _ hz;rw[List.length_nil] at this;omega) h
 rename_i h2
 rw[if_neg h2] at h hx
 split
 ·rename_i h3
  rw[if_pos h3] at hx
  rw[hn];simp only[List.length_nil] at hx ⊢;omega
 rename_i h3
 rw[if_neg h3] at h hx
 split
 ·rename_i h4
  rw[if_pos h4] at h hx
  rcases kx R i with hq | ⟨w,q,hq⟩
  ·rw[hq] at h
   exact absurd h (aX (by decide))
  ·rw[hq] at hx ⊢
   rw[z8,hn]
   simp only[List.length_nil];omega
 rename_i h4
 rw[if_neg h4] at h hx
 split
 ·rename_i h5
  rw[if_pos h5] at hx
  rw[hn];simp only[List.length_nil] at hx ⊢;omega
 rename_i h5
 rw[if_neg h5] at h hx
 split
 ·rename_i h6
  rw[if_pos h6] at hx
  rw[hn];simp only[List.length_nil] at hx ⊢;omega
 ·rename_i h6
  rw[if_neg h6] at h
  exact absurd h (aX (by decide))
theorem pN {R:Rd}(hR:OkR R):BT (bm R):=by
 by_cases h:R.e=0
 ·by_cases hi:R.s.length≤bx aR R.s R.next
  ·rw[wT h hi]
   exact fun _ hk=>absurd rfl hk
  ·obtain⟨c,hc⟩:∃ c,R.s[bx aR R.s R.next]? = some c:=⟨_,List.getElem?_eq_getElem (by omega)⟩
   rw[wR h hc]
   generalize bx aR R.s R.next=i at *
   have hp:=AB { R with now:={ pos:=i },next:=i } i c
   have hb:=M5 (R:={ R with now:={ pos:=i },next:=i }) (i:=i) (c:=c) h hc rfl
   generalize dC { R with now:={ pos:=i },next:=i } i c=L at *
   intro he hk
   rw[xS] at he
   rw[gw he]
   have:=hb he
   simp only at hp ⊢
   omega
 ·rw[rW h];exact fun h'=>absurd h' h
theorem dS {R:Rd}{i:Nat}{e:Int}(he:e≠0):BT (aZ R i e):=fun h=>absurd h (aX he)
theorem ek {R:Rd}{t:List UInt8}(h:OkR R)(hb:BT R):BT (aD R t):=by
 unfold aD
 split
 ·split
  ·exact pN h
  ·exact dS (by decide)
 ·exact hb
theorem Cd {R:Rd}{k:Int}(h:OkR R)(hb:BT R):BT (eZ R k).2:=by
 by_cases h0:R.e=0
 ·by_cases hk:R.now.kind=k
  ·rw[iY h0 hk];exact pN h
  ·rw[take_2 h0 hk];exact dS (by decide)
 ·rw[take_3 h0];exact hb
theorem Kg {R:Rd}(h:OkR R)(hb:BT R):BT (db R).2:=by
 have h1:=Cd (k:=1) h hb
 unfold db
 simp only
 split
 ·exact dS (by decide)
 ·exact h1
theorem pM {R:Rd}(ps:List UInt8→Int×Int)(h:OkR R)(hb:BT R):BT (ba R ps).2:=by
 have h1:=Cd (k:=3) h hb
 unfold ba
 simp only
 split
 ·simp only
  split
  ·exact h1
  ·rename_i hne
   exact dS hne
 ·exact h1
def Pl (val:Rd→Val×Rd)(s:List UInt8):Prop:=
 ∀ R,OkR R→OkT R→BT R→R.s=s→BT (val R).2∧∀ n,(val R).2.e=0→kN n (val R).1+R.now.pos≤(val R).2.now.pos
theorem M3 {val:Rd→Val×Rd}{s:List UInt8}(hv:xe val s)(hb:Pl val s):∀ (k:Nat) (b:Bool) (l:List Val) (R:Rd),OkR R→OkT R→BT R→R.s=s→(∀ x∈l,x.ok) →
  BT (cw val k b l R).2∧∀ n,(cw val k b l R).2.e=0→((cw val k b l R).1.map (kN n)).sum+R.now.pos≤(l.map (kN n)).sum+(cw val k b l R).2.now.pos
 | 0,b,l,R,h1,h2,h3,h4,h5=>⟨h3,fun n _=>Nat.le_refl _⟩
 | k+1,b,l,R,h1,h2,h3,h4,h5=>by
   by_cases h:R.e=0∧isT R [93]=false
   ·rw[gO h]
    obtain⟨g1,g2,g3,g4⟩:=iH hv b h1 h2 h4 h.1
    have b1:BT (if b=true then R else aD R [44]):=by
     split
     ·exact h3
     ·exact ek h1 h3
    obtain⟨b2,b3⟩:=hb _ g1.1 g1.2.1 b1 (g1.2.2.1.trans h4)
    have hst:=(hv _ g1.1 g1.2.1 (g1.2.2.1.trans h4)).2.1
    generalize (if b=true then R else aD R [44])=R1 at *
    generalize val R1=q at *
    have hok:∀ x∈l++[q.1],x.ok:=fun x hx=>by
     rcases List.mem_append.1 hx with hx | hx
     ·exact h5 x hx
     ·rw[List.mem_singleton.1 hx];exact g3
    have ih:=M3 hv hb k false (l++[q.1]) q.2 g2.1 g2.2.1 b2 (g2.2.2.1.trans h4) hok
    have hq:=(jE hv k false (l++[q.1]) q.2 g2.1 g2.2.1 (g2.2.2.1.trans h4) hok).2.1
    refine⟨ih.1,fun n he=>?_⟩
    have i1:=ih.2 n he
    have i2:=(hq.2.2.2 he).1
    have i3:=b3 n i2
    have i4:=(g1.2.2.2 (hst.2.2.2 i2).1).2
    rw[List.map_append,List.sum_append,List.map_cons,List.map_nil,List.sum_cons,List.sum_nil] at i1
    omega
   ·rw[gN h]
    exact⟨h3,fun n _=>Nat.le_refl _⟩
theorem Rp {val:Rd→Val×Rd}{s:List UInt8}(hv:xe val s)(hb:Pl val s):∀ (k:Nat) (b:Bool) (seen:List (List UInt8)) (l:List Fld) (R:Rd),OkR R→OkT R→BT R→R.s=s→(∀ x∈l,x.ok) →
  BT (gC val k b seen l R).2∧∀ n,(gC val k b seen l R).2.e=0→((gC val k b seen l R).1.map fun x=>1+kN n x.value).sum+R.now.pos≤(l.map fun x=>1+kN n x.value).sum+(gC val k b seen l R).2.now.pos
 | 0,b,seen,l,R,h1,h2,h3,h4,h5=>⟨h3,fun n _=>Nat.le_refl _⟩
 | k+1,b,seen,l,R,h1,h2,h3,h4,h5=>by
   by_cases h:R.e=0∧isT R [125]=false
   ·rw[kb h]
    obtain⟨g1,gn,g0,gd,g5,g2,g3,g4⟩:=gB hv b seen h1 h2 h4 h.1
    have b1:BT (if b=true then R else aD R [44]):=by
     split
     ·exact h3
     ·exact ek h1 h3
    have bn:BT (jk b R).2:=Kg g1.1 b1
    have bd:BT (eV seen b R):=by
     unfold eV
     split
     ·exact dS (by decide)
     ·exact bn
    have b5:=ek (t:=[58]) gd.1 bd
    have hname:(eV seen b R).e=0→R.now.pos<(eV seen b R).now.pos:=by
     intro he
     have e1:eV seen b R=(jk b R).2:=by
      unfold eV at he ⊢
      split
      ·rename_i hx;rw[if_pos hx] at he;exact absurd he (aX (by decide))
      ·rfl
     rw[e1] at he ⊢
     unfold jk at he ⊢
     generalize (if b=true then R else aD R [44])=R1 at *
     have e2:(db R1).2=(eZ R1 1).2:=by
      unfold db at he ⊢
      simp only at he ⊢
      split
      ·rename_i hx;rw[if_pos hx] at he;exact absurd he (aX (by decide))
      ·rfl
     rw[e2] at he ⊢
     by_cases h0:R1.e=0
     ·by_cases hk:R1.now.kind=1
      ·rw[iY h0 hk] at he ⊢
       have q1:=(cL g1.1 g1.2.1).2 he (by rw[hk];decide)
       have q2:=(g1.2.2.2 h0).2
       simp only at q1 ⊢
       omega
      ·rw[take_2 h0 hk] at he;exact absurd he (aX (by decide))
     ·rw[take_3 h0] at he;exact absurd he h0
    have hst5:=br (t:=[58]) gd.1 gd.2.1
    obtain⟨b2,b3⟩:=hb _ g5.1 g5.2.1 b5 (g5.2.2.1.trans h4)
    have hst:=(hv _ g5.1 g5.2.1 (g5.2.2.1.trans h4)).2.1
    generalize eV seen b R=R3 at *
    generalize aD R3 [58]=R4 at *
    generalize val R4=q at *
    have hok:∀ x∈l++[Fld.mk (jk b R).1 q.1],x.ok:=fun x hx=>by
     rcases List.mem_append.1 hx with hx | hx
     ·exact h5 x hx
     ·rw[List.mem_singleton.1 hx,Fld.ok_mk];exact⟨by omega,g3⟩
    have ih:=Rp hv hb k false (qk seen (jk b R).1) (l++[Fld.mk (jk b R).1 q.1]) q.2 g2.1 g2.2.1 b2 (g2.2.2.1.trans h4) hok
    have hq:=(mM hv k false (qk seen (jk b R).1) (l++[Fld.mk (jk b R).1 q.1]) q.2 g2.1 g2.2.1 (g2.2.2.1.trans h4) hok).2.1
    refine⟨ih.1,fun n he=>?_⟩
    have i1:=ih.2 n he
    have i2:=(hq.2.2.2 he).1
    have i3:=b3 n i2
    have i4:=hst5.2.2.2 (hst.2.2.2 i2).1
    have i5:=hname i4.1
    rw[show ((l++[Fld.mk (jk b R).1 q.1]).map fun x=>1+kN n x.value).sum=(l.map fun x=>1+kN n x.value).sum+(1+kN n q.1) by rw[List.map_append,List.sum_append];rfl] at i1
    omega
   ·rw[ka h]
    exact⟨h3,fun n _=>Nat.le_refl _⟩
theorem DO {α:Type}{l l':List α}(h:l.Perm l')(g:α→Nat):(l.map g).sum=(l'.map g).sum:=(h.map g).sum_nat
theorem kL {n:Nat}{k m s:Int}(h:k<4):kN n (.mk k m s [] [] [])≤1:=by
 cases n with
 | zero=>exact Nat.zero_le _
 | succ n=>
   rw[kN,if_neg (by omega),if_neg (by omega),if_neg (by omega),if_neg (by omega)];exact Nat.le_refl _
theorem Rt {n:Nat}{k m s:Int}{t:List UInt8}(h:k=4∨k=5):kN n (.mk k m s t [] [])≤1+t.length:=by
 cases n with
 | zero=>exact Nat.zero_le _
 | succ n=>rw[kN,if_pos h];exact Nat.le_refl _
theorem Rv {n:Nat}{k m s:Int}(h:k=6∨k=7):kN n (.mk k m s [] [] [])≤2:=by
 cases n with
 | zero=>exact Nat.zero_le _
 | succ n=>rw[kN,if_neg (by omega),if_pos h];exact Nat.le_refl _
theorem Ru {n:Nat}{k:Int}{t:List UInt8}{l:List Val}(h:k=8∨k=10):∃ m,kN n (.mk k 0 0 t l [])≤1+(l.map (kN m)).sum:=by
 cases n with
 | zero=>exact⟨0,Nat.zero_le _⟩
 | succ n=>exact⟨n,by rw[kN,if_neg (by omega),if_neg (by omega),if_pos h];exact Nat.le_refl _⟩
theorem RI {n:Nat}{fs:List Fld}:∃ m,kN n (.mk 9 0 0 [] [] fs)≤1+(fs.map fun x=>1+kN m x.value).sum:=by
 cases n with
 | zero=>exact⟨0,Nat.zero_le _⟩
 | succ n=>exact⟨n,by rw[kN,if_neg (by omega),if_neg (by omega),if_neg (by omega),if_pos rfl];exact Nat.le_refl _⟩
theorem lW {R:Rd}(ps:List UInt8→Int×Int)(hR:OkR R)(hT:OkT R)(h:(ba R ps).2.e=0):R.now.pos<(ba R ps).2.now.pos:=by
 have e1:(ba R ps).2=(eZ R 3).2:=by
  unfold ba at h ⊢
  simp only at h ⊢
  split
  ·rename_i h0
   rw[if_pos h0] at h
   simp only at h ⊢
   split
   ·rfl
   ·rename_i hx;rw[if_neg hx] at h;exact absurd h (aX hx)
  ·rfl
 rw[e1] at h ⊢
 by_cases h0:R.e=0
 ·by_cases hk:R.now.kind=3
  ·rw[iY h0 hk] at h ⊢
   exact (cL hR hT).2 h (by rw[hk];decide)
  ·rw[take_2 h0 hk] at h;exact absurd h (aX (by decide))
 ·rw[take_3 h0] at h;exact absurd h h0
theorem MU {val:Rd→Val×Rd}{s:List UInt8}(hv:xe val s)(hb:Pl val s){R:Rd}{t:Tk}{d:Nat}(hR:OkR R)(hT:OkT R)(hB:BT R)(hs:R.s=s) :
  BT (bJ val R t d).2∧∀ n,(bJ val R t d).2.e=0→kN n (bJ val R t d).1+R.now.pos≤(bJ val R t d).2.now.pos+1:=by
 unfold bJ
 split
 ·split
  ·split
   ·exact⟨dS (by decide),fun n he=>absurd he (aX (by decide))⟩
   ·have h1:=(cL hR hT).1
    obtain⟨b2,b3⟩:=hb (bm R) h1.1 h1.2.1 (pN hR) (h1.2.2.1.trans hs)
    have g2:=(hv (bm R) h1.1 h1.2.1 (h1.2.2.1.trans hs)).2.1
    have hst:=br (t:=[41]) g2.1 g2.2.1
    refine⟨ek g2.1 b2,fun n he=>?_⟩
    simp only at he ⊢
    obtain⟨q1,q2⟩:=hst.2.2.2 he
    obtain⟨q3,q4⟩:=g2.2.2.2 q1
    have q5:=(h1.2.2.2 q3).2
    obtain⟨m,hm⟩:=Ru (n:=n) (k:=10) (t:=t.text) (l:=[(val (bm R)).1]) (.inr rfl)
    have q6:=b3 m q1
    simp only[List.map_cons,List.map_nil,List.sum_cons,List.sum_nil] at hm
    omega
  split
  ·exact⟨hB,fun n he=>by have:=kL (n:=n) (k:=1) (m:=1) (s:=0) (by omega);simp only;omega⟩
  split
  ·exact⟨hB,fun n he=>by have:=kL (n:=n) (k:=1) (m:=0) (s:=0) (by omega);simp only;omega⟩
  split
  ·refine⟨pM cn hR hB,fun n he=>?_⟩
   have:=lW cn hR hT he
   have:=Rv (n:=n) (k:=6) (m:=(ba R cn).1) (s:=0) (.inl rfl)
   simp only;omega
  split
  ·refine⟨pM bP hR hB,fun n he=>?_⟩
   have:=lW bP hR hT he
   have:=Rv (n:=n) (k:=7) (m:=(ba R bP).1) (s:=0) (.inr rfl)
   simp only;omega
  split
  ·exact⟨hB,fun n he=>by have:=kL (n:=n) (k:=0) (m:=0) (s:=0) (by omega);simp only[aP];omega⟩
  ·exact⟨dS (by decide),fun n he=>absurd he (aX (by decide))⟩
 ·rename_i h0
  exact⟨hB,fun n he=>absurd he h0⟩
theorem GB (s:List UInt8)(hsl:s.length≤65536):∀ f d,Pl (aI srt f d) s
 | 0,d=>fun R hR hT hB hs=>by
   by_cases h0:R.e=0
   ·by_cases hg:cU R.now
    ·rw[dE h0 hg];exact⟨dS (by decide),fun n h=>absurd h (aX (by decide))⟩
    ·rw[ij h0 hg];exact⟨dS (by decide),fun n h=>absurd h (aX (by decide))⟩
   ·rw[qn h0];exact⟨hB,fun n h=>absurd h h0⟩
 | f+1,d=>fun R hR hT hB hs=>by
   by_cases h0:¬ R.e=0
   ·rw[qn h0];exact⟨hB,fun n h=>absurd h h0⟩
   have h0:R.e=0:=Classical.not_not.1 h0
   by_cases hg:¬ cU R.now
   ·rw[ij h0 hg];exact⟨dS (by decide),fun n h=>absurd h (aX (by decide))⟩
   have hg:cU R.now:=Classical.not_not.1 hg
   rw[cj h0 hg]
   have ihS:=nS s hsl f (d+1)
   have ihB:=GB s hsl f (d+1)
   obtain⟨a1,a2⟩:=cL hR hT
   have hk:=pn hT h0 hg
   have has1:=a1.2.2.1.trans hs
   have b1:=pN hR
   have hn:=(Cq hR).2
   have hb0:=hB h0 hk
   unfold bj
   split
   ·refine⟨b1,fun n he=>?_⟩
    have:=a2 he hk
    have:=kL (n:=n) (k:=3) (m:=R.now.num) (s:=R.now.sc) (by omega)
    simp only;omega
   split
   ·refine⟨b1,fun n he=>?_⟩
    have:=a2 he hk
    have:=kL (n:=n) (k:=2) (m:=R.now.num) (s:=0) (by omega)
    simp only;omega
   split
   ·refine⟨b1,fun n he=>?_⟩
    have:=hn he
    have:=Rt (n:=n) (k:=4) (m:=0) (s:=0) (t:=R.now.bytes) (.inl rfl)
    simp only
    omega
   split
   ·refine⟨b1,fun n he=>?_⟩
    have:=hn he
    have:=Rt (n:=n) (k:=5) (m:=0) (s:=0) (t:=R.now.bytes) (.inr rfl)
    simp only
    omega
   split
   ·obtain⟨k1,k2⟩:=M3 ihS ihB (R.s.length+2) true [] (bm R) a1.1 a1.2.1 b1 has1 (fun x hx=>by cases hx)
    have hst0:=(jE ihS (R.s.length+2) true [] (bm R) a1.1 a1.2.1 has1 (fun x hx=>by cases hx)).2.1
    have hst:=br (t:=[93]) hst0.1 hst0.2.1
    refine⟨ek hst0.1 k1,fun n he=>?_⟩
    simp only at he ⊢
    obtain⟨q1,q2⟩:=hst.2.2.2 he
    have q3:=a2 (hst0.2.2.2 q1).1 hk
    obtain⟨m,hm⟩:=Ru (n:=n) (k:=8) (t:=[]) (l:=(cw (aI srt f (d+1)) (R.s.length+2) true [] (bm R)).1) (.inl rfl)
    have q4:=k2 m q1
    simp only[List.map_nil,List.sum_nil] at q4
    omega
   split
   ·obtain⟨k1,k2⟩:=Rp ihS ihB (R.s.length+2) true [] [] (bm R) a1.1 a1.2.1 b1 has1 (fun x hx=>by cases hx)
    have hst0:=(mM ihS (R.s.length+2) true [] [] (bm R) a1.1 a1.2.1 has1 (fun x hx=>by cases hx)).2.1
    have hst:=br (t:=[125]) hst0.1 hst0.2.1
    refine⟨ek hst0.1 k1,fun n he=>?_⟩
    simp only at he ⊢
    obtain⟨q1,q2⟩:=hst.2.2.2 he
    have q3:=a2 (hst0.2.2.2 q1).1 hk
    obtain⟨m,hm⟩:=RI (n:=n) (fs:=srt (gC (aI srt f (d+1)) (R.s.length+2) true [] [] (bm R)).1)
    rw[DO (jx _)] at hm
    have q4:=k2 m q1
    simp only[List.map_nil,List.sum_nil] at q4
    omega
   ·obtain⟨k1,k2⟩:=MU (d:=d) (t:=R.now) ihS ihB a1.1 a1.2.1 b1 has1
    have hst:=(G5 (d:=d) (t:=R.now) ihS a1.1 a1.2.1 has1 (hT h0).2.2.1).2
    refine⟨k1,fun n he=>?_⟩
    have q3:=a2 (hst.2.2.2 he).1 hk
    have q4:=k2 n he
    omega
end Go.Proofs.YtamoeblcphjbaaaGreatDoor
-- many steps
namespace Go.Proofs.YtamoeblcphjbaaaGreatDoor
open Go Go.Ab Go.RowKit
attribute [local irreducible] vc
theorem Gc (s:List UInt8):BT (ce s):=by
 by_cases h:65536<s.length
 ·rw[io h];intro h;exact absurd (show (5:Int)=0 from h) (by decide)
 ·rw[il h];exact pN (s7 (by omega))
theorem I5 {v:Val}(h:bQ v=true):v=aP:=by
 obtain⟨k,n,s,t,l,fs⟩:=v
 simp only[bQ,Bool.and_eq_true,decide_eq_true_eq] at h
 obtain⟨rfl,rfl,rfl,rfl,h1,h2⟩:=h
 obtain rfl:=List.eq_nil_of_length_eq_zero h1
 obtain rfl:=List.eq_nil_of_length_eq_zero h2
 rfl
theorem Qm {R:Rd}(h:(gi R).e=0):R.e=0:=by
 unfold gi at h
 split at h
 ·exact absurd h (aX (by decide))
 ·exact h
theorem Qq {v:Val}{R:Rd}(h:(LB v R).2.2=0):R.e=0∧(LB v R).1=v∧(bQ v=true∨BY v=0):=by
 unfold LB at h ⊢
 split at h
 ·rename_i h0
  refine⟨h0,?_⟩
  rw[if_pos h0]
  split at h
  ·rename_i h1;rw[if_pos h1];exact⟨rfl,.inl h1⟩
  ·rename_i h1
   rw[if_neg h1]
   split at h
   ·rename_i h2;rw[if_pos h2];exact⟨rfl,.inr h2⟩
   ·exact absurd h ‹_›
 ·exact absurd h ‹_›
theorem vt:dd [110,117,108,108]=(aP,0,0):=by
 have h1:aI srt 8 0 (ce [110,117,108,108])=(aP,⟨[110,117,108,108],4,{ pos:=4 },0,0⟩):=by rfl
 unfold dd
 rw[h1]
 rfl
theorem rV {s:List UInt8}(hs:s.length≤500)(h:(dd s).2.2=0):∃ X,(dd s).1.ok∧aq Tryz.prog aF 14 [(dd s).1.pv] (.tup [.str X,.int .i64 0])∧dd X=((dd s).1,0,0):=by
 have hv:=(nS s (by omega) 8 0 _ (jB s) (gI s) (j1 s))
 have hb:=(GB s (by omega) 8 0 _ (jB s) (gI s) (Gc s) (j1 s)).2
 have hstart:=j1 s
 unfold dd at h ⊢
 obtain⟨h1,h2,h3⟩:=Qq h
 have he:=Qm h1
 rw[h2]
 generalize aI srt 8 0 (ce s)=q at *
 obtain⟨v,R⟩:=q
 simp only at hv hb h1 h2 h3 he ⊢
 by_cases hc:BY v=0
 ·have hg:=A6 ((nv v).symm.trans hc)
  have hl1:=nU _ 1 v (fF _ v (iG v)) hg.1
  have hl2:=hb (lvl v) he
  have hp:=G1 hv.2.1.1 he
  rw[hv.2.1.2.2.1,hstart] at hp
  have hl:(txt v).length≤65536:=by unfold txt;omega
  have ht:=Pz hv.1 hc
  unfold Ly Lz at ht
  rw[if_neg (by omega),if_neg (by omega)] at ht
  exact⟨txt v,hv.1,ht,xP hc hl⟩
 ·have hn:=h3.resolve_right hc
  obtain rfl:=I5 hn
  have ht:=GF (f:=0) (v:=aP) (fun x hx=>by cases hx) hv.1
  rw[if_pos (.inr hn)] at ht
  exact⟨_,hv.1,ht,vt⟩
end Go.Proofs.YtamoeblcphjbaaaGreatDoor
-- many steps
namespace Go.Proofs.YtamoeblcphjbaaaGreatDoor
open Go Go.Ab Go.RowKit
attribute [local irreducible] vc
section
variable {T:Nat}{p:PV}
set_option maxHeartbeats 4000000 in
theorem RH (s0:List UInt8)(hs:s0.length≤140737488355328):aq Tryz.prog (dM T p) 5 [.str s0] (.bool true):=by
 have hmin:min (s0.length:Int) 500=((min s0.length 500:Nat):Int):=by omega
 obtain⟨s,hse⟩:∃ s,s=s0.take (min s0.length 500):=⟨_,rfl⟩
 have hl:s.length≤500:=by rw[hse,List.length_take];omega
 have hsl:(s0.take (min s0.length 500))=s:=hse.symm
 have hk:=toE (T:=T) (p:=p) Jv
 have h18:=zy (T:=T) (p:=p) s
 have hag:=rV hl
 generalize dd s=q at *
 obtain⟨v,n,e⟩:=q
 simp only at h18 hag
 by_cases he:e=0
 ·obtain⟨X,hv,h14,hX⟩:=hag he
  have h14:=toE (T:=T) (p:=p) h14
  have h18b:=zy (T:=T) (p:=p) X
  rw[hX] at h18b
  have hq:=toE (T:=T) (p:=p) (JW _ v v (iG v) hv hv)
  rw[decide_eq_true ((pI _ v v (iG v)).2 rfl)] at hq
  subst he
  clear hv hX hag hse hl
  obtain⟨k,m,sc,t,l,fs⟩:=v
  simp only[Val.pv_mk] at h18 h14 h18b hq ⊢
  refine aq.intro Oo (by simp[F5]) ?_
  simp(disch:=try exact dI) only[F5,hmin,hsl,push_cast,seval]
  refine ab.pure h18 rfl ?_
  simp(disch:=try exact dI) only[push_cast,seval]
  refine ab.pure hk rfl ?_
  simp(disch:=try exact dI) only[push_cast,seval]
  refine ab.pure h14 rfl ?_
  simp(disch:=try exact dI) only[push_cast,seval]
  refine ab.pure h18b rfl ?_
  simp(disch:=try exact dI) only[push_cast,seval]
  refine ab.pure h14 rfl ?_
  simp(disch:=try exact dI) only[push_cast,seval]
  refine ab.pure hq rfl ?_
  simp(disch:=try exact dI) only[push_cast,seval]
 ·clear hag hse hl
  obtain⟨k,m,sc,t,l,fs⟩:=v
  simp only[Val.pv_mk] at h18 ⊢
  refine aq.intro Oo (by simp[F5]) ?_
  simp(disch:=try exact dI) only[F5,hmin,hsl,push_cast,seval]
  refine ab.pure h18 rfl ?_
  simp(disch:=try exact dI) only[push_cast,seval]
  refine ab.pure hk rfl ?_
  simp(disch:=try exact dI) only[he,push_cast,seval]
  refine ab.pure hk rfl ?_
  simp(disch:=try exact dI) only[push_cast,seval]
end
theorem Gm (q:PV)(p0:PV)(h0:HasT Tryz.prog 9 p0):aq Tryz.prog (dM 270 q) 5 [p0] (.bool true):=by
 obtain⟨s,rfl,hs⟩:=FB h0 Tryz.underlying9
 exact RH s (by omega)
end Go.Proofs.YtamoeblcphjbaaaGreatDoor
