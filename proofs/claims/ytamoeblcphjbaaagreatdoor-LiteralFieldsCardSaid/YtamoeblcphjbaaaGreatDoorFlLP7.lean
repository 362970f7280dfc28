/- A part of the proof for LiteralFieldsCardSaid. -/
import Derived.Test.YtamoeblcphjbaaaGreatDoorFlLP4
import Derived.Test.YtamoeblcphjbaaaGreatDoorFlLP5
import Derived.Test.YtamoeblcphjbaaaGreatDoorFlLP6
import Derived.Test.YtamoeblcphjbaaaGreatDoorFlF
import Derived.Test.YtamoeblcphjbaaaGreatDoorFlLC1
import Derived.Test.YtamoeblcphjbaaaGreatDoorFlLD
import Derived.Test.YtamoeblcphjbaaaGreatDoorFlLP2
import Derived.Test.YtamoeblcphjbaaaGreatDoorFlCore6
set_option maxRecDepth 100000
set_option linter.unusedVariables false
set_option linter.unusedSimpArgs false
namespace Go.Proofs.YtamoeblcphjbaaaGreatDoor
open Go Go.Ab
theorem kU (R:Rd)(i:Nat)(e:Int):(ba R i e).s=R.s:=by unfold ba;split<;>rfl
theorem cp (R:Rd)(i:Nat)(e:Int):(ba R i e).now=R.now:=by unfold ba;split<;>rfl
theorem BV (R:Rd)(i:Nat)(e:Int):(ba R i e).next=R.next:=by unfold ba;split<;>rfl
theorem bZ {R:Rd}{i:Nat}{e:Int}(he:e≠0):(ba R i e).e≠0:=by
 unfold ba;split
 ·exact he
 ·assumption
theorem jS:∀ (f:Nat) (l:List UInt8) (i:Nat) (o:List UInt8) {o':List UInt8} {j:Nat},jm f l i o = .done o' j→i<j∧j≤i+l.length
 | 0,l,i,o,o',j,h=>by cases h
 | f+1,[],i,o,o',j,h=>by cases h
 | f+1,c::r,i,o,o',j,h=>by
   by_cases h1:c.toNat=34
   ·rw[g9 h1] at h;cases h;simp
   by_cases h2:c.toNat<32∨c.toNat=127
   ·rw[go h1 h2] at h;cases h
   by_cases h3:c.toNat=92
   ·by_cases h4:r=[]
    ·subst h4;rw[e6 h3] at h;cases h
    ·rw[eu h3 h4] at h
     split at h
     ·rename_i he
      have:=jA he
      have ih:=jS f _ _ _ h
      rw[List.length_drop] at ih
      rw[List.length_cons];omega
     ·cases h
   ·rw[da h1 h2 h3] at h
    have ih:=jS f _ _ _ h
    rw[List.length_cons];omega
theorem kH:∀ (l:List UInt8) (i:Nat) (q:Option Nat) (o:List UInt8) {o':List UInt8} {j:Nat},jx l i q o = .done o' j→i<j∧j≤i+l.length
 | [],i,q,o,o',j,h=>by cases h
 | c::r,i,q,o,o',j,h=>by
   rw[jx] at h
   split at h
   ·cases h;simp
   ·split at h
    ·cases h
    ·split at h
     ·have ih:=kH r _ _ _ h
      rw[List.length_cons];omega
     ·have ih:=kH r _ _ _ h
      rw[List.length_cons];omega
theorem HD (R:Rd)(i:Nat)(k:Int)(v:Bool)(z:Sc):(bq R i k v z).s=R.s:=by
 cases z with
 | short=>exact kU _ _ _
 | bad j e=>exact kU _ _ _
 | done o j=>simp only[bq];split<;>simp[kU]
theorem oI {R:Rd}{i:Nat}{k:Int}{v:Bool}{z:Sc}(h:(bq R i k v z).e=0)(h0:R.e=0):(∃ o j,z = .done o j∧(bq R i k v z).next=j)∨(∃ j,z = .bad j 0):=by
 cases z with
 | short=>exact absurd h (bZ (by decide))
 | bad j e=>
   by_cases he:e=0
   ·subst he;exact .inr ⟨j,rfl⟩
   ·exact absurd h (bZ he)
 | done o j=>exact .inl ⟨o,j,rfl,rfl⟩
theorem nZ:∀ (f:Nat) (l:List UInt8) (i:Nat) (o:List UInt8) {j:Nat},¬ jm f l i o = .bad j 0
 | 0,l,i,o,j,h=>by cases h
 | f+1,[],i,o,j,h=>by cases h
 | f+1,c::r,i,o,j,h=>by
   by_cases h1:c.toNat=34
   ·rw[g9 h1] at h;cases h
   by_cases h2:c.toNat<32∨c.toNat=127
   ·rw[go h1 h2] at h;cases h
   by_cases h3:c.toNat=92
   ·by_cases h4:r=[]
    ·subst h4;rw[e6 h3] at h;cases h
    ·rw[eu h3 h4] at h
     split at h
     ·exact nZ f _ _ _ h
     ·rename_i hne
      injection h with h5 h6
      exact hne h6
   ·rw[da h1 h2 h3] at h
    exact nZ f _ _ _ h
theorem pw:∀ (l:List UInt8) (i:Nat) (q:Option Nat) (o:List UInt8) {j:Nat},¬ jx l i q o = .bad j 0
 | [],i,q,o,j,h=>by cases h
 | c::r,i,q,o,j,h=>by
   rw[jx] at h
   split at h
   ·cases h
   ·split at h
    ·cases h
    ·split at h
     ·exact pw r _ _ _ h
     ·exact pw r _ _ _ h
theorem Qt (R:Rd)(i:Nat):(sO R i).s=R.s:=HD _ _ _ _ _
theorem Q8 (R:Rd)(i:Nat):(tW R i).s=R.s:=HD _ _ _ _ _
theorem oR (R:Rd)(i:Nat):qm R i=ba R i 13∨∃ w q,qm R i=AG R i w q:=by
 obtain⟨a,ha⟩:∃ a,(if R.s[i]? = some 45 then i+1 else i)=a:=⟨_,rfl⟩
 by_cases hz:bC isD R.s a=a
 ·exact .inl (oT ha hz)
 ·exact .inr ⟨_,_,cw ha rfl hz rfl⟩
theorem NA (R:Rd)(i:Nat)(w:Nat×Bool×Bool)(q:(Int×Nat)×Int):(AG R i w q).s=R.s∧(AG R i w q).now.pos=R.now.pos:=by
 obtain⟨a,x,y⟩:=w
 obtain⟨⟨n,sc⟩,e⟩:=q
 by_cases he:e=0
 ·subst he;rw[cx];exact⟨rfl,rfl⟩
 ·rw[cK he];simp only[kU,cp];exact⟨trivial,trivial⟩
theorem Nx (R:Rd)(i:Nat):(qm R i).s=R.s∧(qm R i).now.pos=R.now.pos:=by
 rcases oR R i with h | ⟨w,q,h⟩
 ·rw[h,kU,cp];exact⟨rfl,rfl⟩
 ·rw[h];exact NA _ _ _ _
theorem Ep {R:Rd}{i:Nat}(h0:R.e=0)(hi:i<R.s.length)(h:(sO R i).e=0):i<(sO R i).next∧(sO R i).next≤R.s.length:=by
 rcases oI h h0 with ⟨o,j,h1,h2⟩ | ⟨j,h1⟩
 ·have:=jS _ _ _ _ h1
  rw[List.length_drop] at this
  unfold sO;rw[h2];omega
 ·exact absurd h1 (nZ _ _ _ _)
theorem Ge {R:Rd}{i:Nat}(h0:R.e=0)(hi:i+1<R.s.length)(h:(tW R i).e=0):i<(tW R i).next∧(tW R i).next≤R.s.length:=by
 rcases oI h h0 with ⟨o,j,h1,h2⟩ | ⟨j,h1⟩
 ·have:=kH _ _ _ _ h1
  rw[List.length_drop] at this
  unfold tW;rw[h2];omega
 ·exact absurd h1 (pw _ _ _ _)
theorem JK {s:List UInt8}{z:Nat}(h:z≤s.length):z≤(wa s z).1∧(wa s z).1≤s.length:=by
 unfold wa
 split
 ·rename_i h1
  have:z<s.length:=by
   rcases Nat.lt_or_ge z s.length with h' | h'
   ·exact h'
   ·rw[List.getElem?_eq_none h'] at h1;cases h1.1
  have h2:z+1≤bC isD s (z+1):=fI
  have h3:bC isD s (z+1)≤s.length:=dh (by omega)
  exact⟨by simp only;omega,h3⟩
 ·split
  ·rename_i h1
   have:z<s.length:=by
    rcases Nat.lt_or_ge z s.length with h' | h'
    ·exact h'
    ·rw[List.getElem?_eq_none h'] at h1;cases h1
   exact⟨by simp only;omega,by simp only;omega⟩
  ·exact⟨Nat.le_refl _,h⟩
theorem FF {R:Rd}{i:Nat}(h0:R.e=0)(hi:i<R.s.length)(h:(qm R i).e=0):i<(qm R i).next∧(qm R i).next≤R.s.length:=by
 obtain⟨a,ha⟩:∃ a,(if R.s[i]? = some 45 then i+1 else i)=a:=⟨_,rfl⟩
 have hal:a≤R.s.length∧i≤a:=by rw[← ha];split<;>omega
 have hz1:a≤bC isD R.s a:=fI
 have hz2:bC isD R.s a≤R.s.length:=dh hal.1
 by_cases hz:bC isD R.s a=a
 ·rw[oT ha hz] at h
  exact absurd h (bZ (by decide))
 ·rw[cw ha rfl hz rfl]
  have hw:=JK hz2
  generalize wa R.s (bC isD R.s a)=w at *
  obtain⟨w1,w2,w3⟩:=w
  generalize be _=q
  obtain⟨⟨n,sc⟩,e⟩:=q
  by_cases he:e=0
  ·subst he
   rw[cx]
   simp only at hw ⊢;omega
  ·rw[cK he]
   simp only[BV] at hw ⊢;omega
theorem F6 (R:Rd)(i:Nat)(c:UInt8):(eh R i c).s=R.s:=by
 unfold eh
 split
 ·exact Qt _ _
 split
 ·exact Q8 _ _
 split
 ·rfl
 split
 ·exact (Nx _ _).1
 split
 ·rfl
 split
 ·rfl
 ·exact kU _ _ _
theorem tK {R:Rd}{i:Nat}{c:UInt8}(h0:R.e=0)(hc:R.s[i]? = some c)(h:(eh R i c).e=0):i<(eh R i c).next∧(eh R i c).next≤R.s.length:=by
 have hi:i<R.s.length:=(List.getElem?_eq_some_iff.1 hc).1
 have l1:∀ {j:Nat} {b:UInt8},R.s[j]? = some b→j<R.s.length:=fun h=>(List.getElem?_eq_some_iff.1 h).1
 unfold eh at h ⊢
 split
 ·rename_i h1;rw[if_pos h1] at h;exact Ep h0 hi h
 rename_i h1
 rw[if_neg h1] at h
 split
 ·rename_i h2;rw[if_pos h2] at h;exact Ge h0 (l1 h2.2) h
 rename_i h2
 rw[if_neg h2] at h
 split
 ·rename_i h3
  have hw:cH c=true:=by unfold cH;rw[h3];rfl
  have e:=sV (q:=cH) hc
  rw[if_pos hw] at e
  have e1:i+1≤bC cH R.s (i+1):=fI
  have e2:bC cH R.s (i+1)≤R.s.length:=dh (by omega)
  simp only
  omega
 rename_i h3
 rw[if_neg h3] at h
 split
 ·rename_i h4;rw[if_pos h4] at h;exact FF h0 hi h
 rename_i h4
 rw[if_neg h4] at h
 split
 ·rename_i h5
  have:=l1 h5.2
  exact⟨by simp only;omega,by simp only;omega⟩
 rename_i h5
 rw[if_neg h5] at h
 split
 ·exact⟨by simp only;omega,by simp only;omega⟩
 ·rename_i h6
  rw[if_neg h6] at h
  exact absurd h (bZ (by decide))
def OkR (R:Rd):Prop:=R.e=0→R.s.length≤65536∧R.now.pos≤R.next∧R.next≤R.s.length∧(R.now.kind≠0→R.now.pos<R.next)
theorem xr {R:Rd}(h:R.e≠0):bt R=R:=if_neg h
theorem C0 {R:Rd}(h:R.e=0)(hi:R.s.length≤bC aZ R.s R.next):bt R = { R with now:={ pos:=bC aZ R.s R.next },next:=bC aZ R.s R.next }:=by
 unfold bt
 rw[if_pos h]
 simp only
 rw[List.getElem?_eq_none hi]
theorem CZ {R:Rd}{c:UInt8}(h:R.e=0)(hi:R.s[bC aZ R.s R.next]? = some c):bt R=eq (eh { R with now:={ pos:=bC aZ R.s R.next },next:=bC aZ R.s R.next } (bC aZ R.s R.next) c) (bC aZ R.s R.next):=by
 unfold bt
 rw[if_pos h]
 simp only
 rw[hi]
theorem Hj (R:Rd)(i:Nat):(eq R i).s=R.s:=by unfold eq;split<;>rfl
theorem yf (R:Rd)(i:Nat):(eq R i).next=R.next:=by unfold eq;split<;>rfl
theorem Hk (R:Rd)(i:Nat):(eq R i).e=R.e:=by unfold eq;split<;>rfl
theorem DV (R:Rd)(i:Nat):(eq R i).now.pos=R.now.pos:=by unfold eq;split<;>rfl
theorem OI (R:Rd):(bt R).s=R.s:=by
 by_cases h:R.e=0
 ·by_cases hi:R.s.length≤bC aZ R.s R.next
  ·rw[C0 h hi]
  ·obtain⟨c,hc⟩:∃ c,R.s[bC aZ R.s R.next]? = some c:=⟨_,List.getElem?_eq_getElem (by omega)⟩
   rw[CZ h hc,Hj,F6]
 ·rw[xr h]
theorem J7 (R:Rd)(i:Nat)(c:UInt8):(eh R i c).now.pos=R.now.pos:=by
 unfold eh
 split
 ·unfold sO
  generalize jm _ _ _ _=z
  cases z with
  | short=>simp only[bq,cp]
  | bad j e=>simp only[bq,cp]
  | done o j=>simp only[bq];split<;>simp[cp]
 split
 ·unfold tW
  generalize jx _ _ _ _=z
  cases z with
  | short=>simp only[bq,cp]
  | bad j e=>simp only[bq,cp]
  | done o j=>simp only[bq];split<;>simp[cp]
 split
 ·rfl
 split
 ·exact (Nx _ _).2
 split
 ·rfl
 split
 ·rfl
 ·rw[cp]
theorem uL {R:Rd}(h:(bt R).e=0):R.e=0:=by
 by_cases h0:R.e=0
 ·exact h0
 ·rw[xr h0] at h;exact h
theorem Ic {R:Rd}(hR:OkR R):OkR (bt R)∧((bt R).e=0→R.next≤(bt R).now.pos):=by
 by_cases h:R.e=0
 ·obtain⟨h1,h2,h3,h4⟩:=hR h
  have r1:R.next≤bC aZ R.s R.next:=fI
  have r2:bC aZ R.s R.next≤R.s.length:=dh h3
  by_cases hi:R.s.length≤bC aZ R.s R.next
  ·rw[C0 h hi]
   exact⟨fun _=>⟨h1,Nat.le_refl _,r2,fun hk=>absurd rfl hk⟩,fun _=>r1⟩
  ·obtain⟨c,hc⟩:∃ c,R.s[bC aZ R.s R.next]? = some c:=⟨_,List.getElem?_eq_getElem (by omega)⟩
   rw[CZ h hc]
   generalize bC aZ R.s R.next=i at *
   have hn:=tK (R:={ R with now:={ pos:=i },next:=i }) (i:=i) (c:=c) h hc
   have hs:=F6 { R with now:={ pos:=i },next:=i } i c
   have hp:=J7 { R with now:={ pos:=i },next:=i } i c
   generalize eh { R with now:={ pos:=i },next:=i } i c=L at *
   unfold OkR
   rw[Hk,Hj,DV,yf]
   simp only at hs hp
   rw[hs,hp]
   exact⟨fun he=>⟨h1,by have:=hn he;omega,(hn he).2,fun _=>(hn he).1⟩,fun _=>r1⟩
 ·rw[xr h]
  exact⟨hR,fun h'=>absurd h' h⟩
end Go.Proofs.YtamoeblcphjbaaaGreatDoor
-- many steps
namespace Go.Proofs.YtamoeblcphjbaaaGreatDoor
open Go Go.Ab
attribute [local irreducible] vc
def Dx:List UInt8:=[48,49,50,51,52,53,54,55,56,57,97,98,99,100,101,102]
def hxB (n:Nat):UInt8:=Dx.getD n 0
theorem Bu {n:Nat}(h:n<16):Dx[n]? = some (hxB n):=by
 unfold hxB
 rw[List.getD_eq_getElem?_getD,List.getElem?_eq_getElem (by simpa[Dx] using h)];rfl
def nQ (c:UInt8):List UInt8:=(if 16≤c.toNat then [hxB (c.toNat / 16)] else [])++[hxB (c.toNat % 16)]
def cP (c:UInt8):List UInt8:=
 if c.toNat=34∨c.toNat=92 then [92,c] else if c.toNat=10 then [92,110] else if c.toNat=13 then [92,114] else if c.toNat=9 then [92,116]
 else if c.toNat<32∨c.toNat=127 then 92::117::123::(nQ c++[125]) else [c]
def aQ (s:List UInt8):List UInt8:=34::(s.flatMap cP++[34])
theorem GF (c:UInt8):(cP c).length≤6:=by
 unfold cP nQ
 repeat' split
 all_goals simp
theorem gJ (s:List UInt8):(s.flatMap cP).length≤6*s.length:=by
 induction s with
 | nil=>simp
 | cons c r ih=>have:=GF c;simp only[List.flatMap_cons,List.length_append,List.length_cons];omega
theorem my (a b:List UInt8):aA (a++b)=aA a++aA b:=by simp[aA]
theorem dw (a:List UInt8):(aA a).length=a.length:=by simp[aA]
theorem gI {s:List UInt8}{i:Nat}{c:UInt8}(h:s[i]? = some c)(f:UInt8→List UInt8):(s.take (i+1)).flatMap f=(s.take i).flatMap f++f c:=by
 rw[aP h];simp
theorem GD {c:UInt8}(h:c.toNat=34∨c.toNat=92):cP c=[92,c]:=if_pos h
theorem KB {c:UInt8}(h:c.toNat=10):cP c=[92,110]:=by unfold cP;rw[if_neg (by omega),if_pos h]
theorem KA {c:UInt8}(h:c.toNat=13):cP c=[92,114]:=by unfold cP;rw[if_neg (by omega),if_neg (by omega),if_pos h]
theorem Kz {c:UInt8}(h:c.toNat=9):cP c=[92,116]:=by unfold cP;rw[if_neg (by omega),if_neg (by omega),if_neg (by omega),if_pos h]
theorem Ky {c:UInt8}(h:c.toNat<32∨c.toNat=127)(h1:¬ c.toNat=10)(h2:¬ c.toNat=13)(h3:¬ c.toNat=9):cP c=92::117::123::(nQ c++[125]):=by
 unfold cP;rw[if_neg (by omega),if_neg h1,if_neg h2,if_neg h3,if_pos h]
theorem GC {c:UInt8}(h:¬ (c.toNat<32∨c.toNat=127))(h0:¬ (c.toNat=34∨c.toNat=92)):cP c=[c]:=by
 unfold cP;rw[if_neg h0,if_neg (by omega),if_neg (by omega),if_neg (by omega),if_neg h]
set_option maxHeartbeats 4000000 in
theorem Fh (s:List UInt8)(hs:s.length≤100000):aq Tryz.prog aF 21 [.str s] (.str (aQ s)):=by
 refine aq.intro PB (by simp[F21]) ?_
 simp(disch:=try exact dI) only[F21,push_cast,seval]
 refine aN ([]) (fun i:Nat=>[(4,.olist 0 1 (aA (34::(s.take i).flatMap cP))),(5,.pv (.int .i64 (i:Int)))]) (fun _=>[]) (fun i=>i≤s.length) (fun i=>s.length - i) (0) ?_;intro e0 σ0 n0 h0;simp(disch:=try exact dI) only[push_cast,seval] at h0;obtain⟨rfl,rfl,rfl⟩:=h0;refine⟨?_,?_,?_⟩
 ·simp(disch:=try exact dI) only[push_cast,seval]
  exact .refl _
 ·omega
 ·rintro i hi
  by_cases hlt:i<s.length
  ·obtain⟨c,hc⟩:∃ c,s[i]? = some c:=⟨_,List.getElem?_eq_getElem hlt⟩
   have hltI:(i:Int)<(s.length:Int):=by omega
   have hB:aA (34::(s.take (i+1)).flatMap cP)=aA (34::(s.take i).flatMap cP)++aA (cP c):=by
    rw[gI hc,← List.cons_append,my]
   have hl:(aA (34::(s.take i).flatMap cP)).length≤600001:=by
    have:=gJ (s.take i)
    rw[dw,List.length_cons]
    rw[List.length_take] at this
    omega
   generalize aA (34::(s.take i).flatMap cP)=Q at *
   by_cases h1:c.toNat=34∨c.toNat=92
   ·have hE:aA (cP c)=[.int .u8 92,.int .u8 (c.toNat:Int)]:=by rw[GD h1];rfl
    rw[hE] at hB
    by_cases h34:c.toNat=34
    ·have h34I:(c.toNat:Int)=34:=by omega
     simp(disch:=try exact dI) only[hltI,hc,h34I,push_cast,seval]
     exact⟨i+1,bz (by simp(disch:=try exact dI) only[hB,h34I,push_cast,seval]),by omega,by omega⟩
    ·have h34I:¬ (c.toNat:Int)=34:=by omega
     have h92I:(c.toNat:Int)=92:=by omega
     simp(disch:=try exact dI) only[hltI,hc,h34I,h92I,push_cast,seval]
     exact⟨i+1,bz (by simp(disch:=try exact dI) only[hB,h92I,push_cast,seval]),by omega,by omega⟩
   ·have h34I:¬ (c.toNat:Int)=34:=by omega
    have h92I:¬ (c.toNat:Int)=92:=by omega
    by_cases h10:c.toNat=10
    ·have h10I:(c.toNat:Int)=10:=by omega
     have hE:aA (cP c)=[.int .u8 92,.int .u8 110]:=by rw[KB h10];rfl
     rw[hE] at hB
     clear h34I h92I
     simp(disch:=try exact dI) only[hltI,hc,h10I,push_cast,seval]
     exact⟨i+1,bz (by simp(disch:=try exact dI) only[hB,push_cast,seval]),by omega,by omega⟩
    have h10I:¬ (c.toNat:Int)=10:=by omega
    by_cases h13:c.toNat=13
    ·have h13I:(c.toNat:Int)=13:=by omega
     have hE:aA (cP c)=[.int .u8 92,.int .u8 114]:=by rw[KA h13];rfl
     rw[hE] at hB
     clear h34I h92I h10I
     simp(disch:=try exact dI) only[hltI,hc,h13I,push_cast,seval]
     exact⟨i+1,bz (by simp(disch:=try exact dI) only[hB,push_cast,seval]),by omega,by omega⟩
    have h13I:¬ (c.toNat:Int)=13:=by omega
    by_cases h9:c.toNat=9
    ·have h9I:(c.toNat:Int)=9:=by omega
     have hE:aA (cP c)=[.int .u8 92,.int .u8 116]:=by rw[Kz h9];rfl
     rw[hE] at hB
     clear h34I h92I h10I h13I
     simp(disch:=try exact dI) only[hltI,hc,h9I,push_cast,seval]
     exact⟨i+1,bz (by simp(disch:=try exact dI) only[hB,push_cast,seval]),by omega,by omega⟩
    have h9I:¬ (c.toNat:Int)=9:=by omega
    by_cases h5:c.toNat<32∨c.toNat=127
    ·obtain⟨q,hqN⟩:∃ q,q=c.toNat / 16:=⟨_,rfl⟩
     obtain⟨m,hmN⟩:∃ m,m=c.toNat % 16:=⟨_,rfl⟩
     have hq:((c.toNat:Int) / 16)=(q:Int):=by omega
     have hm:((c.toNat:Int) % 16)=(m:Int):=by omega
     have hxq:=Bu (n:=q) (by omega)
     have hxm:=Bu (n:=m) (by omega)
     unfold Dx at hxq hxm
     have hE:=congrArg aA (Ky h5 h10 h13 h9)
     unfold nQ at hE
     rw[← hqN,← hmN] at hE
     by_cases h16:16≤c.toNat
     ·have h16I:(16:Int)≤(c.toNat:Int):=by omega
      rw[if_pos h16] at hE
      replace hE:aA (cP c)=[.int .u8 92,.int .u8 117,.int .u8 123,.int .u8 ((hxB q).toNat:Int),.int .u8 ((hxB m).toNat:Int),.int .u8 125]:=hE
      rw[hE] at hB
      by_cases h32:c.toNat<32
      ·have h32I:(c.toNat:Int)<32:=by omega
       simp(disch:=try exact dI) only[hltI,hc,h34I,h92I,h10I,h13I,h9I,h32I,h16I,hq,hm,hxq,hxm,push_cast,seval]
       exact⟨i+1,bz (by simp(disch:=try exact dI) only[hB,List.append_assoc,List.cons_append,List.nil_append,push_cast,seval]),by omega,by omega⟩
      ·have h32I:¬ (c.toNat:Int)<32:=by omega
       have h127:((c.toNat:Int)=127)=True:=eq_true (by omega)
       simp(disch:=try exact dI) only[hltI,hc,h34I,h92I,h10I,h13I,h9I,h32I,h127,h16I,hq,hm,hxq,hxm,push_cast,seval]
       exact⟨i+1,bz (by simp(disch:=try exact dI) only[hB,List.append_assoc,List.cons_append,List.nil_append,push_cast,seval]),by omega,by omega⟩
     ·have h16I:¬ (16:Int)≤(c.toNat:Int):=by omega
      rw[if_neg h16] at hE
      replace hE:aA (cP c)=[.int .u8 92,.int .u8 117,.int .u8 123,.int .u8 ((hxB m).toNat:Int),.int .u8 125]:=hE
      rw[hE] at hB
      have h32I:(c.toNat:Int)<32:=by omega
      simp(disch:=try exact dI) only[hltI,hc,h34I,h92I,h10I,h13I,h9I,h32I,h16I,hm,hxm,push_cast,seval]
      exact⟨i+1,bz (by simp(disch:=try exact dI) only[hB,List.append_assoc,List.cons_append,List.nil_append,push_cast,seval]),by omega,by omega⟩
    ·have h32I:¬ (c.toNat:Int)<32:=by omega
     have h127I:¬ (c.toNat:Int)=127:=by omega
     have hE:aA (cP c)=[.int .u8 (c.toNat:Int)]:=by rw[GC h5 h1];rfl
     rw[hE] at hB
     simp(disch:=try exact dI) only[hltI,hc,h34I,h92I,h10I,h13I,h9I,h32I,h127I,push_cast,seval]
     exact⟨i+1,bz (by simp(disch:=try exact dI) only[hB,push_cast,seval]),by omega,by omega⟩
  ·have hltI:¬ (i:Int)<(s.length:Int):=by omega
   obtain rfl:i=s.length:=by omega
   have hl:(aA (34::(s.take s.length).flatMap cP)).length≤600001:=by
    have:=gJ s
    rw[dw,List.length_cons,List.take_length]
    omega
   have hU:u8s (aA (34::(s.take s.length).flatMap cP)++[.int .u8 34])=some (aQ s):=by
    rw[List.take_length,show aA (34::s.flatMap cP)++[.int .u8 34]=aA (aQ s) by simp[aA,aQ]]
    exact gj _
   generalize aA (34::(s.take s.length).flatMap cP)=Q at *
   simp(disch:=try exact dI) only[hltI,hU,push_cast,seval]
end Go.Proofs.YtamoeblcphjbaaaGreatDoor
