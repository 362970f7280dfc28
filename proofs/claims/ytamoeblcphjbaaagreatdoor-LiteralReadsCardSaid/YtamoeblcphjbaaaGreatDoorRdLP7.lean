/- A part of the proof for LiteralReadsCardSaid. -/
import Derived.Test.YtamoeblcphjbaaaGreatDoorRdLP4
import Derived.Test.YtamoeblcphjbaaaGreatDoorRdLP5
import Derived.Test.YtamoeblcphjbaaaGreatDoorRdLP6
import Derived.Test.YtamoeblcphjbaaaGreatDoorRdF
import Derived.Test.YtamoeblcphjbaaaGreatDoorRdLC1
import Derived.Test.YtamoeblcphjbaaaGreatDoorRdLD
import Derived.Test.YtamoeblcphjbaaaGreatDoorRdLP2
import Derived.Test.YtamoeblcphjbaaaGreatDoorCore6
set_option maxRecDepth 100000
set_option linter.unusedVariables false
set_option linter.unusedSimpArgs false
namespace Go.Proofs.YtamoeblcphjbaaaGreatDoor
open Go Go.Ab
theorem kC (R:Rd)(i:Nat)(e:Int):(aZ R i e).s=R.s:=by unfold aZ;split<;>rfl
theorem cl (R:Rd)(i:Nat)(e:Int):(aZ R i e).now=R.now:=by unfold aZ;split<;>rfl
theorem AS (R:Rd)(i:Nat)(e:Int):(aZ R i e).next=R.next:=by unfold aZ;split<;>rfl
theorem bX {R:Rd}{i:Nat}{e:Int}(he:e≠0):(aZ R i e).e≠0:=by
 unfold aZ;split
 ·exact he
 ·assumption
theorem jG:∀ (f:Nat) (l:List UInt8) (i:Nat) (o:List UInt8) {o':List UInt8} {j:Nat},jd f l i o = .done o' j→i<j∧j≤i+l.length
 | 0,l,i,o,o',j,h=>by cases h
 | f+1,[],i,o,o',j,h=>by cases h
 | f+1,c::r,i,o,o',j,h=>by
   by_cases h1:c.toNat=34
   ·rw[gW h1] at h;cases h;simp
   by_cases h2:c.toNat<32∨c.toNat=127
   ·rw[gj h1 h2] at h;cases h
   by_cases h3:c.toNat=92
   ·by_cases h4:r=[]
    ·subst h4;rw[eW h3] at h;cases h
    ·rw[eo h3 h4] at h
     split at h
     ·rename_i he
      have:=jr he
      have ih:=jG f _ _ _ h
      rw[List.length_drop] at ih
      rw[List.length_cons];omega
     ·cases h
   ·rw[da h1 h2 h3] at h
    have ih:=jG f _ _ _ h
    rw[List.length_cons];omega
theorem kq:∀ (l:List UInt8) (i:Nat) (q:Option Nat) (o:List UInt8) {o':List UInt8} {j:Nat},jo l i q o = .done o' j→i<j∧j≤i+l.length
 | [],i,q,o,o',j,h=>by cases h
 | c::r,i,q,o,o',j,h=>by
   rw[jo] at h
   split at h
   ·cases h;simp
   ·split at h
    ·cases h
    ·split at h
     ·have ih:=kq r _ _ _ h
      rw[List.length_cons];omega
     ·have ih:=kq r _ _ _ h
      rw[List.length_cons];omega
theorem Gz (R:Rd)(i:Nat)(k:Int)(v:Bool)(z:Sc):(bn R i k v z).s=R.s:=by
 cases z with
 | short=>exact kC _ _ _
 | bad j e=>exact kC _ _ _
 | done o j=>simp only[bn];split<;>simp[kC]
theorem n9 {R:Rd}{i:Nat}{k:Int}{v:Bool}{z:Sc}(h:(bn R i k v z).e=0)(h0:R.e=0):(∃ o j,z = .done o j∧(bn R i k v z).next=j)∨(∃ j,z = .bad j 0):=by
 cases z with
 | short=>exact absurd h (bX (by decide))
 | bad j e=>
   by_cases he:e=0
   ·subst he;exact .inr ⟨j,rfl⟩
   ·exact absurd h (bX he)
 | done o j=>exact .inl ⟨o,j,rfl,rfl⟩
theorem nE:∀ (f:Nat) (l:List UInt8) (i:Nat) (o:List UInt8) {j:Nat},¬ jd f l i o = .bad j 0
 | 0,l,i,o,j,h=>by cases h
 | f+1,[],i,o,j,h=>by cases h
 | f+1,c::r,i,o,j,h=>by
   by_cases h1:c.toNat=34
   ·rw[gW h1] at h;cases h
   by_cases h2:c.toNat<32∨c.toNat=127
   ·rw[gj h1 h2] at h;cases h
   by_cases h3:c.toNat=92
   ·by_cases h4:r=[]
    ·subst h4;rw[eW h3] at h;cases h
    ·rw[eo h3 h4] at h
     split at h
     ·exact nE f _ _ _ h
     ·rename_i hne
      injection h with h5 h6
      exact hne h6
   ·rw[da h1 h2 h3] at h
    exact nE f _ _ _ h
theorem oX:∀ (l:List UInt8) (i:Nat) (q:Option Nat) (o:List UInt8) {j:Nat},¬ jo l i q o = .bad j 0
 | [],i,q,o,j,h=>by cases h
 | c::r,i,q,o,j,h=>by
   rw[jo] at h
   split at h
   ·cases h
   ·split at h
    ·cases h
    ·split at h
     ·exact oX r _ _ _ h
     ·exact oX r _ _ _ h
theorem Pp (R:Rd)(i:Nat):(sd R i).s=R.s:=Gz _ _ _ _ _
theorem P3 (R:Rd)(i:Nat):(th R i).s=R.s:=Gz _ _ _ _ _
theorem om (R:Rd)(i:Nat):pJ R i=aZ R i 13∨∃ w q,pJ R i=zu R i w q:=by
 obtain⟨a,ha⟩:∃ a,(if R.s[i]? = some 45 then i+1 else i)=a:=⟨_,rfl⟩
 by_cases hz:bx isD R.s a=a
 ·exact .inl (oq ha hz)
 ·exact .inr ⟨_,_,ct ha rfl hz rfl⟩
theorem Mw (R:Rd)(i:Nat)(w:Nat×Bool×Bool)(q:(Int×Nat)×Int):(zu R i w q).s=R.s∧(zu R i w q).now.pos=R.now.pos:=by
 obtain⟨a,x,y⟩:=w
 obtain⟨⟨n,sc⟩,e⟩:=q
 by_cases he:e=0
 ·subst he;rw[cu];exact⟨rfl,rfl⟩
 ·rw[cK he];simp only[kC,cl];exact⟨trivial,trivial⟩
theorem Mu (R:Rd)(i:Nat):(pJ R i).s=R.s∧(pJ R i).now.pos=R.now.pos:=by
 rcases om R i with h | ⟨w,q,h⟩
 ·rw[h,kC,cl];exact⟨rfl,rfl⟩
 ·rw[h];exact Mw _ _ _ _
theorem Do {R:Rd}{i:Nat}(h0:R.e=0)(hi:i<R.s.length)(h:(sd R i).e=0):i<(sd R i).next∧(sd R i).next≤R.s.length:=by
 rcases n9 h h0 with ⟨o,j,h1,h2⟩ | ⟨j,h1⟩
 ·have:=jG _ _ _ _ h1
  rw[List.length_drop] at this
  unfold sd;rw[h2];omega
 ·exact absurd h1 (nE _ _ _ _)
theorem E9 {R:Rd}{i:Nat}(h0:R.e=0)(hi:i+1<R.s.length)(h:(th R i).e=0):i<(th R i).next∧(th R i).next≤R.s.length:=by
 rcases n9 h h0 with ⟨o,j,h1,h2⟩ | ⟨j,h1⟩
 ·have:=kq _ _ _ _ h1
  rw[List.length_drop] at this
  unfold th;rw[h2];omega
 ·exact absurd h1 (oX _ _ _ _)
theorem IF {s:List UInt8}{z:Nat}(h:z≤s.length):z≤(vp s z).1∧(vp s z).1≤s.length:=by
 unfold vp
 split
 ·rename_i h1
  have:z<s.length:=by
   rcases Nat.lt_or_ge z s.length with h' | h'
   ·exact h'
   ·rw[List.getElem?_eq_none h'] at h1;cases h1.1
  have h2:z+1≤bx isD s (z+1):=fD
  have h3:bx isD s (z+1)≤s.length:=df (by omega)
  exact⟨by simp only;omega,h3⟩
 ·split
  ·rename_i h1
   have:z<s.length:=by
    rcases Nat.lt_or_ge z s.length with h' | h'
    ·exact h'
    ·rw[List.getElem?_eq_none h'] at h1;cases h1
   exact⟨by simp only;omega,by simp only;omega⟩
  ·exact⟨Nat.le_refl _,h⟩
theorem EC {R:Rd}{i:Nat}(h0:R.e=0)(hi:i<R.s.length)(h:(pJ R i).e=0):i<(pJ R i).next∧(pJ R i).next≤R.s.length:=by
 obtain⟨a,ha⟩:∃ a,(if R.s[i]? = some 45 then i+1 else i)=a:=⟨_,rfl⟩
 have hal:a≤R.s.length∧i≤a:=by rw[← ha];split<;>omega
 have hz1:a≤bx isD R.s a:=fD
 have hz2:bx isD R.s a≤R.s.length:=df hal.1
 by_cases hz:bx isD R.s a=a
 ·rw[oq ha hz] at h
  exact absurd h (bX (by decide))
 ·rw[ct ha rfl hz rfl]
  have hw:=IF hz2
  generalize vp R.s (bx isD R.s a)=w at *
  obtain⟨w1,w2,w3⟩:=w
  generalize bd _=q
  obtain⟨⟨n,sc⟩,e⟩:=q
  by_cases he:e=0
  ·subst he
   rw[cu]
   simp only at hw ⊢;omega
  ·rw[cK he]
   simp only[AS] at hw ⊢;omega
theorem E1 (R:Rd)(i:Nat)(c:UInt8):(ed R i c).s=R.s:=by
 unfold ed
 split
 ·exact Pp _ _
 split
 ·exact P3 _ _
 split
 ·rfl
 split
 ·exact (Mu _ _).1
 split
 ·rfl
 split
 ·rfl
 ·exact kC _ _ _
theorem sX {R:Rd}{i:Nat}{c:UInt8}(h0:R.e=0)(hc:R.s[i]? = some c)(h:(ed R i c).e=0):i<(ed R i c).next∧(ed R i c).next≤R.s.length:=by
 have hi:i<R.s.length:=(List.getElem?_eq_some_iff.1 hc).1
 have l1:∀ {j:Nat} {b:UInt8},R.s[j]? = some b→j<R.s.length:=fun h=>(List.getElem?_eq_some_iff.1 h).1
 unfold ed at h ⊢
 split
 ·rename_i h1;rw[if_pos h1] at h;exact Do h0 hi h
 rename_i h1
 rw[if_neg h1] at h
 split
 ·rename_i h2;rw[if_pos h2] at h;exact E9 h0 (l1 h2.2) h
 rename_i h2
 rw[if_neg h2] at h
 split
 ·rename_i h3
  have hw:cH c=true:=by unfold cH;rw[h3];rfl
  have e:=sl (q:=cH) hc
  rw[if_pos hw] at e
  have e1:i+1≤bx cH R.s (i+1):=fD
  have e2:bx cH R.s (i+1)≤R.s.length:=df (by omega)
  simp only
  omega
 rename_i h3
 rw[if_neg h3] at h
 split
 ·rename_i h4;rw[if_pos h4] at h;exact EC h0 hi h
 rename_i h4
 rw[if_neg h4] at h
 split
 ·rename_i h5
  have:=l1 h5.2
  exact⟨by simp only;omega,by simp only;omega⟩
 rename_i h5
 rw[if_neg h5] at h
 split
 ·exact⟨by simp only;omega,by simp only;omega⟩
 ·rename_i h6
  rw[if_neg h6] at h
  exact absurd h (bX (by decide))
def OkR (R:Rd):Prop:=R.e=0→R.s.length≤65536∧R.now.pos≤R.next∧R.next≤R.s.length∧(R.now.kind≠0→R.now.pos<R.next)
theorem wG {R:Rd}(h:R.e≠0):bq R=R:=if_neg h
theorem B1 {R:Rd}(h:R.e=0)(hi:R.s.length≤bx aY R.s R.next):bq R = { R with now:={ pos:=bx aY R.s R.next },next:=bx aY R.s R.next }:=by
 unfold bq
 rw[if_pos h]
 simp only
 rw[List.getElem?_eq_none hi]
theorem B0 {R:Rd}{c:UInt8}(h:R.e=0)(hi:R.s[bx aY R.s R.next]? = some c):bq R=en (ed { R with now:={ pos:=bx aY R.s R.next },next:=bx aY R.s R.next } (bx aY R.s R.next) c) (bx aY R.s R.next):=by
 unfold bq
 rw[if_pos h]
 simp only
 rw[hi]
theorem Gd (R:Rd)(i:Nat):(en R i).s=R.s:=by unfold en;split<;>rfl
theorem xG (R:Rd)(i:Nat):(en R i).next=R.next:=by unfold en;split<;>rfl
theorem Ge (R:Rd)(i:Nat):(en R i).e=R.e:=by unfold en;split<;>rfl
theorem CP (R:Rd)(i:Nat):(en R i).now.pos=R.now.pos:=by unfold en;split<;>rfl
theorem NB (R:Rd):(bq R).s=R.s:=by
 by_cases h:R.e=0
 ·by_cases hi:R.s.length≤bx aY R.s R.next
  ·rw[B1 h hi]
  ·obtain⟨c,hc⟩:∃ c,R.s[bx aY R.s R.next]? = some c:=⟨_,List.getElem?_eq_getElem (by omega)⟩
   rw[B0 h hc,Gd,E1]
 ·rw[wG h]
theorem I4 (R:Rd)(i:Nat)(c:UInt8):(ed R i c).now.pos=R.now.pos:=by
 unfold ed
 split
 ·unfold sd
  generalize jd _ _ _ _=z
  cases z with
  | short=>simp only[bn,cl]
  | bad j e=>simp only[bn,cl]
  | done o j=>simp only[bn];split<;>simp[cl]
 split
 ·unfold th
  generalize jo _ _ _ _=z
  cases z with
  | short=>simp only[bn,cl]
  | bad j e=>simp only[bn,cl]
  | done o j=>simp only[bn];split<;>simp[cl]
 split
 ·rfl
 split
 ·exact (Mu _ _).2
 split
 ·rfl
 split
 ·rfl
 ·rw[cl]
theorem tQ {R:Rd}(h:(bq R).e=0):R.e=0:=by
 by_cases h0:R.e=0
 ·exact h0
 ·rw[wG h0] at h;exact h
theorem G9 {R:Rd}(hR:OkR R):OkR (bq R)∧((bq R).e=0→R.next≤(bq R).now.pos):=by
 by_cases h:R.e=0
 ·obtain⟨h1,h2,h3,h4⟩:=hR h
  have r1:R.next≤bx aY R.s R.next:=fD
  have r2:bx aY R.s R.next≤R.s.length:=df h3
  by_cases hi:R.s.length≤bx aY R.s R.next
  ·rw[B1 h hi]
   exact⟨fun _=>⟨h1,Nat.le_refl _,r2,fun hk=>absurd rfl hk⟩,fun _=>r1⟩
  ·obtain⟨c,hc⟩:∃ c,R.s[bx aY R.s R.next]? = some c:=⟨_,List.getElem?_eq_getElem (by omega)⟩
   rw[B0 h hc]
   generalize bx aY R.s R.next=i at *
   have hn:=sX (R:={ R with now:={ pos:=i },next:=i }) (i:=i) (c:=c) h hc
   have hs:=E1 { R with now:={ pos:=i },next:=i } i c
   have hp:=I4 { R with now:={ pos:=i },next:=i } i c
   generalize ed { R with now:={ pos:=i },next:=i } i c=L at *
   unfold OkR
   rw[Ge,Gd,CP,xG]
   simp only at hs hp
   rw[hs,hp]
   exact⟨fun he=>⟨h1,by have:=hn he;omega,(hn he).2,fun _=>(hn he).1⟩,fun _=>r1⟩
 ·rw[wG h]
  exact⟨hR,fun h'=>absurd h' h⟩
end Go.Proofs.YtamoeblcphjbaaaGreatDoor
-- many steps
namespace Go.Proofs.YtamoeblcphjbaaaGreatDoor
open Go Go.Ab
attribute [local irreducible] vc
def Cs:List UInt8:=[48,49,50,51,52,53,54,55,56,57,97,98,99,100,101,102]
def hxB (n:Nat):UInt8:=Cs.getD n 0
theorem Ax {n:Nat}(h:n<16):Cs[n]? = some (hxB n):=by
 unfold hxB
 rw[List.getD_eq_getElem?_getD,List.getElem?_eq_getElem (by simpa[Cs] using h)];rfl
def nt (c:UInt8):List UInt8:=(if 16≤c.toNat then [hxB (c.toNat / 16)] else [])++[hxB (c.toNat % 16)]
def cP (c:UInt8):List UInt8:=
 if c.toNat=34∨c.toNat=92 then [92,c] else if c.toNat=10 then [92,110] else if c.toNat=13 then [92,114] else if c.toNat=9 then [92,116]
 else if c.toNat<32∨c.toNat=127 then 92::117::123::(nt c++[125]) else [c]
def aO (s:List UInt8):List UInt8:=34::(s.flatMap cP++[34])
theorem FB (c:UInt8):(cP c).length≤6:=by
 unfold cP nt
 repeat' split
 all_goals simp
theorem gG (s:List UInt8):(s.flatMap cP).length≤6*s.length:=by
 induction s with
 | nil=>simp
 | cons c r ih=>have:=FB c;simp only[List.flatMap_cons,List.length_append,List.length_cons];omega
theorem l6 (a b:List UInt8):aA (a++b)=aA a++aA b:=by simp[aA]
theorem eI (a:List UInt8):(aA a).length=a.length:=by simp[aA]
theorem gF {s:List UInt8}{i:Nat}{c:UInt8}(h:s[i]? = some c)(f:UInt8→List UInt8):(s.take (i+1)).flatMap f=(s.take i).flatMap f++f c:=by
 rw[aR h];simp
theorem Fz {c:UInt8}(h:c.toNat=34∨c.toNat=92):cP c=[92,c]:=if_pos h
theorem JA {c:UInt8}(h:c.toNat=10):cP c=[92,110]:=by unfold cP;rw[if_neg (by omega),if_pos h]
theorem Jz {c:UInt8}(h:c.toNat=13):cP c=[92,114]:=by unfold cP;rw[if_neg (by omega),if_neg (by omega),if_pos h]
theorem Jy {c:UInt8}(h:c.toNat=9):cP c=[92,116]:=by unfold cP;rw[if_neg (by omega),if_neg (by omega),if_neg (by omega),if_pos h]
theorem Jw {c:UInt8}(h:c.toNat<32∨c.toNat=127)(h1:¬ c.toNat=10)(h2:¬ c.toNat=13)(h3:¬ c.toNat=9):cP c=92::117::123::(nt c++[125]):=by
 unfold cP;rw[if_neg (by omega),if_neg h1,if_neg h2,if_neg h3,if_pos h]
theorem Fy {c:UInt8}(h:¬ (c.toNat<32∨c.toNat=127))(h0:¬ (c.toNat=34∨c.toNat=92)):cP c=[c]:=by
 unfold cP;rw[if_neg h0,if_neg (by omega),if_neg (by omega),if_neg (by omega),if_neg h]
set_option maxHeartbeats 4000000 in
theorem Ed (s:List UInt8)(hs:s.length≤100000):aq Tryz.prog aF 21 [.str s] (.str (aO s)):=by
 refine aq.intro Ou (by simp[F21]) ?_
 simp(disch:=try exact dI) only[F21,push_cast,seval]
 refine aQ ([]) (fun i:Nat=>[(4,.olist 0 1 (aA (34::(s.take i).flatMap cP))),(5,.pv (.int .i64 (i:Int)))]) (fun _=>[]) (fun i=>i≤s.length) (fun i=>s.length - i) (0) ?_;intro e0 σ0 n0 h0;simp(disch:=try exact dI) only[push_cast,seval] at h0;obtain⟨rfl,rfl,rfl⟩:=h0;refine⟨?_,?_,?_⟩
 ·simp(disch:=try exact dI) only[push_cast,seval]
  exact .refl _
 ·omega
 ·rintro i hi
  by_cases hlt:i<s.length
  ·obtain⟨c,hc⟩:∃ c,s[i]? = some c:=⟨_,List.getElem?_eq_getElem hlt⟩
   have hltI:(i:Int)<(s.length:Int):=by omega
   have hB:aA (34::(s.take (i+1)).flatMap cP)=aA (34::(s.take i).flatMap cP)++aA (cP c):=by
    rw[gF hc,← List.cons_append,l6]
   have hl:(aA (34::(s.take i).flatMap cP)).length≤600001:=by
    have:=gG (s.take i)
    rw[eI,List.length_cons]
    rw[List.length_take] at this
    omega
   generalize aA (34::(s.take i).flatMap cP)=Q at *
   by_cases h1:c.toNat=34∨c.toNat=92
   ·have hE:aA (cP c)=[.int .u8 92,.int .u8 (c.toNat:Int)]:=by rw[Fz h1];rfl
    rw[hE] at hB
    by_cases h34:c.toNat=34
    ·have h34I:(c.toNat:Int)=34:=by omega
     simp(disch:=try exact dI) only[hltI,hc,h34I,push_cast,seval]
     exact⟨i+1,bA (by simp(disch:=try exact dI) only[hB,h34I,push_cast,seval]),by omega,by omega⟩
    ·have h34I:¬ (c.toNat:Int)=34:=by omega
     have h92I:(c.toNat:Int)=92:=by omega
     simp(disch:=try exact dI) only[hltI,hc,h34I,h92I,push_cast,seval]
     exact⟨i+1,bA (by simp(disch:=try exact dI) only[hB,h92I,push_cast,seval]),by omega,by omega⟩
   ·have h34I:¬ (c.toNat:Int)=34:=by omega
    have h92I:¬ (c.toNat:Int)=92:=by omega
    by_cases h10:c.toNat=10
    ·have h10I:(c.toNat:Int)=10:=by omega
     have hE:aA (cP c)=[.int .u8 92,.int .u8 110]:=by rw[JA h10];rfl
     rw[hE] at hB
     clear h34I h92I
     simp(disch:=try exact dI) only[hltI,hc,h10I,push_cast,seval]
     exact⟨i+1,bA (by simp(disch:=try exact dI) only[hB,push_cast,seval]),by omega,by omega⟩
    have h10I:¬ (c.toNat:Int)=10:=by omega
    by_cases h13:c.toNat=13
    ·have h13I:(c.toNat:Int)=13:=by omega
     have hE:aA (cP c)=[.int .u8 92,.int .u8 114]:=by rw[Jz h13];rfl
     rw[hE] at hB
     clear h34I h92I h10I
     simp(disch:=try exact dI) only[hltI,hc,h13I,push_cast,seval]
     exact⟨i+1,bA (by simp(disch:=try exact dI) only[hB,push_cast,seval]),by omega,by omega⟩
    have h13I:¬ (c.toNat:Int)=13:=by omega
    by_cases h9:c.toNat=9
    ·have h9I:(c.toNat:Int)=9:=by omega
     have hE:aA (cP c)=[.int .u8 92,.int .u8 116]:=by rw[Jy h9];rfl
     rw[hE] at hB
     clear h34I h92I h10I h13I
     simp(disch:=try exact dI) only[hltI,hc,h9I,push_cast,seval]
     exact⟨i+1,bA (by simp(disch:=try exact dI) only[hB,push_cast,seval]),by omega,by omega⟩
    have h9I:¬ (c.toNat:Int)=9:=by omega
    by_cases h5:c.toNat<32∨c.toNat=127
    ·obtain⟨q,hqN⟩:∃ q,q=c.toNat / 16:=⟨_,rfl⟩
     obtain⟨m,hmN⟩:∃ m,m=c.toNat % 16:=⟨_,rfl⟩
     have hq:((c.toNat:Int) / 16)=(q:Int):=by omega
     have hm:((c.toNat:Int) % 16)=(m:Int):=by omega
     have hxq:=Ax (n:=q) (by omega)
     have hxm:=Ax (n:=m) (by omega)
     unfold Cs at hxq hxm
     have hE:=congrArg aA (Jw h5 h10 h13 h9)
     unfold nt at hE
     rw[← hqN,← hmN] at hE
     by_cases h16:16≤c.toNat
     ·have h16I:(16:Int)≤(c.toNat:Int):=by omega
      rw[if_pos h16] at hE
      replace hE:aA (cP c)=[.int .u8 92,.int .u8 117,.int .u8 123,.int .u8 ((hxB q).toNat:Int),.int .u8 ((hxB m).toNat:Int),.int .u8 125]:=hE
      rw[hE] at hB
      by_cases h32:c.toNat<32
      ·have h32I:(c.toNat:Int)<32:=by omega
       simp(disch:=try exact dI) only[hltI,hc,h34I,h92I,h10I,h13I,h9I,h32I,h16I,hq,hm,hxq,hxm,push_cast,seval]
       exact⟨i+1,bA (by simp(disch:=try exact dI) only[hB,List.append_assoc,List.cons_append,List.nil_append,push_cast,seval]),by omega,by omega⟩
      ·have h32I:¬ (c.toNat:Int)<32:=by omega
       have h127:((c.toNat:Int)=127)=True:=eq_true (by omega)
       simp(disch:=try exact dI) only[hltI,hc,h34I,h92I,h10I,h13I,h9I,h32I,h127,h16I,hq,hm,hxq,hxm,push_cast,seval]
       exact⟨i+1,bA (by simp(disch:=try exact dI) only[hB,List.append_assoc,List.cons_append,List.nil_append,push_cast,seval]),by omega,by omega⟩
     ·have h16I:¬ (16:Int)≤(c.toNat:Int):=by omega
      rw[if_neg h16] at hE
      replace hE:aA (cP c)=[.int .u8 92,.int .u8 117,.int .u8 123,.int .u8 ((hxB m).toNat:Int),.int .u8 125]:=hE
      rw[hE] at hB
      have h32I:(c.toNat:Int)<32:=by omega
      simp(disch:=try exact dI) only[hltI,hc,h34I,h92I,h10I,h13I,h9I,h32I,h16I,hm,hxm,push_cast,seval]
      exact⟨i+1,bA (by simp(disch:=try exact dI) only[hB,List.append_assoc,List.cons_append,List.nil_append,push_cast,seval]),by omega,by omega⟩
    ·have h32I:¬ (c.toNat:Int)<32:=by omega
     have h127I:¬ (c.toNat:Int)=127:=by omega
     have hE:aA (cP c)=[.int .u8 (c.toNat:Int)]:=by rw[Fy h5 h1];rfl
     rw[hE] at hB
     simp(disch:=try exact dI) only[hltI,hc,h34I,h92I,h10I,h13I,h9I,h32I,h127I,push_cast,seval]
     exact⟨i+1,bA (by simp(disch:=try exact dI) only[hB,push_cast,seval]),by omega,by omega⟩
  ·have hltI:¬ (i:Int)<(s.length:Int):=by omega
   obtain rfl:i=s.length:=by omega
   have hl:(aA (34::(s.take s.length).flatMap cP)).length≤600001:=by
    have:=gG s
    rw[eI,List.length_cons,List.take_length]
    omega
   have hU:u8s (aA (34::(s.take s.length).flatMap cP)++[.int .u8 34])=some (aO s):=by
    rw[List.take_length,show aA (34::s.flatMap cP)++[.int .u8 34]=aA (aO s) by simp[aA,aO]]
    exact ga _
   generalize aA (34::(s.take s.length).flatMap cP)=Q at *
   simp(disch:=try exact dI) only[hltI,hU,push_cast,seval]
end Go.Proofs.YtamoeblcphjbaaaGreatDoor
