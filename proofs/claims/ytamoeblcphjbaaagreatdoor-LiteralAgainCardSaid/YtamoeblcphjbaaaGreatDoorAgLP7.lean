/- A part of the proof for LiteralAgainCardSaid. -/
import Derived.Test.YtamoeblcphjbaaaGreatDoorAgLP4
import Derived.Test.YtamoeblcphjbaaaGreatDoorAgLP5
import Derived.Test.YtamoeblcphjbaaaGreatDoorAgLP6
import Derived.Test.YtamoeblcphjbaaaGreatDoorAgF
import Derived.Test.YtamoeblcphjbaaaGreatDoorAgLC1
import Derived.Test.YtamoeblcphjbaaaGreatDoorAgLD
import Derived.Test.YtamoeblcphjbaaaGreatDoorAgLP2
import Derived.Test.YtamoeblcphjbaaaGreatDoorAgCore6
set_option maxRecDepth 100000
set_option linter.unusedVariables false
set_option linter.unusedSimpArgs false
namespace Go.Proofs.YtamoeblcphjbaaaGreatDoor
open Go Go.Ab
theorem kY (R:Rd)(i:Nat)(e:Int):(aZ R i e).s=R.s:=by unfold aZ;split<;>rfl
theorem cf (R:Rd)(i:Nat)(e:Int):(aZ R i e).now=R.now:=by unfold aZ;split<;>rfl
theorem Bi (R:Rd)(i:Nat)(e:Int):(aZ R i e).next=R.next:=by unfold aZ;split<;>rfl
theorem aX {R:Rd}{i:Nat}{e:Int}(he:e≠0):(aZ R i e).e≠0:=by
 unfold aZ;split
 ·exact he
 ·assumption
theorem jX:∀ (f:Nat) (l:List UInt8) (i:Nat) (o:List UInt8) {o':List UInt8} {j:Nat},ji f l i o = .done o' j→i<j∧j≤i+l.length
 | 0,l,i,o,o',j,h=>by cases h
 | f+1,[],i,o,o',j,h=>by cases h
 | f+1,c::r,i,o,o',j,h=>by
   by_cases h1:c.toNat=34
   ·rw[fX h1] at h;cases h;simp
   by_cases h2:c.toNat<32∨c.toNat=127
   ·rw[fx h1 h2] at h;cases h
   by_cases h3:c.toNat=92
   ·by_cases h4:r=[]
    ·subst h4;rw[dY h3] at h;cases h
    ·rw[dF h3 h4] at h
     split at h
     ·rename_i he
      have:=jI he
      have ih:=jX f _ _ _ h
      rw[List.length_drop] at ih
      rw[List.length_cons];omega
     ·cases h
   ·rw[cH h1 h2 h3] at h
    have ih:=jX f _ _ _ h
    rw[List.length_cons];omega
theorem kM:∀ (l:List UInt8) (i:Nat) (q:Option Nat) (o:List UInt8) {o':List UInt8} {j:Nat},i7 l i q o = .done o' j→i<j∧j≤i+l.length
 | [],i,q,o,o',j,h=>by cases h
 | c::r,i,q,o,o',j,h=>by
   rw[i7] at h
   split at h
   ·cases h;simp
   ·split at h
    ·cases h
    ·split at h
     ·have ih:=kM r _ _ _ h
      rw[List.length_cons];omega
     ·have ih:=kM r _ _ _ h
      rw[List.length_cons];omega
theorem GY (R:Rd)(i:Nat)(k:Int)(v:Bool)(z:Sc):(bp R i k v z).s=R.s:=by
 cases z with
 | short=>exact kY _ _ _
 | bad j e=>exact kY _ _ _
 | done o j=>simp only[bp];split<;>simp[kY]
theorem oB {R:Rd}{i:Nat}{k:Int}{v:Bool}{z:Sc}(h:(bp R i k v z).e=0)(h0:R.e=0):(∃ o j,z = .done o j∧(bp R i k v z).next=j)∨(∃ j,z = .bad j 0):=by
 cases z with
 | short=>exact absurd h (aX (by decide))
 | bad j e=>
   by_cases he:e=0
   ·subst he;exact .inr ⟨j,rfl⟩
   ·exact absurd h (aX he)
 | done o j=>exact .inl ⟨o,j,rfl,rfl⟩
theorem lO:∀ (f:Nat) (l:List UInt8) (i:Nat) (o:List UInt8) {j:Nat},¬ ji f l i o = .bad j 0
 | 0,l,i,o,j,h=>by cases h
 | f+1,[],i,o,j,h=>by cases h
 | f+1,c::r,i,o,j,h=>by
   by_cases h1:c.toNat=34
   ·rw[fX h1] at h;cases h
   by_cases h2:c.toNat<32∨c.toNat=127
   ·rw[fx h1 h2] at h;cases h
   by_cases h3:c.toNat=92
   ·by_cases h4:r=[]
    ·subst h4;rw[dY h3] at h;cases h
    ·rw[dF h3 h4] at h
     split at h
     ·exact lO f _ _ _ h
     ·rename_i hne
      injection h with h5 h6
      exact hne h6
   ·rw[cH h1 h2 h3] at h
    exact lO f _ _ _ h
theorem l8:∀ (l:List UInt8) (i:Nat) (q:Option Nat) (o:List UInt8) {j:Nat},¬ i7 l i q o = .bad j 0
 | [],i,q,o,j,h=>by cases h
 | c::r,i,q,o,j,h=>by
   rw[i7] at h
   split at h
   ·cases h
   ·split at h
    ·cases h
    ·split at h
     ·exact l8 r _ _ _ h
     ·exact l8 r _ _ _ h
theorem PC (R:Rd)(i:Nat):(sA R i).s=R.s:=GY _ _ _ _ _
theorem Qg (R:Rd)(i:Nat):(tA R i).s=R.s:=GY _ _ _ _ _
theorem kx (R:Rd)(i:Nat):p7 R i=aZ R i 13∨∃ w q,p7 R i=w7 R i w q:=by
 obtain⟨a,ha⟩:∃ a,(if R.s[i]? = some 45 then i+1 else i)=a:=⟨_,rfl⟩
 by_cases hz:bx isD R.s a=a
 ·exact .inl (oK ha hz)
 ·exact .inr ⟨_,_,cC ha rfl hz rfl⟩
theorem MR (R:Rd)(i:Nat)(w:Nat×Bool×Bool)(q:(Int×Nat)×Int):(w7 R i w q).s=R.s∧(w7 R i w q).now.pos=R.now.pos:=by
 obtain⟨a,x,y⟩:=w
 obtain⟨⟨n,sc⟩,e⟩:=q
 by_cases he:e=0
 ·subst he;rw[cu];exact⟨rfl,rfl⟩
 ·rw[cD he];simp only[kY,cf];exact⟨trivial,trivial⟩
theorem MP (R:Rd)(i:Nat):(p7 R i).s=R.s∧(p7 R i).now.pos=R.now.pos:=by
 rcases kx R i with h | ⟨w,q,h⟩
 ·rw[h,kY,cf];exact⟨rfl,rfl⟩
 ·rw[h];exact MR _ _ _ _
theorem DP {R:Rd}{i:Nat}(h0:R.e=0)(hi:i<R.s.length)(h:(sA R i).e=0):i<(sA R i).next∧(sA R i).next≤R.s.length:=by
 rcases oB h h0 with ⟨o,j,h1,h2⟩ | ⟨j,h1⟩
 ·have:=jX _ _ _ _ h1
  rw[List.length_drop] at this
  unfold sA;rw[h2];omega
 ·exact absurd h1 (lO _ _ _ _)
theorem FA {R:Rd}{i:Nat}(h0:R.e=0)(hi:i+1<R.s.length)(h:(tA R i).e=0):i<(tA R i).next∧(tA R i).next≤R.s.length:=by
 rcases oB h h0 with ⟨o,j,h1,h2⟩ | ⟨j,h1⟩
 ·have:=kM _ _ _ _ h1
  rw[List.length_drop] at this
  unfold tA;rw[h2];omega
 ·exact absurd h1 (l8 _ _ _ _)
theorem I3 {s:List UInt8}{z:Nat}(h:z≤s.length):z≤(vE s z).1∧(vE s z).1≤s.length:=by
 unfold vE
 split
 ·rename_i h1
  have:z<s.length:=by
   rcases Nat.lt_or_ge z s.length with h' | h'
   ·exact h'
   ·rw[List.getElem?_eq_none h'] at h1;cases h1.1
  have h2:z+1≤bx isD s (z+1):=fM
  have h3:bx isD s (z+1)≤s.length:=dq (by omega)
  exact⟨by simp only;omega,h3⟩
 ·split
  ·rename_i h1
   have:z<s.length:=by
    rcases Nat.lt_or_ge z s.length with h' | h'
    ·exact h'
    ·rw[List.getElem?_eq_none h'] at h1;cases h1
   exact⟨by simp only;omega,by simp only;omega⟩
  ·exact⟨Nat.le_refl _,h⟩
theorem E1 {R:Rd}{i:Nat}(h0:R.e=0)(hi:i<R.s.length)(h:(p7 R i).e=0):i<(p7 R i).next∧(p7 R i).next≤R.s.length:=by
 obtain⟨a,ha⟩:∃ a,(if R.s[i]? = some 45 then i+1 else i)=a:=⟨_,rfl⟩
 have hal:a≤R.s.length∧i≤a:=by rw[← ha];split<;>omega
 have hz1:a≤bx isD R.s a:=fM
 have hz2:bx isD R.s a≤R.s.length:=dq hal.1
 by_cases hz:bx isD R.s a=a
 ·rw[oK ha hz] at h
  exact absurd h (aX (by decide))
 ·rw[cC ha rfl hz rfl]
  have hw:=I3 hz2
  generalize vE R.s (bx isD R.s a)=w at *
  obtain⟨w1,w2,w3⟩:=w
  generalize bg _=q
  obtain⟨⟨n,sc⟩,e⟩:=q
  by_cases he:e=0
  ·subst he
   rw[cu]
   simp only at hw ⊢;omega
  ·rw[cD he]
   simp only[Bi] at hw ⊢;omega
theorem Fr (R:Rd)(i:Nat)(c:UInt8):(dC R i c).s=R.s:=by
 unfold dC
 split
 ·exact PC _ _
 split
 ·exact Qg _ _
 split
 ·rfl
 split
 ·exact (MP _ _).1
 split
 ·rfl
 split
 ·rfl
 ·exact kY _ _ _
theorem mW {R:Rd}{i:Nat}{c:UInt8}(h0:R.e=0)(hc:R.s[i]? = some c)(h:(dC R i c).e=0):i<(dC R i c).next∧(dC R i c).next≤R.s.length:=by
 have hi:i<R.s.length:=(List.getElem?_eq_some_iff.1 hc).1
 have l1:∀ {j:Nat} {b:UInt8},R.s[j]? = some b→j<R.s.length:=fun h=>(List.getElem?_eq_some_iff.1 h).1
 unfold dC at h ⊢
 split
 ·rename_i h1;rw[if_pos h1] at h;exact DP h0 hi h
 rename_i h1
 rw[if_neg h1] at h
 split
 ·rename_i h2;rw[if_pos h2] at h;exact FA h0 (l1 h2.2) h
 rename_i h2
 rw[if_neg h2] at h
 split
 ·rename_i h3
  have hw:cQ c=true:=by unfold cQ;rw[h3];rfl
  have e:=sF (q:=cQ) hc
  rw[if_pos hw] at e
  have e1:i+1≤bx cQ R.s (i+1):=fM
  have e2:bx cQ R.s (i+1)≤R.s.length:=dq (by omega)
  simp only
  omega
 rename_i h3
 rw[if_neg h3] at h
 split
 ·rename_i h4;rw[if_pos h4] at h;exact E1 h0 hi h
 rename_i h4
 rw[if_neg h4] at h
 split
 ·rename_i h5
  have:=l1 h5.2
  exact⟨by simp only;omega,by simp only;omega⟩
 rename_i h5
 rw[if_neg h5] at h
 split
 ·exact⟨by simp only;omega,by simp only;omega⟩
 ·rename_i h6
  rw[if_neg h6] at h
  exact absurd h (aX (by decide))
def OkR (R:Rd):Prop:=R.e=0→R.s.length≤65536∧R.now.pos≤R.next∧R.next≤R.s.length∧(R.now.kind≠0→R.now.pos<R.next)
theorem rW {R:Rd}(h:R.e≠0):bm R=R:=if_neg h
theorem wT {R:Rd}(h:R.e=0)(hi:R.s.length≤bx aR R.s R.next):bm R = { R with now:={ pos:=bx aR R.s R.next },next:=bx aR R.s R.next }:=by
 unfold bm
 rw[if_pos h]
 simp only
 rw[List.getElem?_eq_none hi]
theorem wR {R:Rd}{c:UInt8}(h:R.e=0)(hi:R.s[bx aR R.s R.next]? = some c):bm R=eB (dC { R with now:={ pos:=bx aR R.s R.next },next:=bx aR R.s R.next } (bx aR R.s R.next) c) (bx aR R.s R.next):=by
 unfold bm
 rw[if_pos h]
 simp only
 rw[hi]
theorem GD (R:Rd)(i:Nat):(eB R i).s=R.s:=by unfold eB;split<;>rfl
theorem xR (R:Rd)(i:Nat):(eB R i).next=R.next:=by unfold eB;split<;>rfl
theorem xS (R:Rd)(i:Nat):(eB R i).e=R.e:=by unfold eB;split<;>rfl
theorem Dk (R:Rd)(i:Nat):(eB R i).now.pos=R.now.pos:=by unfold eB;split<;>rfl
theorem NP (R:Rd):(bm R).s=R.s:=by
 by_cases h:R.e=0
 ·by_cases hi:R.s.length≤bx aR R.s R.next
  ·rw[wT h hi]
  ·obtain⟨c,hc⟩:∃ c,R.s[bx aR R.s R.next]? = some c:=⟨_,List.getElem?_eq_getElem (by omega)⟩
   rw[wR h hc,GD,Fr]
 ·rw[rW h]
theorem AB (R:Rd)(i:Nat)(c:UInt8):(dC R i c).now.pos=R.now.pos:=by
 unfold dC
 split
 ·unfold sA
  generalize ji _ _ _ _=z
  cases z with
  | short=>simp only[bp,cf]
  | bad j e=>simp only[bp,cf]
  | done o j=>simp only[bp];split<;>simp[cf]
 split
 ·unfold tA
  generalize i7 _ _ _ _=z
  cases z with
  | short=>simp only[bp,cf]
  | bad j e=>simp only[bp,cf]
  | done o j=>simp only[bp];split<;>simp[cf]
 split
 ·rfl
 split
 ·exact (MP _ _).2
 split
 ·rfl
 split
 ·rfl
 ·rw[cf]
theorem ud {R:Rd}(h:(bm R).e=0):R.e=0:=by
 by_cases h0:R.e=0
 ·exact h0
 ·rw[rW h0] at h;exact h
theorem Cq {R:Rd}(hR:OkR R):OkR (bm R)∧((bm R).e=0→R.next≤(bm R).now.pos):=by
 by_cases h:R.e=0
 ·obtain⟨h1,h2,h3,h4⟩:=hR h
  have r1:R.next≤bx aR R.s R.next:=fM
  have r2:bx aR R.s R.next≤R.s.length:=dq h3
  by_cases hi:R.s.length≤bx aR R.s R.next
  ·rw[wT h hi]
   exact⟨fun _=>⟨h1,Nat.le_refl _,r2,fun hk=>absurd rfl hk⟩,fun _=>r1⟩
  ·obtain⟨c,hc⟩:∃ c,R.s[bx aR R.s R.next]? = some c:=⟨_,List.getElem?_eq_getElem (by omega)⟩
   rw[wR h hc]
   generalize bx aR R.s R.next=i at *
   have hn:=mW (R:={ R with now:={ pos:=i },next:=i }) (i:=i) (c:=c) h hc
   have hs:=Fr { R with now:={ pos:=i },next:=i } i c
   have hp:=AB { R with now:={ pos:=i },next:=i } i c
   generalize dC { R with now:={ pos:=i },next:=i } i c=L at *
   unfold OkR
   rw[xS,GD,Dk,xR]
   simp only at hs hp
   rw[hs,hp]
   exact⟨fun he=>⟨h1,by have:=hn he;omega,(hn he).2,fun _=>(hn he).1⟩,fun _=>r1⟩
 ·rw[rW h]
  exact⟨hR,fun h'=>absurd h' h⟩
end Go.Proofs.YtamoeblcphjbaaaGreatDoor
-- many steps
namespace Go.Proofs.YtamoeblcphjbaaaGreatDoor
open Go Go.Ab
attribute [local irreducible] vc
def CR:List UInt8:=[48,49,50,51,52,53,54,55,56,57,97,98,99,100,101,102]
def hxB (n:Nat):UInt8:=CR.getD n 0
theorem AW {n:Nat}(h:n<16):CR[n]? = some (hxB n):=by
 unfold hxB
 rw[List.getD_eq_getElem?_getD,List.getElem?_eq_getElem (by simpa[CR] using h)];rfl
def nM (c:UInt8):List UInt8:=(if 16≤c.toNat then [hxB (c.toNat / 16)] else [])++[hxB (c.toNat % 16)]
def c7 (c:UInt8):List UInt8:=
 if c.toNat=34∨c.toNat=92 then [92,c] else if c.toNat=10 then [92,110] else if c.toNat=13 then [92,114] else if c.toNat=9 then [92,116]
 else if c.toNat<32∨c.toNat=127 then 92::117::123::(nM c++[125]) else [c]
def aL (s:List UInt8):List UInt8:=34::(s.flatMap c7++[34])
theorem FZ (c:UInt8):(c7 c).length≤6:=by
 unfold c7 nM
 repeat' split
 all_goals simp
theorem gW (s:List UInt8):(s.flatMap c7).length≤6*s.length:=by
 induction s with
 | nil=>simp
 | cons c r ih=>have:=FZ c;simp only[List.flatMap_cons,List.length_append,List.length_cons];omega
theorem mx (a b:List UInt8):aA (a++b)=aA a++aA b:=by simp[aA]
theorem eQ (a:List UInt8):(aA a).length=a.length:=by simp[aA]
theorem gV {s:List UInt8}{i:Nat}{c:UInt8}(h:s[i]? = some c)(f:UInt8→List UInt8):(s.take (i+1)).flatMap f=(s.take i).flatMap f++f c:=by
 rw[bh h];simp
theorem FY {c:UInt8}(h:c.toNat=34∨c.toNat=92):c7 c=[92,c]:=if_pos h
theorem JV {c:UInt8}(h:c.toNat=10):c7 c=[92,110]:=by unfold c7;rw[if_neg (by omega),if_pos h]
theorem JU {c:UInt8}(h:c.toNat=13):c7 c=[92,114]:=by unfold c7;rw[if_neg (by omega),if_neg (by omega),if_pos h]
theorem JT {c:UInt8}(h:c.toNat=9):c7 c=[92,116]:=by unfold c7;rw[if_neg (by omega),if_neg (by omega),if_neg (by omega),if_pos h]
theorem JS {c:UInt8}(h:c.toNat<32∨c.toNat=127)(h1:¬ c.toNat=10)(h2:¬ c.toNat=13)(h3:¬ c.toNat=9):c7 c=92::117::123::(nM c++[125]):=by
 unfold c7;rw[if_neg (by omega),if_neg h1,if_neg h2,if_neg h3,if_pos h]
theorem FX {c:UInt8}(h:¬ (c.toNat<32∨c.toNat=127))(h0:¬ (c.toNat=34∨c.toNat=92)):c7 c=[c]:=by
 unfold c7;rw[if_neg h0,if_neg (by omega),if_neg (by omega),if_neg (by omega),if_neg h]
set_option maxHeartbeats 4000000 in
theorem EE (s:List UInt8)(hs:s.length≤100000):aq Tryz.prog aF 21 [.str s] (.str (aL s)):=by
 refine aq.intro OH (by simp[F21]) ?_
 simp(disch:=try exact dI) only[F21,push_cast,seval]
 refine be ([]) (fun i:Nat=>[(4,.olist 0 1 (aA (34::(s.take i).flatMap c7))),(5,.pv (.int .i64 (i:Int)))]) (fun _=>[]) (fun i=>i≤s.length) (fun i=>s.length - i) (0) ?_;intro e0 σ0 n0 h0;simp(disch:=try exact dI) only[push_cast,seval] at h0;obtain⟨rfl,rfl,rfl⟩:=h0;refine⟨?_,?_,?_⟩
 ·simp(disch:=try exact dI) only[push_cast,seval]
  exact .refl _
 ·omega
 ·rintro i hi
  by_cases hlt:i<s.length
  ·obtain⟨c,hc⟩:∃ c,s[i]? = some c:=⟨_,List.getElem?_eq_getElem hlt⟩
   have hltI:(i:Int)<(s.length:Int):=by omega
   have hB:aA (34::(s.take (i+1)).flatMap c7)=aA (34::(s.take i).flatMap c7)++aA (c7 c):=by
    rw[gV hc,← List.cons_append,mx]
   have hl:(aA (34::(s.take i).flatMap c7)).length≤600001:=by
    have:=gW (s.take i)
    rw[eQ,List.length_cons]
    rw[List.length_take] at this
    omega
   generalize aA (34::(s.take i).flatMap c7)=Q at *
   by_cases h1:c.toNat=34∨c.toNat=92
   ·have hE:aA (c7 c)=[.int .u8 92,.int .u8 (c.toNat:Int)]:=by rw[FY h1];rfl
    rw[hE] at hB
    by_cases h34:c.toNat=34
    ·have h34I:(c.toNat:Int)=34:=by omega
     simp(disch:=try exact dI) only[hltI,hc,h34I,push_cast,seval]
     exact⟨i+1,bT (by simp(disch:=try exact dI) only[hB,h34I,push_cast,seval]),by omega,by omega⟩
    ·have h34I:¬ (c.toNat:Int)=34:=by omega
     have h92I:(c.toNat:Int)=92:=by omega
     simp(disch:=try exact dI) only[hltI,hc,h34I,h92I,push_cast,seval]
     exact⟨i+1,bT (by simp(disch:=try exact dI) only[hB,h92I,push_cast,seval]),by omega,by omega⟩
   ·have h34I:¬ (c.toNat:Int)=34:=by omega
    have h92I:¬ (c.toNat:Int)=92:=by omega
    by_cases h10:c.toNat=10
    ·have h10I:(c.toNat:Int)=10:=by omega
     have hE:aA (c7 c)=[.int .u8 92,.int .u8 110]:=by rw[JV h10];rfl
     rw[hE] at hB
     clear h34I h92I
     simp(disch:=try exact dI) only[hltI,hc,h10I,push_cast,seval]
     exact⟨i+1,bT (by simp(disch:=try exact dI) only[hB,push_cast,seval]),by omega,by omega⟩
    have h10I:¬ (c.toNat:Int)=10:=by omega
    by_cases h13:c.toNat=13
    ·have h13I:(c.toNat:Int)=13:=by omega
     have hE:aA (c7 c)=[.int .u8 92,.int .u8 114]:=by rw[JU h13];rfl
     rw[hE] at hB
     clear h34I h92I h10I
     simp(disch:=try exact dI) only[hltI,hc,h13I,push_cast,seval]
     exact⟨i+1,bT (by simp(disch:=try exact dI) only[hB,push_cast,seval]),by omega,by omega⟩
    have h13I:¬ (c.toNat:Int)=13:=by omega
    by_cases h9:c.toNat=9
    ·have h9I:(c.toNat:Int)=9:=by omega
     have hE:aA (c7 c)=[.int .u8 92,.int .u8 116]:=by rw[JT h9];rfl
     rw[hE] at hB
     clear h34I h92I h10I h13I
     simp(disch:=try exact dI) only[hltI,hc,h9I,push_cast,seval]
     exact⟨i+1,bT (by simp(disch:=try exact dI) only[hB,push_cast,seval]),by omega,by omega⟩
    have h9I:¬ (c.toNat:Int)=9:=by omega
    by_cases h5:c.toNat<32∨c.toNat=127
    ·obtain⟨q,hqN⟩:∃ q,q=c.toNat / 16:=⟨_,rfl⟩
     obtain⟨m,hmN⟩:∃ m,m=c.toNat % 16:=⟨_,rfl⟩
     have hq:((c.toNat:Int) / 16)=(q:Int):=by omega
     have hm:((c.toNat:Int) % 16)=(m:Int):=by omega
     have hxq:=AW (n:=q) (by omega)
     have hxm:=AW (n:=m) (by omega)
     unfold CR at hxq hxm
     have hE:=congrArg aA (JS h5 h10 h13 h9)
     unfold nM at hE
     rw[← hqN,← hmN] at hE
     by_cases h16:16≤c.toNat
     ·have h16I:(16:Int)≤(c.toNat:Int):=by omega
      rw[if_pos h16] at hE
      replace hE:aA (c7 c)=[.int .u8 92,.int .u8 117,.int .u8 123,.int .u8 ((hxB q).toNat:Int),.int .u8 ((hxB m).toNat:Int),.int .u8 125]:=hE
      rw[hE] at hB
      by_cases h32:c.toNat<32
      ·have h32I:(c.toNat:Int)<32:=by omega
       simp(disch:=try exact dI) only[hltI,hc,h34I,h92I,h10I,h13I,h9I,h32I,h16I,hq,hm,hxq,hxm,push_cast,seval]
       exact⟨i+1,bT (by simp(disch:=try exact dI) only[hB,List.append_assoc,List.cons_append,List.nil_append,push_cast,seval]),by omega,by omega⟩
      ·have h32I:¬ (c.toNat:Int)<32:=by omega
       have h127:((c.toNat:Int)=127)=True:=eq_true (by omega)
       simp(disch:=try exact dI) only[hltI,hc,h34I,h92I,h10I,h13I,h9I,h32I,h127,h16I,hq,hm,hxq,hxm,push_cast,seval]
       exact⟨i+1,bT (by simp(disch:=try exact dI) only[hB,List.append_assoc,List.cons_append,List.nil_append,push_cast,seval]),by omega,by omega⟩
     ·have h16I:¬ (16:Int)≤(c.toNat:Int):=by omega
      rw[if_neg h16] at hE
      replace hE:aA (c7 c)=[.int .u8 92,.int .u8 117,.int .u8 123,.int .u8 ((hxB m).toNat:Int),.int .u8 125]:=hE
      rw[hE] at hB
      have h32I:(c.toNat:Int)<32:=by omega
      simp(disch:=try exact dI) only[hltI,hc,h34I,h92I,h10I,h13I,h9I,h32I,h16I,hm,hxm,push_cast,seval]
      exact⟨i+1,bT (by simp(disch:=try exact dI) only[hB,List.append_assoc,List.cons_append,List.nil_append,push_cast,seval]),by omega,by omega⟩
    ·have h32I:¬ (c.toNat:Int)<32:=by omega
     have h127I:¬ (c.toNat:Int)=127:=by omega
     have hE:aA (c7 c)=[.int .u8 (c.toNat:Int)]:=by rw[FX h5 h1];rfl
     rw[hE] at hB
     simp(disch:=try exact dI) only[hltI,hc,h34I,h92I,h10I,h13I,h9I,h32I,h127I,push_cast,seval]
     exact⟨i+1,bT (by simp(disch:=try exact dI) only[hB,push_cast,seval]),by omega,by omega⟩
  ·have hltI:¬ (i:Int)<(s.length:Int):=by omega
   obtain rfl:i=s.length:=by omega
   have hl:(aA (34::(s.take s.length).flatMap c7)).length≤600001:=by
    have:=gW s
    rw[eQ,List.length_cons,List.take_length]
    omega
   have hU:u8s (aA (34::(s.take s.length).flatMap c7)++[.int .u8 34])=some (aL s):=by
    rw[List.take_length,show aA (34::s.flatMap c7)++[.int .u8 34]=aA (aL s) by simp[aA,aL]]
    exact gv _
   generalize aA (34::(s.take s.length).flatMap c7)=Q at *
   simp(disch:=try exact dI) only[hltI,hU,push_cast,seval]
end Go.Proofs.YtamoeblcphjbaaaGreatDoor
