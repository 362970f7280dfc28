/- A part of the proof for LiteralQuotesCardSaid. -/
import Derived.Test.YtamoeblcphjbaaaGreatDoorQuLP4
import Derived.Test.YtamoeblcphjbaaaGreatDoorQuLP5
import Derived.Test.YtamoeblcphjbaaaGreatDoorQuLP6
import Derived.Test.YtamoeblcphjbaaaGreatDoorQuF
import Derived.Test.YtamoeblcphjbaaaGreatDoorQuLC1
import Derived.Test.YtamoeblcphjbaaaGreatDoorQuLD2
import Derived.Test.YtamoeblcphjbaaaGreatDoorQuLP2
import Derived.Test.YtamoeblcphjbaaaGreatDoorCore6
set_option maxRecDepth 100000
set_option linter.unusedVariables false
set_option linter.unusedSimpArgs false
namespace Go.Proofs.YtamoeblcphjbaaaGreatDoor
open Go Go.Ab
theorem jr (R:Rd)(i:Nat)(e:Int):(aQ R i e).s=R.s:=by unfold aQ;split<;>rfl
theorem bV (R:Rd)(i:Nat)(e:Int):(aQ R i e).now=R.now:=by unfold aQ;split<;>rfl
theorem AD (R:Rd)(i:Nat)(e:Int):(aQ R i e).next=R.next:=by unfold aQ;split<;>rfl
theorem bJ {R:Rd}{i:Nat}{e:Int}(he:e≠0):(aQ R i e).e≠0:=by
 unfold aQ;split
 ·exact he
 ·assumption
theorem iD:∀ (f:Nat) (l:List UInt8) (i:Nat) (o:List UInt8) {o':List UInt8} {j:Nat},ib f l i o = .done o' j→i<j∧j≤i+l.length
 | 0,l,i,o,o',j,h=>by cases h
 | f+1,[],i,o,o',j,h=>by cases h
 | f+1,c::r,i,o,o',j,h=>by
   by_cases h1:c.toNat=34
   ·rw[fZ h1] at h;cases h;simp
   by_cases h2:c.toNat<32∨c.toNat=127
   ·rw[fq h1 h2] at h;cases h
   by_cases h3:c.toNat=92
   ·by_cases h4:r=[]
    ·subst h4;rw[ef h3] at h;cases h
    ·rw[dJ h3 h4] at h
     split at h
     ·rename_i he
      have:=ir he
      have ih:=iD f _ _ _ h
      rw[List.length_drop] at ih
      rw[List.length_cons];omega
     ·cases h
   ·rw[cD h1 h2 h3] at h
    have ih:=iD f _ _ _ h
    rw[List.length_cons];omega
theorem ji:∀ (l:List UInt8) (i:Nat) (q:Option Nat) (o:List UInt8) {o':List UInt8} {j:Nat},io l i q o = .done o' j→i<j∧j≤i+l.length
 | [],i,q,o,o',j,h=>by cases h
 | c::r,i,q,o,o',j,h=>by
   rw[io] at h
   split at h
   ·cases h;simp
   ·split at h
    ·cases h
    ·split at h
     ·have ih:=ji r _ _ _ h
      rw[List.length_cons];omega
     ·have ih:=ji r _ _ _ h
      rw[List.length_cons];omega
theorem Gq (R:Rd)(i:Nat)(k:Int)(v:Bool)(z:Sc):(bd R i k v z).s=R.s:=by
 cases z with
 | short=>exact jr _ _ _
 | bad j e=>exact jr _ _ _
 | done o j=>simp only[bd];split<;>simp[jr]
theorem mN {R:Rd}{i:Nat}{k:Int}{v:Bool}{z:Sc}(h:(bd R i k v z).e=0)(h0:R.e=0):(∃ o j,z = .done o j∧(bd R i k v z).next=j)∨(∃ j,z = .bad j 0):=by
 cases z with
 | short=>exact absurd h (bJ (by decide))
 | bad j e=>
   by_cases he:e=0
   ·subst he;exact .inr ⟨j,rfl⟩
   ·exact absurd h (bJ he)
 | done o j=>exact .inl ⟨o,j,rfl,rfl⟩
theorem mh:∀ (f:Nat) (l:List UInt8) (i:Nat) (o:List UInt8) {j:Nat},¬ ib f l i o = .bad j 0
 | 0,l,i,o,j,h=>by cases h
 | f+1,[],i,o,j,h=>by cases h
 | f+1,c::r,i,o,j,h=>by
   by_cases h1:c.toNat=34
   ·rw[fZ h1] at h;cases h
   by_cases h2:c.toNat<32∨c.toNat=127
   ·rw[fq h1 h2] at h;cases h
   by_cases h3:c.toNat=92
   ·by_cases h4:r=[]
    ·subst h4;rw[ef h3] at h;cases h
    ·rw[dJ h3 h4] at h
     split at h
     ·exact mh f _ _ _ h
     ·rename_i hne
      injection h with h5 h6
      exact hne h6
   ·rw[cD h1 h2 h3] at h
    exact mh f _ _ _ h
theorem nI:∀ (l:List UInt8) (i:Nat) (q:Option Nat) (o:List UInt8) {j:Nat},¬ io l i q o = .bad j 0
 | [],i,q,o,j,h=>by cases h
 | c::r,i,q,o,j,h=>by
   rw[io] at h
   split at h
   ·cases h
   ·split at h
    ·cases h
    ·split at h
     ·exact nI r _ _ _ h
     ·exact nI r _ _ _ h
theorem OM (R:Rd)(i:Nat):(rg R i).s=R.s:=Gq _ _ _ _ _
theorem Po (R:Rd)(i:Nat):(rS R i).s=R.s:=Gq _ _ _ _ _
theorem mY (R:Rd)(i:Nat):px R i=aQ R i 13∨∃ w q,px R i=y7 R i w q:=by
 obtain⟨a,ha⟩:∃ a,(if R.s[i]? = some 45 then i+1 else i)=a:=⟨_,rfl⟩
 by_cases hz:bz isD R.s a=a
 ·exact .inl (m5 ha hz)
 ·exact .inr ⟨_,_,cf ha rfl hz rfl⟩
theorem Ml (R:Rd)(i:Nat)(w:Nat×Bool×Bool)(q:(Int×Nat)×Int):(y7 R i w q).s=R.s∧(y7 R i w q).now.pos=R.now.pos:=by
 obtain⟨a,x,y⟩:=w
 obtain⟨⟨n,sc⟩,e⟩:=q
 by_cases he:e=0
 ·subst he;rw[ci];exact⟨rfl,rfl⟩
 ·rw[cg he];simp only[jr,bV];exact⟨trivial,trivial⟩
theorem Mj (R:Rd)(i:Nat):(px R i).s=R.s∧(px R i).now.pos=R.now.pos:=by
 rcases mY R i with h | ⟨w,q,h⟩
 ·rw[h,jr,bV];exact⟨rfl,rfl⟩
 ·rw[h];exact Ml _ _ _ _
theorem CZ {R:Rd}{i:Nat}(h0:R.e=0)(hi:i<R.s.length)(h:(rg R i).e=0):i<(rg R i).next∧(rg R i).next≤R.s.length:=by
 rcases mN h h0 with ⟨o,j,h1,h2⟩ | ⟨j,h1⟩
 ·have:=iD _ _ _ _ h1
  rw[List.length_drop] at this
  unfold rg;rw[h2];omega
 ·exact absurd h1 (mh _ _ _ _)
theorem EX {R:Rd}{i:Nat}(h0:R.e=0)(hi:i+1<R.s.length)(h:(rS R i).e=0):i<(rS R i).next∧(rS R i).next≤R.s.length:=by
 rcases mN h h0 with ⟨o,j,h1,h2⟩ | ⟨j,h1⟩
 ·have:=ji _ _ _ _ h1
  rw[List.length_drop] at this
  unfold rS;rw[h2];omega
 ·exact absurd h1 (nI _ _ _ _)
theorem Iy {s:List UInt8}{z:Nat}(h:z≤s.length):z≤(wc s z).1∧(wc s z).1≤s.length:=by
 unfold wc
 split
 ·rename_i h1
  have:z<s.length:=by
   rcases Nat.lt_or_ge z s.length with h' | h'
   ·exact h'
   ·rw[List.getElem?_eq_none h'] at h1;cases h1.1
  have h2:z+1≤bz isD s (z+1):=eS
  have h3:bz isD s (z+1)≤s.length:=cK (by omega)
  exact⟨by simp only;omega,h3⟩
 ·split
  ·rename_i h1
   have:z<s.length:=by
    rcases Nat.lt_or_ge z s.length with h' | h'
    ·exact h'
    ·rw[List.getElem?_eq_none h'] at h1;cases h1
   exact⟨by simp only;omega,by simp only;omega⟩
  ·exact⟨Nat.le_refl _,h⟩
theorem Eh {R:Rd}{i:Nat}(h0:R.e=0)(hi:i<R.s.length)(h:(px R i).e=0):i<(px R i).next∧(px R i).next≤R.s.length:=by
 obtain⟨a,ha⟩:∃ a,(if R.s[i]? = some 45 then i+1 else i)=a:=⟨_,rfl⟩
 have hal:a≤R.s.length∧i≤a:=by rw[← ha];split<;>omega
 have hz1:a≤bz isD R.s a:=eS
 have hz2:bz isD R.s a≤R.s.length:=cK hal.1
 by_cases hz:bz isD R.s a=a
 ·rw[m5 ha hz] at h
  exact absurd h (bJ (by decide))
 ·rw[cf ha rfl hz rfl]
  have hw:=Iy hz2
  generalize wc R.s (bz isD R.s a)=w at *
  obtain⟨w1,w2,w3⟩:=w
  generalize aW _=q
  obtain⟨⟨n,sc⟩,e⟩:=q
  by_cases he:e=0
  ·subst he
   rw[ci]
   simp only at hw ⊢;omega
  ·rw[cg he]
   simp only[AD] at hw ⊢;omega
theorem EO (R:Rd)(i:Nat)(c:UInt8):(eb R i c).s=R.s:=by
 unfold eb
 split
 ·exact OM _ _
 split
 ·exact Po _ _
 split
 ·rfl
 split
 ·exact (Mj _ _).1
 split
 ·rfl
 split
 ·rfl
 ·exact jr _ _ _
theorem rJ {R:Rd}{i:Nat}{c:UInt8}(h0:R.e=0)(hc:R.s[i]? = some c)(h:(eb R i c).e=0):i<(eb R i c).next∧(eb R i c).next≤R.s.length:=by
 have hi:i<R.s.length:=(List.getElem?_eq_some_iff.1 hc).1
 have l1:∀ {j:Nat} {b:UInt8},R.s[j]? = some b→j<R.s.length:=fun h=>(List.getElem?_eq_some_iff.1 h).1
 unfold eb at h ⊢
 split
 ·rename_i h1;rw[if_pos h1] at h;exact CZ h0 hi h
 rename_i h1
 rw[if_neg h1] at h
 split
 ·rename_i h2;rw[if_pos h2] at h;exact EX h0 (l1 h2.2) h
 rename_i h2
 rw[if_neg h2] at h
 split
 ·rename_i h3
  have hw:ec c=true:=by unfold ec;rw[h3];rfl
  have e:=xC (q:=ec) hc
  rw[if_pos hw] at e
  have e1:i+1≤bz ec R.s (i+1):=eS
  have e2:bz ec R.s (i+1)≤R.s.length:=cK (by omega)
  simp only
  omega
 rename_i h3
 rw[if_neg h3] at h
 split
 ·rename_i h4;rw[if_pos h4] at h;exact Eh h0 hi h
 rename_i h4
 rw[if_neg h4] at h
 split
 ·rename_i h5
  have:=l1 h5.2
  exact⟨by simp only;omega,by simp only;omega⟩
 rename_i h5
 rw[if_neg h5] at h
 split
 ·exact⟨by simp only;omega,by simp only;omega⟩
 ·rename_i h6
  rw[if_neg h6] at h
  exact absurd h (bJ (by decide))
def OkR (R:Rd):Prop:=R.e=0→R.s.length≤65536∧R.now.pos≤R.next∧R.next≤R.s.length∧(R.now.kind≠0→R.now.pos<R.next)
theorem vV {R:Rd}(h:R.e≠0):bi R=R:=if_neg h
theorem BT {R:Rd}(h:R.e=0)(hi:R.s.length≤bz ba R.s R.next):bi R = { R with now:={ pos:=bz ba R.s R.next },next:=bz ba R.s R.next }:=by
 unfold bi
 rw[if_pos h]
 simp only
 rw[List.getElem?_eq_none hi]
theorem BS {R:Rd}{c:UInt8}(h:R.e=0)(hi:R.s[bz ba R.s R.next]? = some c):bi R=eO (eb { R with now:={ pos:=bz ba R.s R.next },next:=bz ba R.s R.next } (bz ba R.s R.next) c) (bz ba R.s R.next):=by
 unfold bi
 rw[if_pos h]
 simp only
 rw[hi]
theorem F6 (R:Rd)(i:Nat):(eO R i).s=R.s:=by unfold eO;split<;>rfl
theorem wZ (R:Rd)(i:Nat):(eO R i).next=R.next:=by unfold eO;split<;>rfl
theorem F7 (R:Rd)(i:Nat):(eO R i).e=R.e:=by unfold eO;split<;>rfl
theorem CQ (R:Rd)(i:Nat):(eO R i).now.pos=R.now.pos:=by unfold eO;split<;>rfl
theorem Nq (R:Rd):(bi R).s=R.s:=by
 by_cases h:R.e=0
 ·by_cases hi:R.s.length≤bz ba R.s R.next
  ·rw[BT h hi]
  ·obtain⟨c,hc⟩:∃ c,R.s[bz ba R.s R.next]? = some c:=⟨_,List.getElem?_eq_getElem (by omega)⟩
   rw[BS h hc,F6,EO]
 ·rw[vV h]
theorem IW (R:Rd)(i:Nat)(c:UInt8):(eb R i c).now.pos=R.now.pos:=by
 unfold eb
 split
 ·unfold rg
  generalize ib _ _ _ _=z
  cases z with
  | short=>simp only[bd,bV]
  | bad j e=>simp only[bd,bV]
  | done o j=>simp only[bd];split<;>simp[bV]
 split
 ·unfold rS
  generalize io _ _ _ _=z
  cases z with
  | short=>simp only[bd,bV]
  | bad j e=>simp only[bd,bV]
  | done o j=>simp only[bd];split<;>simp[bV]
 split
 ·rfl
 split
 ·exact (Mj _ _).2
 split
 ·rfl
 split
 ·rfl
 ·rw[bV]
theorem sx {R:Rd}(h:(bi R).e=0):R.e=0:=by
 by_cases h0:R.e=0
 ·exact h0
 ·rw[vV h0] at h;exact h
theorem GW {R:Rd}(hR:OkR R):OkR (bi R)∧((bi R).e=0→R.next≤(bi R).now.pos):=by
 by_cases h:R.e=0
 ·obtain⟨h1,h2,h3,h4⟩:=hR h
  have r1:R.next≤bz ba R.s R.next:=eS
  have r2:bz ba R.s R.next≤R.s.length:=cK h3
  by_cases hi:R.s.length≤bz ba R.s R.next
  ·rw[BT h hi]
   exact⟨fun _=>⟨h1,Nat.le_refl _,r2,fun hk=>absurd rfl hk⟩,fun _=>r1⟩
  ·obtain⟨c,hc⟩:∃ c,R.s[bz ba R.s R.next]? = some c:=⟨_,List.getElem?_eq_getElem (by omega)⟩
   rw[BS h hc]
   generalize bz ba R.s R.next=i at *
   have hn:=rJ (R:={ R with now:={ pos:=i },next:=i }) (i:=i) (c:=c) h hc
   have hs:=EO { R with now:={ pos:=i },next:=i } i c
   have hp:=IW { R with now:={ pos:=i },next:=i } i c
   generalize eb { R with now:={ pos:=i },next:=i } i c=L at *
   unfold OkR
   rw[F7,F6,CQ,wZ]
   simp only at hs hp
   rw[hs,hp]
   exact⟨fun he=>⟨h1,by have:=hn he;omega,(hn he).2,fun _=>(hn he).1⟩,fun _=>r1⟩
 ·rw[vV h]
  exact⟨hR,fun h'=>absurd h' h⟩
end Go.Proofs.YtamoeblcphjbaaaGreatDoor
set_option maxRecDepth 100000
set_option linter.unusedVariables false
set_option linter.unusedSimpArgs false
-- many steps
namespace Go.Proofs.YtamoeblcphjbaaaGreatDoor
open Go Go.Ab
attribute [local irreducible] vc
def Cl:List UInt8:=[48,49,50,51,52,53,54,55,56,57,97,98,99,100,101,102]
def hxB (n:Nat):UInt8:=Cl.getD n 0
theorem Ai {n:Nat}(h:n<16):Cl[n]? = some (hxB n):=by
 unfold hxB
 rw[List.getD_eq_getElem?_getD,List.getElem?_eq_getElem (by simpa[Cl] using h)];rfl
def lX (c:UInt8):List UInt8:=(if 16≤c.toNat then [hxB (c.toNat / 16)] else [])++[hxB (c.toNat % 16)]
def cr (c:UInt8):List UInt8:=
 if c.toNat=34∨c.toNat=92 then [92,c] else if c.toNat=10 then [92,110] else if c.toNat=13 then [92,114] else if c.toNat=9 then [92,116]
 else if c.toNat<32∨c.toNat=127 then 92::117::123::(lX c++[125]) else [c]
def bR (s:List UInt8):List UInt8:=34::(s.flatMap cr++[34])
theorem Fi (c:UInt8):(cr c).length≤6:=by
 unfold cr lX
 repeat' split
 all_goals simp
theorem fM (s:List UInt8):(s.flatMap cr).length≤6*s.length:=by
 induction s with
 | nil=>simp
 | cons c r ih=>have:=Fi c;simp only[List.flatMap_cons,List.length_append,List.length_cons];omega
theorem kC (a b:List UInt8):az (a++b)=az a++az b:=by simp[az]
theorem dU (a:List UInt8):(az a).length=a.length:=by simp[az]
theorem fL {s:List UInt8}{i:Nat}{c:UInt8}(h:s[i]? = some c)(f:UInt8→List UInt8):(s.take (i+1)).flatMap f=(s.take i).flatMap f++f c:=by
 rw[bt h];simp
theorem Fg {c:UInt8}(h:c.toNat=34∨c.toNat=92):cr c=[92,c]:=if_pos h
theorem Ju {c:UInt8}(h:c.toNat=10):cr c=[92,110]:=by unfold cr;rw[if_neg (by omega),if_pos h]
theorem Jt {c:UInt8}(h:c.toNat=13):cr c=[92,114]:=by unfold cr;rw[if_neg (by omega),if_neg (by omega),if_pos h]
theorem Js {c:UInt8}(h:c.toNat=9):cr c=[92,116]:=by unfold cr;rw[if_neg (by omega),if_neg (by omega),if_neg (by omega),if_pos h]
theorem Jr {c:UInt8}(h:c.toNat<32∨c.toNat=127)(h1:¬ c.toNat=10)(h2:¬ c.toNat=13)(h3:¬ c.toNat=9):cr c=92::117::123::(lX c++[125]):=by
 unfold cr;rw[if_neg (by omega),if_neg h1,if_neg h2,if_neg h3,if_pos h]
theorem Jq {c:UInt8}(h:¬ (c.toNat<32∨c.toNat=127))(h0:¬ (c.toNat=34∨c.toNat=92)):cr c=[c]:=by
 unfold cr;rw[if_neg h0,if_neg (by omega),if_neg (by omega),if_neg (by omega),if_neg h]
set_option maxHeartbeats 4000000 in
theorem DV (s:List UInt8)(hs:s.length≤100000):aw Tryz.prog aF 21 [.str s] (.str (bR s)):=by
 refine aw.intro N6 (by simp[F21]) ?_
 simp(maxSteps:=9^7) (disch:=first|exact dI|fail) only[F21,push_cast,seval]
 refine bg ([]) (fun i:Nat=>[(4,.olist 0 1 (az (34::(s.take i).flatMap cr))),(5,.pv (.int .i64 (i:Int)))]) (fun _=>[]) (fun i=>i≤s.length) (fun i=>s.length - i) (0) ?_;intro e0 σ0 n0 h0;simp(maxSteps:=9^7) (disch:=first|exact dI|fail) only[push_cast,seval] at h0;obtain⟨rfl,rfl,rfl⟩:=h0;refine⟨?_,?_,?_⟩
 ·simp(maxSteps:=9^7) (disch:=first|exact dI|fail) only[push_cast,seval]
  exact .refl _
 ·omega
 ·rintro i hi
  by_cases hlt:i<s.length
  ·obtain⟨c,hc⟩:∃ c,s[i]? = some c:=⟨_,List.getElem?_eq_getElem hlt⟩
   have hltI:(i:Int)<(s.length:Int):=by omega
   have hB:az (34::(s.take (i+1)).flatMap cr)=az (34::(s.take i).flatMap cr)++az (cr c):=by
    rw[fL hc,← List.cons_append,kC]
   have hl:(az (34::(s.take i).flatMap cr)).length≤600001:=by
    have:=fM (s.take i)
    rw[dU,List.length_cons]
    rw[List.length_take] at this
    omega
   generalize az (34::(s.take i).flatMap cr)=Q at *
   by_cases h1:c.toNat=34∨c.toNat=92
   ·have hE:az (cr c)=[.int .u8 92,.int .u8 (c.toNat:Int)]:=by rw[Fg h1];rfl
    rw[hE] at hB
    by_cases h34:c.toNat=34
    ·have h34I:(c.toNat:Int)=34:=by omega
     simp(maxSteps:=9^7) (disch:=first|exact dI|fail) only[hltI,hc,h34I,push_cast,seval]
     exact⟨i+1,bM (by simp(maxSteps:=9^7) (disch:=first|exact dI|fail) only[hB,h34I,push_cast,seval]),by omega,by omega⟩
    ·have h34I:¬ (c.toNat:Int)=34:=by omega
     have h92I:(c.toNat:Int)=92:=by omega
     simp(maxSteps:=9^7) (disch:=first|exact dI|fail) only[hltI,hc,h34I,h92I,push_cast,seval]
     exact⟨i+1,bM (by simp(maxSteps:=9^7) (disch:=first|exact dI|fail) only[hB,h92I,push_cast,seval]),by omega,by omega⟩
   ·have h34I:¬ (c.toNat:Int)=34:=by omega
    have h92I:¬ (c.toNat:Int)=92:=by omega
    by_cases h10:c.toNat=10
    ·have h10I:(c.toNat:Int)=10:=by omega
     have hE:az (cr c)=[.int .u8 92,.int .u8 110]:=by rw[Ju h10];rfl
     rw[hE] at hB
     clear h34I h92I
     simp(maxSteps:=9^7) (disch:=first|exact dI|fail) only[hltI,hc,h10I,push_cast,seval]
     exact⟨i+1,bM (by simp(maxSteps:=9^7) (disch:=first|exact dI|fail) only[hB,push_cast,seval]),by omega,by omega⟩
    have h10I:¬ (c.toNat:Int)=10:=by omega
    by_cases h13:c.toNat=13
    ·have h13I:(c.toNat:Int)=13:=by omega
     have hE:az (cr c)=[.int .u8 92,.int .u8 114]:=by rw[Jt h13];rfl
     rw[hE] at hB
     clear h34I h92I h10I
     simp(maxSteps:=9^7) (disch:=first|exact dI|fail) only[hltI,hc,h13I,push_cast,seval]
     exact⟨i+1,bM (by simp(maxSteps:=9^7) (disch:=first|exact dI|fail) only[hB,push_cast,seval]),by omega,by omega⟩
    have h13I:¬ (c.toNat:Int)=13:=by omega
    by_cases h9:c.toNat=9
    ·have h9I:(c.toNat:Int)=9:=by omega
     have hE:az (cr c)=[.int .u8 92,.int .u8 116]:=by rw[Js h9];rfl
     rw[hE] at hB
     clear h34I h92I h10I h13I
     simp(maxSteps:=9^7) (disch:=first|exact dI|fail) only[hltI,hc,h9I,push_cast,seval]
     exact⟨i+1,bM (by simp(maxSteps:=9^7) (disch:=first|exact dI|fail) only[hB,push_cast,seval]),by omega,by omega⟩
    have h9I:¬ (c.toNat:Int)=9:=by omega
    by_cases h5:c.toNat<32∨c.toNat=127
    ·obtain⟨q,hqN⟩:∃ q,q=c.toNat / 16:=⟨_,rfl⟩
     obtain⟨m,hmN⟩:∃ m,m=c.toNat % 16:=⟨_,rfl⟩
     have hq:((c.toNat:Int) / 16)=(q:Int):=by omega
     have hm:((c.toNat:Int) % 16)=(m:Int):=by omega
     have hxq:=Ai (n:=q) (by omega)
     have hxm:=Ai (n:=m) (by omega)
     unfold Cl at hxq hxm
     have hE:=congrArg az (Jr h5 h10 h13 h9)
     unfold lX at hE
     rw[← hqN,← hmN] at hE
     by_cases h16:16≤c.toNat
     ·have h16I:(16:Int)≤(c.toNat:Int):=by omega
      rw[if_pos h16] at hE
      replace hE:az (cr c)=[.int .u8 92,.int .u8 117,.int .u8 123,.int .u8 ((hxB q).toNat:Int),.int .u8 ((hxB m).toNat:Int),.int .u8 125]:=hE
      rw[hE] at hB
      by_cases h32:c.toNat<32
      ·have h32I:(c.toNat:Int)<32:=by omega
       simp(maxSteps:=9^7) (disch:=first|exact dI|fail) only[hltI,hc,h34I,h92I,h10I,h13I,h9I,h32I,h16I,hq,hm,hxq,hxm,push_cast,seval]
       exact⟨i+1,bM (by simp(maxSteps:=9^7) (disch:=first|exact dI|fail) only[hB,List.append_assoc,List.cons_append,List.nil_append,push_cast,seval]),by omega,by omega⟩
      ·have h32I:¬ (c.toNat:Int)<32:=by omega
       have h127:((c.toNat:Int)=127)=True:=eq_true (by omega)
       simp(maxSteps:=9^7) (disch:=first|exact dI|fail) only[hltI,hc,h34I,h92I,h10I,h13I,h9I,h32I,h127,h16I,hq,hm,hxq,hxm,push_cast,seval]
       exact⟨i+1,bM (by simp(maxSteps:=9^7) (disch:=first|exact dI|fail) only[hB,List.append_assoc,List.cons_append,List.nil_append,push_cast,seval]),by omega,by omega⟩
     ·have h16I:¬ (16:Int)≤(c.toNat:Int):=by omega
      rw[if_neg h16] at hE
      replace hE:az (cr c)=[.int .u8 92,.int .u8 117,.int .u8 123,.int .u8 ((hxB m).toNat:Int),.int .u8 125]:=hE
      rw[hE] at hB
      have h32I:(c.toNat:Int)<32:=by omega
      simp(maxSteps:=9^7) (disch:=first|exact dI|fail) only[hltI,hc,h34I,h92I,h10I,h13I,h9I,h32I,h16I,hm,hxm,push_cast,seval]
      exact⟨i+1,bM (by simp(maxSteps:=9^7) (disch:=first|exact dI|fail) only[hB,List.append_assoc,List.cons_append,List.nil_append,push_cast,seval]),by omega,by omega⟩
    ·have h32I:¬ (c.toNat:Int)<32:=by omega
     have h127I:¬ (c.toNat:Int)=127:=by omega
     have hE:az (cr c)=[.int .u8 (c.toNat:Int)]:=by rw[Jq h5 h1];rfl
     rw[hE] at hB
     simp(maxSteps:=9^7) (disch:=first|exact dI|fail) only[hltI,hc,h34I,h92I,h10I,h13I,h9I,h32I,h127I,push_cast,seval]
     exact⟨i+1,bM (by simp(maxSteps:=9^7) (disch:=first|exact dI|fail) only[hB,push_cast,seval]),by omega,by omega⟩
  ·have hltI:¬ (i:Int)<(s.length:Int):=by omega
   obtain rfl:i=s.length:=by omega
   have hl:(az (34::(s.take s.length).flatMap cr)).length≤600001:=by
    have:=fM s
    rw[dU,List.length_cons,List.take_length]
    omega
   have hU:u8s (az (34::(s.take s.length).flatMap cr)++[.int .u8 34])=some (bR s):=by
    rw[List.take_length,show az (34::s.flatMap cr)++[.int .u8 34]=az (bR s) by simp[az,bR]]
    exact fo _
   generalize az (34::(s.take s.length).flatMap cr)=Q at *
   simp(maxSteps:=9^7) (disch:=first|exact dI|fail) only[hltI,hU,push_cast,seval]
end Go.Proofs.YtamoeblcphjbaaaGreatDoor
