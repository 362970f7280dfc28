/- A part of the proof. -/
import Derived.Test.YtamoeblcphjbaaaGreatDoorPaLP5
import Derived.Test.YtamoeblcphjbaaaGreatDoorPaLP6
set_option maxRecDepth 100000
set_option linter.unusedVariables false
set_option linter.unusedSimpArgs false
namespace Go.Proofs.YtamoeblcphjbaaaGreatDoor
open Go Go.Ab
theorem kU (R:Rd)(i:Nat)(e:Int):(aI R i e).s=R.s:=by unfold aI;split<;>rfl
theorem cx (R:Rd)(i:Nat)(e:Int):(aI R i e).now=R.now:=by unfold aI;split<;>rfl
theorem BL (R:Rd)(i:Nat)(e:Int):(aI R i e).next=R.next:=by unfold aI;split<;>rfl
theorem aZ {R:Rd}{i:Nat}{e:Int}(he:e≠0):(aI R i e).e≠0:=by
 unfold aI;split
 ·exact he
 ·assumption
theorem gG:∀ (f:Nat) (l:List UInt8) (i:Nat) (o:List UInt8) {o':List UInt8} {j:Nat},ir f l i o = .done o' j→i<j∧j≤i+l.length
 | 0,l,i,o,o',j,h=>by cases h
 | f+1,[],i,o,o',j,h=>by cases h
 | f+1,c::r,i,o,o',j,h=>by
   by_cases h1:c.toNat=34
   ·rw[iq h1] at h;cases h;simp
   by_cases h2:c.toNat<32∨c.toNat=127
   ·rw[fF h1 h2] at h;cases h
   by_cases h3:c.toNat=92
   ·by_cases h4:r=[]
    ·subst h4;rw[d6 h3] at h;cases h
    ·rw[fD h3 h4] at h
     split at h
     ·rename_i he
      have:=jK he
      have ih:=gG f _ _ _ h
      rw[List.length_drop] at ih
      rw[List.length_cons];omega
     ·cases h
   ·rw[dj h1 h2 h3] at h
    have ih:=gG f _ _ _ h
    rw[List.length_cons];omega
theorem gV:∀ (l:List UInt8) (i:Nat) (q:Option Nat) (o:List UInt8) {o':List UInt8} {j:Nat},en l i q o = .done o' j→i<j∧j≤i+l.length
 | [],i,q,o,o',j,h=>by cases h
 | c::r,i,q,o,o',j,h=>by
   rw[en] at h
   split at h
   ·cases h;simp
   ·split at h
    ·cases h
    ·split at h
     ·have ih:=gV r _ _ _ h
      rw[List.length_cons];omega
     ·have ih:=gV r _ _ _ h
      rw[List.length_cons];omega
theorem G0 (R:Rd)(i:Nat)(k:Int)(v:Bool)(z:Sc):(bd R i k v z).s=R.s:=by
 cases z with
 | short=>exact kU _ _ _
 | bad j e=>exact kU _ _ _
 | done o j=>simp only[bd];split<;>simp[kU]
theorem oP {R:Rd}{i:Nat}{k:Int}{v:Bool}{z:Sc}(h:(bd R i k v z).e=0)(h0:R.e=0):(∃ o j,z = .done o j∧(bd R i k v z).next=j)∨(∃ j,z = .bad j 0):=by
 cases z with
 | short=>exact absurd h (aZ (by decide))
 | bad j e=>
   by_cases he:e=0
   ·subst he;exact .inr ⟨j,rfl⟩
   ·exact absurd h (aZ he)
 | done o j=>exact .inl ⟨o,j,rfl,rfl⟩
theorem jW:∀ (f:Nat) (l:List UInt8) (i:Nat) (o:List UInt8) {j:Nat},¬ ir f l i o = .bad j 0
 | 0,l,i,o,j,h=>by cases h
 | f+1,[],i,o,j,h=>by cases h
 | f+1,c::r,i,o,j,h=>by
   by_cases h1:c.toNat=34
   ·rw[iq h1] at h;cases h
   by_cases h2:c.toNat<32∨c.toNat=127
   ·rw[fF h1 h2] at h;cases h
   by_cases h3:c.toNat=92
   ·by_cases h4:r=[]
    ·subst h4;rw[d6 h3] at h;cases h
    ·rw[fD h3 h4] at h
     split at h
     ·exact jW f _ _ _ h
     ·rename_i hne
      injection h with h5 h6
      exact hne h6
   ·rw[dj h1 h2 h3] at h
    exact jW f _ _ _ h
theorem kG:∀ (l:List UInt8) (i:Nat) (q:Option Nat) (o:List UInt8) {j:Nat},¬ en l i q o = .bad j 0
 | [],i,q,o,j,h=>by cases h
 | c::r,i,q,o,j,h=>by
   rw[en] at h
   split at h
   ·cases h
   ·split at h
    ·cases h
    ·split at h
     ·exact kG r _ _ _ h
     ·exact kG r _ _ _ h
theorem QF (R:Rd)(i:Nat):(xr R i).s=R.s:=G0 _ _ _ _ _
theorem Rj (R:Rd)(i:Nat):(xw R i).s=R.s:=G0 _ _ _ _ _
theorem kq (R:Rd)(i:Nat):rp R i=aI R i 13∨∃ w q,rp R i=Ax R i w q:=by
 obtain⟨a,ha⟩:∃ a,(if R.s[i]? = some 45 then i+1 else i)=a:=⟨_,rfl⟩
 by_cases hz:aK isD R.s a=a
 ·exact .inl (l8 ha hz)
 ·exact .inr ⟨_,_,cE ha rfl hz rfl⟩
theorem NJ (R:Rd)(i:Nat)(w:Nat×Bool×Bool)(q:(Int×Nat)×Int):(Ax R i w q).s=R.s∧(Ax R i w q).now.pos=R.now.pos:=by
 obtain⟨a,x,y⟩:=w
 obtain⟨⟨n,sc⟩,e⟩:=q
 by_cases he:e=0
 ·subst he;rw[cu];exact⟨rfl,rfl⟩
 ·rw[ct he];simp only[kU,cx];exact⟨trivial,trivial⟩
theorem NH (R:Rd)(i:Nat):(rp R i).s=R.s∧(rp R i).now.pos=R.now.pos:=by
 rcases kq R i with h | ⟨w,q,h⟩
 ·rw[h,kU,cx];exact⟨rfl,rfl⟩
 ·rw[h];exact NJ _ _ _ _
theorem DS {R:Rd}{i:Nat}(h0:R.e=0)(hi:i<R.s.length)(h:(xr R i).e=0):i<(xr R i).next∧(xr R i).next≤R.s.length:=by
 rcases oP h h0 with ⟨o,j,h1,h2⟩ | ⟨j,h1⟩
 ·have:=gG _ _ _ _ h1
  rw[List.length_drop] at this
  unfold xr;rw[h2];omega
 ·exact absurd h1 (jW _ _ _ _)
theorem FB {R:Rd}{i:Nat}(h0:R.e=0)(hi:i+1<R.s.length)(h:(xw R i).e=0):i<(xw R i).next∧(xw R i).next≤R.s.length:=by
 rcases oP h h0 with ⟨o,j,h1,h2⟩ | ⟨j,h1⟩
 ·have:=gV _ _ _ _ h1
  rw[List.length_drop] at this
  unfold xw;rw[h2];omega
 ·exact absurd h1 (kG _ _ _ _)
theorem rq {s:List UInt8}{z:Nat}(h:z≤s.length):z≤(ma s z).1∧(ma s z).1≤s.length:=by
 unfold ma
 split
 ·rename_i h1
  have:z<s.length:=by
   rcases Nat.lt_or_ge z s.length with h' | h'
   ·exact h'
   ·rw[List.getElem?_eq_none h'] at h1;cases h1.1
  have h2:z+1≤aK isD s (z+1):=da
  have h3:aK isD s (z+1)≤s.length:=bq (by omega)
  exact⟨by simp only;omega,h3⟩
 ·split
  ·rename_i h1
   have:z<s.length:=by
    rcases Nat.lt_or_ge z s.length with h' | h'
    ·exact h'
    ·rw[List.getElem?_eq_none h'] at h1;cases h1
   exact⟨by simp only;omega,by simp only;omega⟩
  ·exact⟨Nat.le_refl _,h⟩
theorem EY {R:Rd}{i:Nat}(h0:R.e=0)(hi:i<R.s.length)(h:(rp R i).e=0):i<(rp R i).next∧(rp R i).next≤R.s.length:=by
 obtain⟨a,ha⟩:∃ a,(if R.s[i]? = some 45 then i+1 else i)=a:=⟨_,rfl⟩
 have hal:a≤R.s.length∧i≤a:=by rw[← ha];split<;>omega
 have hz1:a≤aK isD R.s a:=da
 have hz2:aK isD R.s a≤R.s.length:=bq hal.1
 by_cases hz:aK isD R.s a=a
 ·rw[l8 ha hz] at h
  exact absurd h (aZ (by decide))
 ·rw[cE ha rfl hz rfl]
  have hw:=rq hz2
  generalize ma R.s (aK isD R.s a)=w at *
  obtain⟨w1,w2,w3⟩:=w
  generalize aQ _=q
  obtain⟨⟨n,sc⟩,e⟩:=q
  by_cases he:e=0
  ·subst he
   rw[cu]
   simp only at hw ⊢;omega
  ·rw[ct he]
   simp only[BL] at hw ⊢;omega
theorem Fs (R:Rd)(i:Nat)(c:UInt8):(eS R i c).s=R.s:=by
 unfold eS
 split
 ·exact QF _ _
 split
 ·exact Rj _ _
 split
 ·rfl
 split
 ·exact (NH _ _).1
 split
 ·rfl
 split
 ·rfl
 ·exact kU _ _ _
theorem tZ {R:Rd}{i:Nat}{c:UInt8}(h0:R.e=0)(hc:R.s[i]? = some c)(h:(eS R i c).e=0):i<(eS R i c).next∧(eS R i c).next≤R.s.length:=by
 have hi:i<R.s.length:=(List.getElem?_eq_some_iff.1 hc).1
 have l1:∀ {j:Nat} {b:UInt8},R.s[j]? = some b→j<R.s.length:=fun h=>(List.getElem?_eq_some_iff.1 h).1
 unfold eS at h ⊢
 split
 ·rename_i h1;rw[if_pos h1] at h;exact DS h0 hi h
 rename_i h1
 rw[if_neg h1] at h
 split
 ·rename_i h2;rw[if_pos h2] at h;exact FB h0 (l1 h2.2) h
 rename_i h2
 rw[if_neg h2] at h
 split
 ·rename_i h3
  have hw:bM c=true:=by unfold bM;rw[h3];rfl
  have e:=fg (q:=bM) hc
  rw[if_pos hw] at e
  have e1:i+1≤aK bM R.s (i+1):=da
  have e2:aK bM R.s (i+1)≤R.s.length:=bq (by omega)
  simp only
  omega
 rename_i h3
 rw[if_neg h3] at h
 split
 ·rename_i h4;rw[if_pos h4] at h;exact EY h0 hi h
 rename_i h4
 rw[if_neg h4] at h
 split
 ·rename_i h5
  have:=l1 h5.2
  exact⟨by simp only;omega,by simp only;omega⟩
 rename_i h5
 rw[if_neg h5] at h
 split
 ·exact⟨by simp only;omega,by simp only;omega⟩
 ·rename_i h6
  rw[if_neg h6] at h
  exact absurd h (aZ (by decide))
def OkR (R:Rd):Prop:=R.e=0→R.s.length≤65536∧R.now.pos≤R.next∧R.next≤R.s.length∧(R.now.kind≠0→R.now.pos<R.next)
theorem p8 {R:Rd}(h:R.e≠0):aY R=R:=if_neg h
theorem sm {R:Rd}(h:R.e=0)(hi:R.s.length≤aK aC R.s R.next):aY R = { R with now:={ pos:=aK aC R.s R.next },next:=aK aC R.s R.next }:=by
 unfold aY
 rw[if_pos h]
 simp only
 rw[List.getElem?_eq_none hi]
theorem sl {R:Rd}{c:UInt8}(h:R.e=0)(hi:R.s[aK aC R.s R.next]? = some c):aY R=fb (eS { R with now:={ pos:=aK aC R.s R.next },next:=aK aC R.s R.next } (aK aC R.s R.next) c) (aK aC R.s R.next):=by
 unfold aY
 rw[if_pos h]
 simp only
 rw[hi]
theorem GH (R:Rd)(i:Nat):(fb R i).s=R.s:=by unfold fb;split<;>rfl
theorem yh (R:Rd)(i:Nat):(fb R i).next=R.next:=by unfold fb;split<;>rfl
theorem sY (R:Rd)(i:Nat):(fb R i).e=R.e:=by unfold fb;split<;>rfl
theorem DF (R:Rd)(i:Nat):(fb R i).now.pos=R.now.pos:=by unfold fb;split<;>rfl
theorem OZ (R:Rd):(aY R).s=R.s:=by
 by_cases h:R.e=0
 ·by_cases hi:R.s.length≤aK aC R.s R.next
  ·rw[sm h hi]
  ·obtain⟨c,hc⟩:∃ c,R.s[aK aC R.s R.next]? = some c:=⟨_,List.getElem?_eq_getElem (by omega)⟩
   rw[sl h hc,GH,Fs]
 ·rw[p8 h]
theorem JA (R:Rd)(i:Nat)(c:UInt8):(eS R i c).now.pos=R.now.pos:=by
 unfold eS
 split
 ·unfold xr
  generalize ir _ _ _ _=z
  cases z with
  | short=>simp only[bd,cx]
  | bad j e=>simp only[bd,cx]
  | done o j=>simp only[bd];split<;>simp[cx]
 split
 ·unfold xw
  generalize en _ _ _ _=z
  cases z with
  | short=>simp only[bd,cx]
  | bad j e=>simp only[bd,cx]
  | done o j=>simp only[bd];split<;>simp[cx]
 split
 ·rfl
 split
 ·exact (NH _ _).2
 split
 ·rfl
 split
 ·rfl
 ·rw[cx]
theorem uQ {R:Rd}(h:(aY R).e=0):R.e=0:=by
 by_cases h0:R.e=0
 ·exact h0
 ·rw[p8 h0] at h;exact h
theorem uP {R:Rd}(hR:OkR R):OkR (aY R)∧((aY R).e=0→R.next≤(aY R).now.pos):=by
 by_cases h:R.e=0
 ·obtain⟨h1,h2,h3,h4⟩:=hR h
  have r1:R.next≤aK aC R.s R.next:=da
  have r2:aK aC R.s R.next≤R.s.length:=bq h3
  by_cases hi:R.s.length≤aK aC R.s R.next
  ·rw[sm h hi]
   exact⟨fun _=>⟨h1,Nat.le_refl _,r2,fun hk=>absurd rfl hk⟩,fun _=>r1⟩
  ·obtain⟨c,hc⟩:∃ c,R.s[aK aC R.s R.next]? = some c:=⟨_,List.getElem?_eq_getElem (by omega)⟩
   rw[sl h hc]
   generalize aK aC R.s R.next=i at *
   have hn:=tZ (R:={ R with now:={ pos:=i },next:=i }) (i:=i) (c:=c) h hc
   have hs:=Fs { R with now:={ pos:=i },next:=i } i c
   have hp:=JA { R with now:={ pos:=i },next:=i } i c
   generalize eS { R with now:={ pos:=i },next:=i } i c=L at *
   unfold OkR
   rw[sY,GH,DF,yh]
   simp only at hs hp
   rw[hs,hp]
   exact⟨fun he=>⟨h1,by have:=hn he;omega,(hn he).2,fun _=>(hn he).1⟩,fun _=>r1⟩
 ·rw[p8 h]
  exact⟨hR,fun h'=>absurd h' h⟩
end Go.Proofs.YtamoeblcphjbaaaGreatDoor
