/- A part. -/
import Derived.Test.YtamoeblcphjbaaaGreatDoorBlLP5
import Derived.Test.YtamoeblcphjbaaaGreatDoorBlLP6
set_option linter.unusedVariables false
set_option linter.unusedSimpArgs false
set_option maxHeartbeats 16000000
set_option maxRecDepth 100000
open List renaming length_drop->UC,length_cons->Ut,getElem?_eq_none->UN,getElem?_eq_some_iff->Up,getElem?_eq_getElem->Uo
namespace Go.Proofs.YtamoeblcphjbaaaGreatDoor
open Go Go.Ab
theorem l9 (R:Rd)(i:Nat)(e:Int):(aP R i e).s=R.s:=by unfold aP;split<;>rfl
theorem cN (R:Rd)(i:Nat)(e:Int):(aP R i e).now=R.now:=by unfold aP;split<;>rfl
theorem Dt (R:Rd)(i:Nat)(e:Int):(aP R i e).next=R.next:=by unfold aP;split<;>rfl
theorem bn {R:Rd}{i:Nat}{e:Int}(he:e≠0):(aP R i e).e≠0:=by
 unfold aP;split
 ·exact he
 ·assumption
theorem Du {R:Rd}{i:Nat}{e:Int}(h:R.e≠0):aP R i e=R:=if_neg h
theorem io:∀ (f:Nat) (l:List UInt8) (i:Nat) (o:List UInt8) {o':List UInt8} {j:Nat},ia f l i o = .done o' j->i<j/\j<=i+l.length
 | 0,l,i,o,o',j,h=>by cases h
 | f+1,[],i,o,o',j,h=>by cases h
 | f+1,c::r,i,o,o',j,h=>by
   by_cases h1:c.toNat=34
   ·rw[fJ h1] at h;cases h;simp
   by_cases h2:c.toNat<32\/c.toNat=127
   ·rw[eU h1 h2] at h;cases h
   by_cases h3:c.toNat=92
   ·by_cases h4:r=[]
    ·subst h4;rw[dL h3] at h;cases h
    ·rw[d7 h3 h4] at h
     split at h
     ·rename_i he
      have:=iQ he
      have ih:=io f _ _ _ h
      rw[UC] at ih
      rw[Ut];omega
     ·cases h
   ·rw[cy h1 h2 h3] at h
    have ih:=io f _ _ _ h
    rw[Ut];omega
theorem iI:∀ (l:List UInt8) (i:Nat) (q:Option Nat) (o:List UInt8) {o':List UInt8} {j:Nat},eb l i q o = .done o' j->i<j/\j<=i+l.length
 | [],i,q,o,o',j,h=>by cases h
 | c::r,i,q,o,o',j,h=>by
   rw[eb] at h
   split at h
   ·cases h;simp
   ·split at h
    ·cases h
    ·split at h
     ·have ih:=iI r _ _ _ h
      rw[Ut];omega
     ·have ih:=iI r _ _ _ h
      rw[Ut];omega
theorem I5 (R:Rd)(i:Nat)(k:Int)(v:Bool)(z:Sc):(bq R i k v z).s=R.s:=by
 cases z with
 | short=>exact l9 _ _ _
 | bad j e=>exact l9 _ _ _
 | done o j=>simp only[bq];split<;>simp[l9]
theorem pV {R:Rd}{i:Nat}{k:Int}{v:Bool}{z:Sc}(h:(bq R i k v z).e=0)(h0:R.e=0):(∃ o j,z = .done o j/\(bq R i k v z).next=j)\/(∃ j,z = .bad j 0):=by
 cases z with
 | short=>exact absurd h (bn (by decide))
 | bad j e=>
   by_cases he:e=0
   ·subst he;exact .inr ⟨j,rfl⟩
   ·exact absurd h (bn he)
 | done o j=>exact .inl ⟨o,j,rfl,rfl⟩
theorem kQ:∀ (f:Nat) (l:List UInt8) (i:Nat) (o:List UInt8) {j:Nat},¬ ia f l i o = .bad j 0
 | 0,l,i,o,j,h=>by cases h
 | f+1,[],i,o,j,h=>by cases h
 | f+1,c::r,i,o,j,h=>by
   by_cases h1:c.toNat=34
   ·rw[fJ h1] at h;cases h
   by_cases h2:c.toNat<32\/c.toNat=127
   ·rw[eU h1 h2] at h;cases h
   by_cases h3:c.toNat=92
   ·by_cases h4:r=[]
    ·subst h4;rw[dL h3] at h;cases h
    ·rw[d7 h3 h4] at h
     split at h
     ·exact kQ f _ _ _ h
     ·rename_i hne
      injection h with h5 h6
      exact hne h6
   ·rw[cy h1 h2 h3] at h
    exact kQ f _ _ _ h
theorem lQ:∀ (l:List UInt8) (i:Nat) (q:Option Nat) (o:List UInt8) {j:Nat},¬ eb l i q o = .bad j 0
 | [],i,q,o,j,h=>by cases h
 | c::r,i,q,o,j,h=>by
   rw[eb] at h
   split at h
   ·cases h
   ·split at h
    ·cases h
    ·split at h
     ·exact lQ r _ _ _ h
     ·exact lQ r _ _ _ h
theorem RC (R:Rd)(i:Nat):(rI R i).s=R.s:=I5 _ _ _ _ _
theorem Sf (R:Rd)(i:Nat):(rK R i).s=R.s:=I5 _ _ _ _ _
theorem p9 (R:Rd)(i:Nat):qm R i=aP R i 13\/∃ w q,qm R i=zu R i w q:=by
 obtain⟨a,ha⟩:∃ a,(if R.s[i]? = some 45 then i+1 else i)=a:=⟨_,rfl⟩
 by_cases hz:aN isD R.s a=a
 ·exact .inl (ly ha hz)
 ·exact .inr ⟨_,_,cH ha rfl hz rfl⟩
theorem Pd (R:Rd)(i:Nat)(w:Nat×Bool×Bool)(q:(Int×Nat)×Int):(zu R i w q).s=R.s/\(zu R i w q).now.pos=R.now.pos:=by
 obtain⟨a,x,y⟩:=w
 obtain⟨⟨n,sc⟩,e⟩:=q
 by_cases he:e=0
 ·subst he;rw[cJ];exact⟨rfl,rfl⟩
 ·rw[cI he];simp only[l9,cN];exact⟨trivial,trivial⟩
theorem Pb (R:Rd)(i:Nat):(qm R i).s=R.s/\(qm R i).now.pos=R.now.pos:=by
 rcases p9 R i with h | ⟨w,q,h⟩
 ·rw[h,l9,cN];exact⟨rfl,rfl⟩
 ·rw[h];exact Pd _ _ _ _
theorem Fv {R:Rd}{i:Nat}(h0:R.e=0)(hi:i<R.s.length)(h:(rI R i).e=0):i<(rI R i).next/\(rI R i).next<=R.s.length:=by
 rcases pV h h0 with ⟨o,j,h1,h2⟩ | ⟨j,h1⟩
 ·have:=io _ _ _ _ h1
  rw[UC] at this
  unfold rI;rw[h2];omega
 ·exact absurd h1 (kQ _ _ _ _)
theorem Hh {R:Rd}{i:Nat}(h0:R.e=0)(hi:i+1<R.s.length)(h:(rK R i).e=0):i<(rK R i).next/\(rK R i).next<=R.s.length:=by
 rcases pV h h0 with ⟨o,j,h1,h2⟩ | ⟨j,h1⟩
 ·have:=iI _ _ _ _ h1
  rw[UC] at this
  unfold rK;rw[h2];omega
 ·exact absurd h1 (lQ _ _ _ _)
theorem sJ {s:List UInt8}{z:Nat}(h:z<=s.length):z<=(mL s z).1/\(mL s z).1<=s.length:=by
 unfold mL
 split
 ·rename_i h1
  have:z<s.length:=by
   rcases Nat.lt_or_ge z s.length with h' | h'
   ·exact h'
   ·rw[UN h'] at h1;cases h1.1
  have h2:z+1<=aN isD s (z+1):=df
  have h3:aN isD s (z+1)<=s.length:=bI (by omega)
  exact⟨by simp only;omega,h3⟩
 ·split
  ·rename_i h1
   have:z<s.length:=by
    rcases Nat.lt_or_ge z s.length with h' | h'
    ·exact h'
    ·rw[UN h'] at h1;cases h1
   exact⟨by simp only;omega,by simp only;omega⟩
  ·exact⟨Nat.le_refl _,h⟩
theorem Gz {R:Rd}{i:Nat}(h0:R.e=0)(hi:i<R.s.length)(h:(qm R i).e=0):i<(qm R i).next/\(qm R i).next<=R.s.length:=by
 obtain⟨a,ha⟩:∃ a,(if R.s[i]? = some 45 then i+1 else i)=a:=⟨_,rfl⟩
 have hal:a<=R.s.length/\i<=a:=by rw[<- ha];split<;>omega
 have hz1:a<=aN isD R.s a:=df
 have hz2:aN isD R.s a<=R.s.length:=bI hal.1
 by_cases hz:aN isD R.s a=a
 ·rw[ly ha hz] at h
  exact absurd h (bn (by decide))
 ·rw[cH ha rfl hz rfl]
  have hw:=sJ hz2
  generalize mL R.s (aN isD R.s a)=w at *
  obtain⟨w1,w2,w3⟩:=w
  generalize aW _=q
  obtain⟨⟨n,sc⟩,e⟩:=q
  by_cases he:e=0
  ·subst he
   rw[cJ]
   simp only at hw ⊢;omega
  ·rw[cI he]
   simp only[Dt] at hw ⊢;omega
theorem G3 (R:Rd)(i:Nat)(c:UInt8):(eO R i c).s=R.s:=by
 unfold eO
 split
 ·exact RC _ _
 split
 ·exact Sf _ _
 split
 ·rfl
 split
 ·exact (Pb _ _).1
 split
 ·rfl
 split
 ·rfl
 ·exact l9 _ _ _
theorem ve {R:Rd}{i:Nat}{c:UInt8}(h0:R.e=0)(hc:R.s[i]? = some c)(h:(eO R i c).e=0):i<(eO R i c).next/\(eO R i c).next<=R.s.length:=by
 have hi:i<R.s.length:=(Up.1 hc).1
 have l1:∀ {j:Nat} {b:UInt8},R.s[j]? = some b->j<R.s.length:=fun h=>(Up.1 h).1
 unfold eO at h ⊢
 split
 ·rename_i h1;rw[if_pos h1] at h;exact Fv h0 hi h
 rename_i h1
 rw[if_neg h1] at h
 split
 ·rename_i h2;rw[if_pos h2] at h;exact Hh h0 (l1 h2.2) h
 rename_i h2
 rw[if_neg h2] at h
 split
 ·rename_i h3
  have hw:bA c=true:=by unfold bA;rw[h3];rfl
  have e:=eA (q:=bA) hc
  rw[if_pos hw] at e
  have e1:i+1<=aN bA R.s (i+1):=df
  have e2:aN bA R.s (i+1)<=R.s.length:=bI (by omega)
  simp only
  omega
 rename_i h3
 rw[if_neg h3] at h
 split
 ·rename_i h4;rw[if_pos h4] at h;exact Gz h0 hi h
 rename_i h4
 rw[if_neg h4] at h
 split
 ·rename_i h5
  have:=l1 h5.2
  exact⟨by simp only;omega,by simp only;omega⟩
 rename_i h5
 rw[if_neg h5] at h
 split
 ·exact⟨by simp only;omega,by simp only;omega⟩
 ·rename_i h6
  rw[if_neg h6] at h
  exact absurd h (bn (by decide))
def OkR (R:Rd):Prop:=R.e=0->R.s.length<=65536/\R.now.pos<=R.next/\R.next<=R.s.length/\(R.now.kind≠0->R.now.pos<R.next)
theorem rB {R:Rd}(h:R.e≠0):aT R=R:=if_neg h
theorem tM {R:Rd}(h:R.e=0)(hi:R.s.length<=aN az R.s R.next):aT R = { R with now:={ pos:=aN az R.s R.next },next:=aN az R.s R.next }:=by
 unfold aT
 rw[if_pos h]
 simp only
 rw[UN hi]
theorem tL {R:Rd}{c:UInt8}(h:R.e=0)(hi:R.s[aN az R.s R.next]? = some c):aT R=de (eO { R with now:={ pos:=aN az R.s R.next },next:=aN az R.s R.next } (aN az R.s R.next) c) (aN az R.s R.next):=by
 unfold aT
 rw[if_pos h]
 simp only
 rw[hi]
theorem IM (R:Rd)(i:Nat):(de R i).s=R.s:=by unfold de;split<;>rfl
theorem Ax (R:Rd)(i:Nat):(de R i).next=R.next:=by unfold de;split<;>rfl
theorem kO (R:Rd)(i:Nat):(de R i).e=R.e:=by unfold de;split<;>rfl
theorem Fg (R:Rd)(i:Nat):(de R i).now.pos=R.now.pos:=by unfold de;split<;>rfl
theorem QB (R:Rd):(aT R).s=R.s:=by
 by_cases h:R.e=0
 ·by_cases hi:R.s.length<=aN az R.s R.next
  ·rw[tM h hi]
  ·obtain⟨c,hc⟩:∃ c,R.s[aN az R.s R.next]? = some c:=⟨_,Uo (by omega)⟩
   rw[tL h hc,IM,G3]
 ·rw[rB h]
theorem LW (R:Rd)(i:Nat)(c:UInt8):(eO R i c).now.pos=R.now.pos:=by
 unfold eO
 split
 ·unfold rI
  generalize ia _ _ _ _=z
  cases z with
  | short=>simp only[bq,cN]
  | bad j e=>simp only[bq,cN]
  | done o j=>simp only[bq];split<;>simp[cN]
 split
 ·unfold rK
  generalize eb _ _ _ _=z
  cases z with
  | short=>simp only[bq,cN]
  | bad j e=>simp only[bq,cN]
  | done o j=>simp only[bq];split<;>simp[cN]
 split
 ·rfl
 split
 ·exact (Pb _ _).2
 split
 ·rfl
 split
 ·rfl
 ·rw[cN]
theorem wp {R:Rd}(h:(aT R).e=0):R.e=0:=by
 by_cases h0:R.e=0
 ·exact h0
 ·rw[rB h0] at h;exact h
theorem nU {R:Rd}(hR:OkR R):OkR (aT R)/\((aT R).e=0->R.next<=(aT R).now.pos):=by
 by_cases h:R.e=0
 ·obtain⟨h1,h2,h3,h4⟩:=hR h
  have r1:R.next<=aN az R.s R.next:=df
  have r2:aN az R.s R.next<=R.s.length:=bI h3
  by_cases hi:R.s.length<=aN az R.s R.next
  ·rw[tM h hi]
   exact⟨fun _=>⟨h1,Nat.le_refl _,r2,fun hk=>absurd rfl hk⟩,fun _=>r1⟩
  ·obtain⟨c,hc⟩:∃ c,R.s[aN az R.s R.next]? = some c:=⟨_,Uo (by omega)⟩
   rw[tL h hc]
   generalize aN az R.s R.next=i at *
   have hn:=ve (R:={ R with now:={ pos:=i },next:=i }) (i:=i) (c:=c) h hc
   have hs:=G3 { R with now:={ pos:=i },next:=i } i c
   have hp:=LW { R with now:={ pos:=i },next:=i } i c
   generalize eO { R with now:={ pos:=i },next:=i } i c=L at *
   unfold OkR
   rw[kO,IM,Fg,Ax]
   simp only at hs hp
   rw[hs,hp]
   exact⟨fun he=>⟨h1,by have:=hn he;omega,(hn he).2,fun _=>(hn he).1⟩,fun _=>r1⟩
 ·rw[rB h]
  exact⟨hR,fun h'=>absurd h' h⟩
attribute [local irreducible] vc
theorem BF {s:List UInt8}{i:Nat}{c a b:UInt8}(hc:s[i]? = some c):fD [a,b] (s.drop i)=(decide (c=a)&&decide (s[i+1]? = some b)):=by
 rw[aU hc,fD]
 cases hd:s[i+1]? with
 | none=>
   have:s.drop (i+1)=[]:=List.drop_eq_nil_of_le (List.getElem?_eq_none_iff.1 hd)
   rw[this]
   simp
 | some x=>
   rw[aU hd]
   simp[Bool.decide_and]
section
variable {T:Nat}{p:PV}
theorem LY {R:Rd}{i:Nat}{c:UInt8}(h:c.toNat=34):eO R i c=rI R i:=if_pos h
theorem LX {R:Rd}{i:Nat}{c:UInt8}(h:c.toNat=120/\R.s[i+1]? = some 34):eO R i c=rK R i:=by unfold eO;rw[if_neg (by omega),if_pos h]
theorem Pt {R:Rd}{i:Nat}{c:UInt8}(h1:¬ c.toNat=34)(h2:¬ (c.toNat=120/\R.s[i+1]? = some 34))(h3:aM c=true):eO R i c = { R with next:=aN bA R.s i,now:={ R.now with kind:=1 } }:=by unfold eO;rw[if_neg h1,if_neg h2,if_pos h3]
theorem R6 {R:Rd}{i:Nat}{c:UInt8}(h1:¬ c.toNat=34)(h2:¬ (c.toNat=120/\R.s[i+1]? = some 34))(h3:¬ aM c=true)(h4:isD c=true\/c.toNat=45):eO R i c=qm R i:=by unfold eO;rw[if_neg h1,if_neg h2,if_neg h3,if_pos h4]
theorem Ps {R:Rd}{i:Nat}{c:UInt8}(h1:¬ c.toNat=34)(h2:¬ (c.toNat=120/\R.s[i+1]? = some 34))(h3:¬ aM c=true)(h4:¬ (isD c=true\/c.toNat=45))(h5:c.toNat=46/\R.s[i+1]? = some 46):eO R i c = { R with next:=i+2,now:={ R.now with kind:=5 } }:=by unfold eO;rw[if_neg h1,if_neg h2,if_neg h3,if_neg h4,if_pos h5]
theorem R5 {R:Rd}{i:Nat}{c:UInt8}(h1:¬ c.toNat=34)(h2:¬ (c.toNat=120/\R.s[i+1]? = some 34))(h3:¬ aM c=true)(h4:¬ (isD c=true\/c.toNat=45))(h5:¬ (c.toNat=46/\R.s[i+1]? = some 46))(h6:pi c=true):eO R i c = { R with next:=i+1,now:={ R.now with kind:=5 } }:=by unfold eO;rw[if_neg h1,if_neg h2,if_neg h3,if_neg h4,if_neg h5,if_pos h6]
theorem Pr {R:Rd}{i:Nat}{c:UInt8}(h1:¬ c.toNat=34)(h2:¬ (c.toNat=120/\R.s[i+1]? = some 34))(h3:¬ aM c=true)(h4:¬ (isD c=true\/c.toNat=45))(h5:¬ (c.toNat=46/\R.s[i+1]? = some 46))(h6:¬ pi c=true):eO R i c=aP R i 13:=by unfold eO;rw[if_neg h1,if_neg h2,if_neg h3,if_neg h4,if_neg h5,if_neg h6]
theorem cW {R:Rd}{i:Nat}(h:R.e=0):de R i = { R with now:={ R.now with text:=(R.s.take R.next).drop i } }:=if_pos h
theorem mZ {R:Rd}{i:Nat}(h:¬ R.e=0):de R i=R:=if_neg h
theorem bx (R:Rd)(hR:OkR R):aI Tryz.prog (bE T p) 1 93 [.ptr 0 0] [rdB R] (.pv (tkP R.now)) [rdB (aT R)]:=by
 by_cases h0:¬ R.e=0
 ·rw[rB h0]
  refine aI.intro Q93.2 (by simp[Q93]) ?_
  simp(disch:=try exact dI) only[Q93,rdB,rdC,h0,push_cast,seval]
  exact am [] (by simp(disch:=try exact dI) only[rdB,rdC,tkP,push_cast,seval])
 have h0:R.e=0:=Classical.not_not.1 h0
 have h0I:(R.e=0)=True:=eq_true h0
 obtain⟨hs,_,hnx,_⟩:=hR h0
 have hrun:=r8 (T:=T) (p:=p) R R.next 158 az H9 hs hnx
 have hi2:aN az R.s R.next<=R.s.length:=bI hnx
 have hadv0:=tM (R:=R) h0
 have hadvc:=fun c=>tL (R:=R) (c:=c) h0
 simp only[rdB,rdC] at hrun
 generalize aN az R.s R.next=i at *
 by_cases hi:R.s.length<=i
 ·rw[hadv0 hi]
  obtain rfl:i=R.s.length:=by omega
  refine aI.intro Q93.2 (by simp[Q93]) ?_
  simp(disch:=try exact dI) only[Q93,rdB,rdC,h0I,push_cast,seval]
  refine ae.lentK hrun [0] rfl qsZ qsZ ?_
  refine zgZ ?_
  exact am [] (by simp(disch:=try exact dI) only[rdB,rdC,tkP,push_cast,seval])
 have hlt:i<R.s.length:=by omega
 have hltI:¬ (i:Int)=(R.s.length:Int):=by omega
 have hltI2:(i:Int)<(R.s.length:Int):=by omega
 obtain⟨c,hc⟩:∃ c,R.s[i]? = some c:=⟨_,Uo hlt⟩
 rw[hadvc c hc]
 obtain⟨R1,hR1⟩:∃ R1:Rd,R1 = { R with now:={ pos:=i },next:=i }:=⟨_,rfl⟩
 have q1:R1.s=R.s:=by rw[hR1]
 have hb1:rdC R1=[.pv (.str R.s),.pv (.int .i64 (i:Int)),.pv (.int .i64 0),.pv (.int .i64 (i:Int)),.pv (.str []),.pv (.str []),.pv (.int .i64 0),.pv (.int .i64 0),.pv (.bool false),.pv (.bool false),.pv (.int .i64 R.e),.pv (.int .i64 (R.off:Int))]:=by rw[hR1];rfl
 rw[<- hR1]
 have hln:=ve (R:=R1) (i:=i) (c:=c) (by rw[hR1];exact h0) (by rw[hR1];exact hc)
 have hls:=G3 R1 i c
 rw[q1] at hln hls
 by_cases h34:c.toNat=34
 ·have h34I:((c.toNat:Int)=34)=True:=eq_true (by omega)
  have k1:=Og (T:=T) (p:=p) R1 i (by rw[q1];exact hs) (by rw[q1];exact hlt) (by rw[hR1];exact h0)
  rw[LY h34] at hln hls ⊢
  generalize rI R1 i=L at *
  simp only[rdB] at k1
  rw[hb1] at k1
  by_cases hL:L.e=0
  ·have hLI:(L.e=0)=True:=eq_true hL
   obtain⟨n1,n2⟩:=hln hL
   have n1I:(i:Int)<=(L.next:Int):=by omega
   have n2I:(L.next:Int)<=(R.s.length:Int):=by omega
   rw[cW hL]
   refine aI.intro Q93.2 (by simp[Q93]) ?_
   simp(disch:=try exact dI) only[Q93,rdB,rdC,h0I,push_cast,seval]
   refine ae.lentK hrun [0] rfl qsZ qsZ ?_
   simp(disch:=try exact dI) only[hltI,hltI2,hc,ag,h34I,push_cast,seval]
   refine ae.lentK k1 [0] rfl qsZ qsZ ?_
   simp(disch:=try exact dI) only[rdC,hLI,hls,n1I,n2I,push_cast,seval]
   exact am [] (by simp(disch:=try exact dI) only[rdB,rdC,tkP,hls,push_cast,seval])
  ·rw[mZ hL]
   refine aI.intro Q93.2 (by simp[Q93]) ?_
   simp(disch:=try exact dI) only[Q93,rdB,rdC,h0I,push_cast,seval]
   refine ae.lentK hrun [0] rfl qsZ qsZ ?_
   simp(disch:=try exact dI) only[hltI,hltI2,hc,ag,h34I,push_cast,seval]
   refine ae.lentK k1 [0] rfl qsZ qsZ ?_
   simp(disch:=try exact dI) only[rdC,hL,push_cast,seval]
   exact am [] (by simp(disch:=try exact dI) only[rdB,rdC,tkP,push_cast,seval])
 have h34I:¬ (c.toNat:Int)=34:=by omega
 have hpre:=toE (T:=T) (p:=p) (BH (R.s.drop i) [120,34])
 rw[BF hc] at hpre
 have htk:List.drop i (List.take R.s.length R.s)=R.s.drop i:=by rw[List.take_length]
 by_cases h2:c.toNat=120/\R.s[i+1]? = some 34
 ·have h120I:((c.toNat:Int)=120)=True:=eq_true (by omega)
  have hc120:c=120:=UInt8.toNat_inj.1 (by simpa using h2.1)
  rw[show (decide (c=120)&&decide (R.s[i+1]? = some 34))=true by rw[decide_eq_true hc120,decide_eq_true h2.2];rfl] at hpre
  have k1:=H3 (T:=T) (p:=p) R1 i (by rw[q1];exact hs) (by rw[q1];exact (Up.1 h2.2).1) (by rw[hR1];exact h0)
  rw[LX (by rw[q1];exact h2)] at hln hls ⊢
  generalize rK R1 i=L at *
  simp only[rdB] at k1
  rw[hb1] at k1
  by_cases hL:L.e=0
  ·have hLI:(L.e=0)=True:=eq_true hL
   obtain⟨n1,n2⟩:=hln hL
   have n1I:(i:Int)<=(L.next:Int):=by omega
   have n2I:(L.next:Int)<=(R.s.length:Int):=by omega
   rw[cW hL]
   refine aI.intro Q93.2 (by simp[Q93]) ?_
   simp(disch:=try exact dI) only[Q93,rdB,rdC,h0I,push_cast,seval]
   refine ae.lentK hrun [0] rfl qsZ qsZ ?_
   simp(disch:=try exact dI) only[hltI,hltI2,hc,ag,h34I,h120I,push_cast,seval]
   refine ae.pure hpre (by simp(disch:=try exact dI) only[htk,push_cast,seval]) ?_
   refine zgZ ?_
   refine ae.lentK k1 [0] rfl qsZ qsZ ?_
   simp(disch:=try exact dI) only[rdC,hLI,hls,n1I,n2I,push_cast,seval]
   exact am [] (by simp(disch:=try exact dI) only[rdB,rdC,tkP,hls,push_cast,seval])
  ·rw[mZ hL]
   refine aI.intro Q93.2 (by simp[Q93]) ?_
   simp(disch:=try exact dI) only[Q93,rdB,rdC,h0I,push_cast,seval]
   refine ae.lentK hrun [0] rfl qsZ qsZ ?_
   simp(disch:=try exact dI) only[hltI,hltI2,hc,ag,h34I,h120I,push_cast,seval]
   refine ae.pure hpre (by simp(disch:=try exact dI) only[htk,push_cast,seval]) ?_
   refine zgZ ?_
   refine ae.lentK k1 [0] rfl qsZ qsZ ?_
   simp(disch:=try exact dI) only[rdC,hL,push_cast,seval]
   exact am [] (by simp(disch:=try exact dI) only[rdB,rdC,tkP,push_cast,seval])
 rw[show (decide (c=120)&&decide (R.s[i+1]? = some 34))=false by
  by_cases hx:c=120
  ·rw[decide_eq_false (fun q=>h2 ⟨by rw[hx];rfl,q⟩),Bool.and_false]
  ·rw[decide_eq_false hx,Bool.false_and]] at hpre
 have h2':¬ (c.toNat=120/\R1.s[i+1]? = some 34):=by rw[q1];exact h2
 have hlet:=toE (T:=T) (p:=p) (qG c)
 by_cases hx:c.toNat=120
 ·-- an x that begins no bytes is a letter
  have h120I:((c.toNat:Int)=120)=True:=eq_true (by omega)
  have h3:aM c=true:=by simp[aM,hx]
  rw[h3] at hlet
  rw[Pt h34 h2' h3,cW (by rw[hR1];exact h0)]
  have hr2:=r8 (T:=T) (p:=p) R1 i 163 bA Aa (by rw[q1];exact hs) (by rw[q1];omega)
  have e1:i<=aN bA R1.s i:=df
  have e2:aN bA R1.s i<=R1.s.length:=bI (by rw[q1];omega)
  rw[q1] at e1 e2 hr2 ⊢
  generalize aN bA R.s i=z at *
  have n1I:(i:Int)<=(z:Int):=by omega
  have n2I:(z:Int)<=(R.s.length:Int):=by omega
  simp only[rdB] at hr2
  rw[hb1] at hr2
  subst hR1
  refine aI.intro Q93.2 (by simp[Q93]) ?_
  simp(disch:=try exact dI) only[Q93,rdB,rdC,h0I,push_cast,seval]
  refine ae.lentK hrun [0] rfl qsZ qsZ ?_
  simp(disch:=try exact dI) only[hltI,hltI2,hc,ag,h34I,h120I,push_cast,seval]
  refine ae.pure hpre (by simp(disch:=try exact dI) only[htk,push_cast,seval]) ?_
  refine zgZ ?_
  refine ae.pure hlet rfl ?_
  refine zgZ ?_
  refine ae.lentK hr2 [0] rfl qsZ qsZ ?_
  simp(disch:=try exact dI) only[h0I,n1I,n2I,push_cast,seval]
  exact am [] (by simp(disch:=try exact dI) only[rdB,rdC,tkP,push_cast,seval])
 have h120I:¬ (c.toNat:Int)=120:=by omega
 by_cases h3:aM c=true
 ·rw[h3] at hlet
  rw[Pt h34 h2' h3,cW (by rw[hR1];exact h0)]
  have hr2:=r8 (T:=T) (p:=p) R1 i 163 bA Aa (by rw[q1];exact hs) (by rw[q1];omega)
  have e1:i<=aN bA R1.s i:=df
  have e2:aN bA R1.s i<=R1.s.length:=bI (by rw[q1];omega)
  rw[q1] at e1 e2 hr2 ⊢
  generalize aN bA R.s i=z at *
  have n1I:(i:Int)<=(z:Int):=by omega
  have n2I:(z:Int)<=(R.s.length:Int):=by omega
  simp only[rdB] at hr2
  rw[hb1] at hr2
  subst hR1
  refine aI.intro Q93.2 (by simp[Q93]) ?_
  simp(disch:=try exact dI) only[Q93,rdB,rdC,h0I,push_cast,seval]
  refine ae.lentK hrun [0] rfl qsZ qsZ ?_
  simp(disch:=try exact dI) only[hltI,hltI2,hc,ag,h34I,h120I,push_cast,seval]
  refine ae.pure hlet rfl ?_
  refine zgZ ?_
  refine ae.lentK hr2 [0] rfl qsZ qsZ ?_
  simp(disch:=try exact dI) only[h0I,n1I,n2I,push_cast,seval]
  exact am [] (by simp(disch:=try exact dI) only[rdB,rdC,tkP,push_cast,seval])
 rw[show aM c=false by simpa using h3] at hlet
 have hdig:=toE (T:=T) (p:=p) (fe c)
 by_cases h4:isD c=true\/c.toNat=45
 ·have k1:=Pe (T:=T) (p:=p) R1 i (by rw[q1];exact hs) (by rw[q1];exact hlt) (by rw[hR1];exact h0) (by rw[hR1];exact⟨rfl,rfl⟩)
  rw[R6 h34 h2' h3 h4] at hln hls ⊢
  generalize qm R1 i=L at *
  simp only[rdB] at k1
  rw[hb1] at k1
  have hfin:∀ (dg:Bool),dg=isD c->(dg=false->(c.toNat:Int)=45)->aI Tryz.prog (bE T p) 1 93 [.ptr 0 0] [rdB R] (.pv (tkP R.now)) [rdB (de L i)]:=by
   intro dg hdg h45
   rw[<- hdg] at hdig
   by_cases hL:L.e=0
   ·have hLI:(L.e=0)=True:=eq_true hL
    obtain⟨n1,n2⟩:=hln hL
    have n1I:(i:Int)<=(L.next:Int):=by omega
    have n2I:(L.next:Int)<=(R.s.length:Int):=by omega
    rw[cW hL]
    refine aI.intro Q93.2 (by simp[Q93]) ?_
    simp(disch:=try exact dI) only[Q93,rdB,rdC,h0I,push_cast,seval]
    refine ae.lentK hrun [0] rfl qsZ qsZ ?_
    simp(disch:=try exact dI) only[hltI,hltI2,hc,ag,h34I,h120I,push_cast,seval]
    refine ae.pure hlet rfl ?_
    refine zgZ ?_
    refine ae.pure hdig rfl ?_
    cases dg with
    | true=>
      refine zgZ ?_
      refine ae.lentK k1 [0] rfl qsZ qsZ ?_
      simp(disch:=try exact dI) only[rdC,hLI,hls,n1I,n2I,push_cast,seval]
      exact am [] (by simp(disch:=try exact dI) only[rdB,rdC,tkP,hls,push_cast,seval])
    | false=>
      have h45I:((c.toNat:Int)=45)=True:=eq_true (h45 rfl)
      simp(disch:=try exact dI) only[h45I,push_cast,seval]
      refine ae.lentK k1 [0] rfl qsZ qsZ ?_
      simp(disch:=try exact dI) only[rdC,hLI,hls,n1I,n2I,push_cast,seval]
      exact am [] (by simp(disch:=try exact dI) only[rdB,rdC,tkP,hls,push_cast,seval])
   ·rw[mZ hL]
    refine aI.intro Q93.2 (by simp[Q93]) ?_
    simp(disch:=try exact dI) only[Q93,rdB,rdC,h0I,push_cast,seval]
    refine ae.lentK hrun [0] rfl qsZ qsZ ?_
    simp(disch:=try exact dI) only[hltI,hltI2,hc,ag,h34I,h120I,push_cast,seval]
    refine ae.pure hlet rfl ?_
    refine zgZ ?_
    refine ae.pure hdig rfl ?_
    cases dg with
    | true=>
      refine zgZ ?_
      refine ae.lentK k1 [0] rfl qsZ qsZ ?_
      simp(disch:=try exact dI) only[rdC,hL,push_cast,seval]
      exact am [] (by simp(disch:=try exact dI) only[rdB,rdC,tkP,push_cast,seval])
    | false=>
      have h45I:((c.toNat:Int)=45)=True:=eq_true (h45 rfl)
      simp(disch:=try exact dI) only[h45I,push_cast,seval]
      refine ae.lentK k1 [0] rfl qsZ qsZ ?_
      simp(disch:=try exact dI) only[rdC,hL,push_cast,seval]
      exact am [] (by simp(disch:=try exact dI) only[rdB,rdC,tkP,push_cast,seval])
  refine hfin (isD c) rfl fun hd=>?_
  rcases h4 with h4 | h4
  ·rw[h4] at hd;cases hd
  ·omega
 have h45I:¬ (c.toNat:Int)=45:=fun h=>h4 (.inr (by omega))
 rw[show isD c=false by
  cases hh:isD c with
  | true=>exact absurd (.inl hh) h4
  | false=>rfl] at hdig
 have hdot:=toE (T:=T) (p:=p) (BH (R.s.drop i) [46,46])
 rw[BF hc] at hdot
 by_cases h5:c.toNat=46/\R.s[i+1]? = some 46
 ·have hc46:c=46:=UInt8.toNat_inj.1 (by simpa using h5.1)
  rw[show (decide (c=46)&&decide (R.s[i+1]? = some 46))=true by rw[decide_eq_true hc46,decide_eq_true h5.2];rfl] at hdot
  rw[Ps h34 h2' h3 h4 (by rw[q1];exact h5),cW (by rw[hR1];exact h0)]
  have hl2:i+1<R.s.length:=(Up.1 h5.2).1
  have n2I:(i:Int)+2<=(R.s.length:Int):=by omega
  have n1I:(i:Int)<=(i:Int)+2:=by omega
  have e2:((i:Int)+2).toNat=i+2:=by omega
  subst hR1
  refine aI.intro Q93.2 (by simp[Q93]) ?_
  simp(disch:=try exact dI) only[Q93,rdB,rdC,h0I,push_cast,seval]
  refine ae.lentK hrun [0] rfl qsZ qsZ ?_
  simp(disch:=try exact dI) only[hltI,hltI2,hc,ag,h34I,h120I,push_cast,seval]
  refine ae.pure hlet rfl ?_
  refine zgZ ?_
  refine ae.pure hdig rfl ?_
  simp(disch:=try exact dI) only[h45I,push_cast,seval]
  refine ae.pure hdot (by simp(disch:=try exact dI) only[htk,push_cast,seval]) ?_
  simp(disch:=try exact dI) only[h0I,n1I,n2I,e2,push_cast,seval]
  exact am [] (by simp(disch:=try exact dI) only[rdB,rdC,tkP,push_cast,seval];omega)
 rw[show (decide (c=46)&&decide (R.s[i+1]? = some 46))=false by
  by_cases hx:c=46
  ·rw[decide_eq_false (fun q=>h5 ⟨by rw[hx];rfl,q⟩),Bool.and_false]
  ·rw[decide_eq_false hx,Bool.false_and]] at hdot
 have h5':¬ (c.toNat=46/\R1.s[i+1]? = some 46):=by rw[q1];exact h5
 have hsy:=toE (T:=T) (p:=p) (ku [91,93,123,125,40,41,58,44,61,63,124] c)
 have hsf:=Mh c
 generalize fA c [91,93,123,125,40,41,58,44,61,63,124] 0=q at *
 by_cases h6:pi c=true
 ·have hq:0<=q:=hsf.2 h6
  rw[R5 h34 h2' h3 h4 h5' h6,cW (by rw[hR1];exact h0)]
  have n2I:(i:Int)+1<=(R.s.length:Int):=by omega
  have n1I:(i:Int)<=(i:Int)+1:=by omega
  have e2:((i:Int)+1).toNat=i+1:=by omega
  subst hR1
  refine aI.intro Q93.2 (by simp[Q93]) ?_
  simp(disch:=try exact dI) only[Q93,rdB,rdC,h0I,push_cast,seval]
  refine ae.lentK hrun [0] rfl qsZ qsZ ?_
  simp(disch:=try exact dI) only[hltI,hltI2,hc,ag,h34I,h120I,push_cast,seval]
  refine ae.pure hlet rfl ?_
  refine zgZ ?_
  refine ae.pure hdig rfl ?_
  simp(disch:=try exact dI) only[h45I,push_cast,seval]
  refine ae.pure hdot (by simp(disch:=try exact dI) only[htk,push_cast,seval]) ?_
  refine zgZ ?_
  refine ae.pure hsy rfl ?_
  simp(disch:=try exact dI) only[hq,h0I,n1I,n2I,e2,push_cast,seval]
  exact am [] (by simp(disch:=try exact dI) only[rdB,rdC,tkP,push_cast,seval])
 ·have hq:¬ 0<=q:=fun h=>h6 (hsf.1 h)
  rw[Pr h34 h2' h3 h4 h5' h6]
  have hfa:=bV (T:=T) (p:=p) R1 i 13
  have hfe:=bn (R:=R1) (i:=i) (e:=13) (by decide)
  rw[mZ hfe]
  simp only[rdB] at hfa
  rw[hb1] at hfa
  generalize aP R1 i 13=L at *
  refine aI.intro Q93.2 (by simp[Q93]) ?_
  simp(disch:=try exact dI) only[Q93,rdB,rdC,h0I,push_cast,seval]
  refine ae.lentK hrun [0] rfl qsZ qsZ ?_
  simp(disch:=try exact dI) only[hltI,hltI2,hc,ag,h34I,h120I,push_cast,seval]
  refine ae.pure hlet rfl ?_
  refine zgZ ?_
  refine ae.pure hdig rfl ?_
  simp(disch:=try exact dI) only[h45I,push_cast,seval]
  refine ae.pure hdot (by simp(disch:=try exact dI) only[htk,push_cast,seval]) ?_
  refine zgZ ?_
  refine ae.pure hsy rfl ?_
  simp(disch:=try exact dI) only[hq,push_cast,seval]
  refine ae.lentK hfa [0] rfl qsZ qsZ ?_
  refine zgZ ?_
  exact am [] (by simp(disch:=try exact dI) only[rdB,rdC,tkP,push_cast,seval])
end
