/- A part. -/
import Derived.Test.YtamoeblcphjbaaaGreatDoorBlLQ4
set_option linter.unusedVariables false
set_option linter.unusedSimpArgs false
set_option maxHeartbeats 16000000
set_option maxRecDepth 100000
namespace Go.Proofs.YtamoeblcphjbaaaGreatDoor
open Go Go.Ab
attribute [local irreducible] vc
def cL (t:Tk):Prop:=t.kind=2\/t.kind=3\/t.kind=4\/t.kind=1\/t.text=[91]\/t.text=[123]
theorem nY {so:List Fld->List Fld}{f d:Nat}{R:Rd}(h:¬ R.e=0):aR so f d R=(bh,R):=by
 cases f<;>(unfold aR;rw[if_neg h])
theorem fG {so:List Fld->List Fld}{f d:Nat}{R:Rd}(h:R.e=0)(h2:¬ cL R.now):aR so f d R=(bh,aP R R.now.pos 13):=by
 have h3:R.now.kind≠2/\R.now.kind≠3/\R.now.kind≠4/\R.now.kind≠1/\R.now.text≠[91]/\R.now.text≠[123]:=by
  unfold cL at h2
  refine⟨fun q=>h2 (.inl q),fun q=>h2 (.inr (.inl q)),fun q=>h2 (.inr (.inr (.inl q))),fun q=>h2 (.inr (.inr (.inr (.inl q)))),fun q=>h2 (.inr (.inr (.inr (.inr (.inl q))))),fun q=>h2 (.inr (.inr (.inr (.inr (.inr q)))))⟩
 cases f<;>(unfold aR;rw[if_pos h];exact if_pos h3)
theorem vG {t:Tk}(h:cL t):¬ (t.kind≠2/\t.kind≠3/\t.kind≠4/\t.kind≠1/\t.text≠[91]/\t.text≠[123]):=by
 rintro⟨q1,q2,q3,q4,q5,q6⟩
 rcases h with h | h | h | h | h | h
 ·exact q1 h
 ·exact q2 h
 ·exact q3 h
 ·exact q4 h
 ·exact q5 h
 ·exact q6 h
theorem dA {so:List Fld->List Fld}{d:Nat}{R:Rd}(h:R.e=0)(h2:cL R.now):aR so 0 d R=(bh,aP R R.now.pos 23):=by
 unfold aR;rw[if_pos h];exact if_neg (vG h2)
def cn (so:List Fld->List Fld)(f d:Nat)(R:Rd):Val×Rd:=
 if R.now.kind=2/\R.now.dec=true then (.mk 3 R.now.num R.now.sc [] [] [],aT R)
 else if R.now.kind=2 then (.mk 2 R.now.num 0 [] [] [],aT R)
 else if R.now.kind=3 then (.mk 4 0 0 R.now.bytes [] [],aT R)
 else if R.now.kind=4 then (.mk 5 0 0 R.now.bytes [] [],aT R)
 else if R.now.text=[91] then (.mk 8 0 0 [] (dp (aR so f (d+1)) (R.s.length+2) true [] (aT R)).1 [],aq (dp (aR so f (d+1)) (R.s.length+2) true [] (aT R)).2 [93])
 else if R.now.text=[123] then (.mk 9 0 0 [] [] (so (jH (aR so f (d+1)) (R.s.length+2) true [] [] (aT R)).1),aq (jH (aR so f (d+1)) (R.s.length+2) true [] [] (aT R)).2 [125])
 else cf (aR so f (d+1)) (aT R) R.now d
theorem fj {so:List Fld->List Fld}{f d:Nat}{R:Rd}(h:R.e=0)(h2:cL R.now):aR so (f+1) d R=cn so f d R:=by
 rw[aR,if_pos h];exact if_neg (vG h2)
theorem Oj {l:List Fld}(h:∀ x∈l,x.ok):∀ x∈srt l,x.ok:=fun x hx=>h x ((FB l).mem_iff.1 hx)
theorem Dg {R:Rd}(hT:OkT R)(h0:R.e=0)(h:cL R.now):R.now.kind≠0:=by
 intro hk
 have ht:=(hT h0).2.2.2.2 hk
 rcases h with h | h | h | h | h | h
 ·rw[hk] at h;cases h
 ·rw[hk] at h;cases h
 ·rw[hk] at h;cases h
 ·rw[hk] at h;cases h
 ·rw[ht] at h;cases h
 ·rw[ht] at h;cases h
theorem ig (s:List UInt8)(hsl:s.length<=65536):∀ f d,mI (aR srt f d) s
 | 0,d=>fun R hR hT hs=>by
   by_cases h0:R.e=0
   ·by_cases hg:cL R.now
    ·rw[dA h0 hg];exact⟨dq,bj (by decide),fun h=>absurd h (bn (by decide))⟩
    ·rw[fG h0 hg];exact⟨dq,bj (by decide),fun h=>absurd h (bn (by decide))⟩
   ·rw[nY h0];exact⟨dq,.refl hR hT,fun h=>absurd h h0⟩
 | f+1,d=>fun R hR hT hs=>by
   by_cases h0:¬ R.e=0
   ·rw[nY h0];exact⟨dq,.refl hR hT,fun h=>absurd h h0⟩
   have h0:R.e=0:=Classical.not_not.1 h0
   by_cases hg:¬ cL R.now
   ·rw[fG h0 hg];exact⟨dq,bj (by decide),fun h=>absurd h (bn (by decide))⟩
   have hg:cL R.now:=Classical.not_not.1 hg
   rw[fj h0 hg]
   have ih:=ig s hsl f (d+1)
   obtain⟨a1,a2⟩:=aQ hR hT
   have hk:=Dg hT h0 hg
   obtain⟨t1,t2,t3,t4,_⟩:=hT h0
   have has1:=a1.2.2.1.trans hs
   have key:∀ (v:Val) (R':Rd),v.ok->bY (aT R) R'->v.ok/\bY R R'/\(R'.e=0->R.now.pos<R'.now.pos):=by
    intro v R' hv hst
    refine⟨hv,a1.trans hst,fun he=>?_⟩
    have q1:=hst.2.2.2 he
    have q2:=a2 q1.1 hk
    omega
   have hst:=bY.refl a1.1 a1.2.1
   unfold cn
   split
   ·exact key _ _ (eZ (dQ (by omega) (by omega)) t1 (dQ (by omega) (by omega)) (by simp)) hst
   split
   ·exact key _ _ (eZ (dQ (by omega) (by omega)) t1 bw (by simp)) hst
   split
   ·exact key _ _ (eZ (dQ (by omega) (by omega)) bw bw t4) hst
   split
   ·exact key _ _ (eZ (dQ (by omega) (by omega)) bw bw t4) hst
   split
   ·obtain⟨k1,k2,k3⟩:=vd ih (R.s.length+2) true [] (aT R) a1.1 a1.2.1 has1 (fun x hx=>by cases hx)
    refine key _ _ ?_ (k2.trans (aG k2.1 k2.2.1))
    rw[Um]
    rw[hs] at k3 ⊢
    simp only[List.length_nil] at k3
    rw[hs] at k1
    exact⟨dQ (by omega) (by omega),bw,bw,by simp,by omega,k1,by simp,fun x hx=>by cases hx⟩
   split
   ·obtain⟨k1,k2,k3⟩:=Bh ih (R.s.length+2) true [] [] (aT R) a1.1 a1.2.1 has1 (fun x hx=>by cases hx)
    refine key _ _ ?_ (k2.trans (aG k2.1 k2.2.1))
    rw[Um]
    rw[hs] at k3 ⊢
    simp only[List.length_nil] at k3
    rw[hs] at k1
    exact⟨dQ (by omega) (by omega),bw,bw,by simp,by simp,(fun x hx=>by cases hx),by rw[kV];omega,Oj k1⟩
   ·have q:=Ph (d:=d) ih a1.1 a1.2.1 has1 t3
    exact key _ _ q.1 q.2
section
variable {T:Nat}{p:PV}
theorem IJ (s:List UInt8)(hsl:s.length<=65536):∀ f d,f+d=8->Nd T p (aR srt f d) s d:=by
 intro f
 induction f with
 | zero=>
   intro d hd R hR hT hs
   obtain rfl:d=8:=by omega
   have hf13:=bV (T:=T) (p:=p) R R.now.pos 13
   have hf23:=bV (T:=T) (p:=p) R R.now.pos 23
   by_cases h0:¬ R.e=0
   ·rw[nY h0]
    simp only[rdB,rdC,bh,Un]
    refine aI.intro Q46.2 (by simp[Q46]) ?_
    simp(disch:=try exact dI) only[Q46,h0,push_cast,seval]
    exact am [] qsZ
   have h0:R.e=0:=Classical.not_not.1 h0
   have h0I:(R.e=0)=True:=eq_true h0
   by_cases n2:R.now.kind=2
   ·have k2:(R.now.kind=2)=True:=eq_true n2
    have hg:cL R.now:=.inl n2
    rw[dA h0 hg]
    simp only[rdB,rdC,bh,Un] at hf23 ⊢
    refine aI.intro Q46.2 (by simp[Q46]) ?_
    simp(disch:=try exact dI) only[Q46,h0I,k2,push_cast,seval]
    refine ae.lentK hf23 [0] rfl qsZ qsZ ?_
    refine zgZ ?_
    exact am [] qsZ
   by_cases n3:R.now.kind=3
   ·have k3:(R.now.kind=3)=True:=eq_true n3
    have hg:cL R.now:=.inr (.inl n3)
    rw[dA h0 hg]
    simp only[rdB,rdC,bh,Un] at hf23 ⊢
    refine aI.intro Q46.2 (by simp[Q46]) ?_
    simp(disch:=try exact dI) only[Q46,h0I,n2,k3,push_cast,seval]
    refine ae.lentK hf23 [0] rfl qsZ qsZ ?_
    refine zgZ ?_
    exact am [] qsZ
   by_cases n4:R.now.kind=4
   ·have k4:(R.now.kind=4)=True:=eq_true n4
    have hg:cL R.now:=.inr (.inr (.inl n4))
    rw[dA h0 hg]
    simp only[rdB,rdC,bh,Un] at hf23 ⊢
    refine aI.intro Q46.2 (by simp[Q46]) ?_
    simp(disch:=try exact dI) only[Q46,h0I,n2,n3,k4,push_cast,seval]
    refine ae.lentK hf23 [0] rfl qsZ qsZ ?_
    refine zgZ ?_
    exact am [] qsZ
   by_cases n1:R.now.kind=1
   ·have k1:(R.now.kind=1)=True:=eq_true n1
    have hg:cL R.now:=.inr (.inr (.inr (.inl n1)))
    rw[dA h0 hg]
    simp only[rdB,rdC,bh,Un] at hf23 ⊢
    refine aI.intro Q46.2 (by simp[Q46]) ?_
    simp(disch:=try exact dI) only[Q46,h0I,n2,n3,n4,k1,push_cast,seval]
    refine ae.lentK hf23 [0] rfl qsZ qsZ ?_
    refine zgZ ?_
    exact am [] qsZ
   by_cases x1:R.now.text=[91]
   ·have b1:decide (R.now.text=[91])=true:=decide_eq_true x1
    have hg:cL R.now:=.inr (.inr (.inr (.inr (.inl x1))))
    rw[dA h0 hg]
    simp only[rdB,rdC,bh,Un] at hf23 ⊢
    refine aI.intro Q46.2 (by simp[Q46]) ?_
    simp(disch:=try exact dI) only[Q46,h0I,n2,n3,n4,n1,b1,push_cast,seval]
    refine ae.lentK hf23 [0] rfl qsZ qsZ ?_
    refine zgZ ?_
    exact am [] qsZ
   have b1:decide (R.now.text=[91])=false:=decide_eq_false x1
   by_cases x2:R.now.text=[123]
   ·have b2:decide (R.now.text=[123])=true:=decide_eq_true x2
    have hg:cL R.now:=.inr (.inr (.inr (.inr (.inr x2))))
    rw[dA h0 hg]
    simp only[rdB,rdC,bh,Un] at hf23 ⊢
    refine aI.intro Q46.2 (by simp[Q46]) ?_
    simp(disch:=try exact dI) only[Q46,h0I,n2,n3,n4,n1,b1,b2,push_cast,seval]
    refine ae.lentK hf23 [0] rfl qsZ qsZ ?_
    refine zgZ ?_
    exact am [] qsZ
   have b2:decide (R.now.text=[123])=false:=decide_eq_false x2
   have hg:¬ cL R.now:=by
    rintro (h | h | h | h | h | h)
    ·exact n2 h
    ·exact n3 h
    ·exact n4 h
    ·exact n1 h
    ·exact x1 h
    ·exact x2 h
   rw[fG h0 hg]
   simp only[rdB,rdC,bh,Un] at hf13 ⊢
   refine aI.intro Q46.2 (by simp[Q46]) ?_
   simp(disch:=try exact dI) only[Q46,h0I,n2,n3,n4,n1,b1,b2,push_cast,seval]
   refine ae.lentK hf13 [0] rfl qsZ qsZ ?_
   refine zgZ ?_
   exact am [] qsZ
 | succ f ih=>
   intro d hd R hR hT hs
   have ih:=ih (d+1) (by omega)
   have ihS:=ig s hsl f (d+1)
   have hf13:=bV (T:=T) (p:=p) R R.now.pos 13
   have hdI:¬ (8:Int)<=(d:Int):=by omega
   by_cases h0:¬ R.e=0
   ·rw[nY h0]
    simp only[rdB,rdC,bh,Un]
    refine aI.intro Q46.2 (by simp[Q46]) ?_
    simp(disch:=try exact dI) only[Q46,h0,push_cast,seval]
    exact am [] qsZ
   have h0:R.e=0:=Classical.not_not.1 h0
   have h0I:(R.e=0)=True:=eq_true h0
   obtain⟨t1,t2,t3,t4,_⟩:=hT h0
   have hadv:=bx (T:=T) (p:=p) R hR
   obtain⟨a1,a2⟩:=aQ hR hT
   have has1:=a1.2.2.1.trans hs
   by_cases n2:R.now.kind=2
   ·have k2:(R.now.kind=2)=True:=eq_true n2
    have hg:cL R.now:=.inl n2
    cases hdc:R.now.dec with
    | true=>
      have hb:=toE (T:=T) (p:=p) (SB R.now.num R.now.sc)
      rw[fj h0 hg,show cn srt f d R=(.mk 3 R.now.num R.now.sc [] [] [],aT R) by unfold cn;exact if_pos ⟨n2,hdc⟩]
      generalize aT R=L1 at *
      simp only[rdB,rdC,tkP,Un] at hadv hb ⊢
      refine aI.intro Q46.2 (by simp[Q46]) ?_
      simp(disch:=try exact dI) only[Q46,h0I,hdI,k2,hdc,push_cast,seval]
      refine ae.lentK hadv [0] rfl qsZ (by simp(disch:=try exact dI) only[k2,hdc,push_cast,seval]) ?_
      simp(disch:=try exact dI) only[k2,hdc,push_cast,seval]
      refine ae.pure hb rfl ?_
      refine zgZ ?_
      exact am [] qsZ
    | false=>
      have hb:=toE (T:=T) (p:=p) (R9 R.now.num)
      rw[fj h0 hg,show cn srt f d R=(.mk 2 R.now.num 0 [] [] [],aT R) by unfold cn;rw[if_neg (fun q=>by rw[hdc] at q;cases q.2)];exact if_pos n2]
      generalize aT R=L1 at *
      simp only[rdB,rdC,tkP,Un] at hadv hb ⊢
      refine aI.intro Q46.2 (by simp[Q46]) ?_
      simp(disch:=try exact dI) only[Q46,h0I,hdI,k2,hdc,push_cast,seval]
      refine ae.lentK hadv [0] rfl qsZ (by simp(disch:=try exact dI) only[k2,hdc,push_cast,seval]) ?_
      simp(disch:=try exact dI) only[k2,hdc,push_cast,seval]
      refine ae.pure hb rfl ?_
      refine zgZ ?_
      exact am [] qsZ
   by_cases n3:R.now.kind=3
   ·have k3:(R.now.kind=3)=True:=eq_true n3
    have hg:cL R.now:=.inr (.inl n3)
    have hb:=toE (T:=T) (p:=p) (N9 R.now.bytes)
    rw[fj h0 hg,show cn srt f d R=(.mk 4 0 0 R.now.bytes [] [],aT R) by unfold cn;rw[if_neg (fun q=>n2 q.1),if_neg n2];exact if_pos n3]
    generalize aT R=L1 at *
    simp only[rdB,rdC,tkP,Un] at hadv hb ⊢
    refine aI.intro Q46.2 (by simp[Q46]) ?_
    simp(disch:=try exact dI) only[Q46,h0I,hdI,n2,k3,push_cast,seval]
    refine ae.lentK hadv [0] rfl qsZ (by simp(disch:=try exact dI) only[n2,k3,push_cast,seval]) ?_
    simp(disch:=try exact dI) only[n2,k3,push_cast,seval]
    refine ae.pure hb rfl ?_
    refine zgZ ?_
    exact am [] qsZ
   by_cases n4:R.now.kind=4
   ·have k4:(R.now.kind=4)=True:=eq_true n4
    have hg:cL R.now:=.inr (.inr (.inl n4))
    have hb:=toE (T:=T) (p:=p) (SL R.now.bytes)
    rw[fj h0 hg,show cn srt f d R=(.mk 5 0 0 R.now.bytes [] [],aT R) by unfold cn;rw[if_neg (fun q=>n2 q.1),if_neg n2,if_neg n3];exact if_pos n4]
    generalize aT R=L1 at *
    simp only[rdB,rdC,tkP,Un] at hadv hb ⊢
    refine aI.intro Q46.2 (by simp[Q46]) ?_
    simp(disch:=try exact dI) only[Q46,h0I,hdI,n2,n3,k4,push_cast,seval]
    refine ae.lentK hadv [0] rfl qsZ (by simp(disch:=try exact dI) only[n2,n3,k4,push_cast,seval]) ?_
    simp(disch:=try exact dI) only[n2,n3,k4,push_cast,seval]
    refine ae.pure hb rfl ?_
    refine zgZ ?_
    exact am [] qsZ
   by_cases n1:R.now.kind=1
   ·have k1:(R.now.kind=1)=True:=eq_true n1
    have hg:cL R.now:=.inr (.inr (.inr (.inl n1)))
    by_cases x1:R.now.text=[91]
    ·have b1:decide (R.now.text=[91])=true:=decide_eq_true x1
     have hb:=Jj (T:=T) (p:=p) (aR srt f (d+1)) s d (by omega) ihS ih (aT R) a1.1 a1.2.1 has1 hsl
     rw[fj h0 hg,show cn srt f d R=(.mk 8 0 0 [] (dp (aR srt f (d+1)) (R.s.length+2) true [] (aT R)).1 [],aq (dp (aR srt f (d+1)) (R.s.length+2) true [] (aT R)).2 [93]) by unfold cn;rw[if_neg (fun q=>n2 q.1),if_neg n2,if_neg n3,if_neg n4];exact if_pos x1]
     rw[hs]
     generalize dp (aR srt f (d+1)) (s.length+2) true [] (aT R)=q at *
     generalize aT R=L1 at *
     simp only[rdB,rdC,tkP,Un] at hadv hb ⊢
     refine aI.intro Q46.2 (by simp[Q46]) ?_
     simp(disch:=try exact dI) only[Q46,h0I,hdI,n2,n3,n4,k1,b1,push_cast,seval]
     refine ae.lentK hadv [0] rfl qsZ qsZ ?_
     simp(disch:=try exact dI) only[n2,n3,n4,k1,b1,push_cast,seval]
     refine ae.lentK hb [0] rfl qsZ qsZ ?_
     refine zgZ ?_
     exact am [] qsZ
    have b1:decide (R.now.text=[91])=false:=decide_eq_false x1
    by_cases x2:R.now.text=[123]
    ·have b2:decide (R.now.text=[123])=true:=decide_eq_true x2
     have hb:=OS (T:=T) (p:=p) (aR srt f (d+1)) s d (by omega) ihS ih (aT R) a1.1 a1.2.1 has1 hsl
     rw[fj h0 hg,show cn srt f d R=(.mk 9 0 0 [] [] (srt (jH (aR srt f (d+1)) (R.s.length+2) true [] [] (aT R)).1),aq (jH (aR srt f (d+1)) (R.s.length+2) true [] [] (aT R)).2 [125]) by unfold cn;rw[if_neg (fun q=>n2 q.1),if_neg n2,if_neg n3,if_neg n4,if_neg x1];exact if_pos x2]
     rw[hs]
     generalize jH (aR srt f (d+1)) (s.length+2) true [] [] (aT R)=q at *
     generalize aT R=L1 at *
     simp only[rdB,rdC,tkP,Un] at hadv hb ⊢
     refine aI.intro Q46.2 (by simp[Q46]) ?_
     simp(disch:=try exact dI) only[Q46,h0I,hdI,n2,n3,n4,k1,b1,b2,push_cast,seval]
     refine ae.lentK hadv [0] rfl qsZ qsZ ?_
     simp(disch:=try exact dI) only[n2,n3,n4,k1,b1,b2,push_cast,seval]
     refine ae.lentK hb [0] rfl qsZ qsZ ?_
     refine zgZ ?_
     exact am [] qsZ
    have b2:decide (R.now.text=[123])=false:=decide_eq_false x2
    have hb:=GP (T:=T) (p:=p) (aR srt f (d+1)) s d (by omega) ihS ih (aT R) R.now a1.1 a1.2.1 has1 t3
    rw[fj h0 hg,show cn srt f d R=cf (aR srt f (d+1)) (aT R) R.now d by unfold cn;rw[if_neg (fun q=>n2 q.1),if_neg n2,if_neg n3,if_neg n4,if_neg x1];exact if_neg x2]
    generalize cf (aR srt f (d+1)) (aT R) R.now d=q at *
    obtain⟨⟨w1,w2,w3,w4,w5,w6⟩,L2⟩:=q
    generalize aT R=L1 at *
    simp only[rdB,rdC,tkP,Un] at hadv hb ⊢
    refine aI.intro Q46.2 (by simp[Q46]) ?_
    simp(disch:=try exact dI) only[Q46,h0I,hdI,n2,n3,n4,k1,b1,b2,push_cast,seval]
    refine ae.lentK hadv [0] rfl qsZ qsZ ?_
    simp(disch:=try exact dI) only[n2,n3,n4,k1,b1,b2,push_cast,seval]
    refine ae.lentK hb [0] rfl qsZ qsZ ?_
    refine zgZ ?_
    exact am [] qsZ
   by_cases x1:R.now.text=[91]
   ·have b1:decide (R.now.text=[91])=true:=decide_eq_true x1
    have hg:cL R.now:=.inr (.inr (.inr (.inr (.inl x1))))
    have hb:=Jj (T:=T) (p:=p) (aR srt f (d+1)) s d (by omega) ihS ih (aT R) a1.1 a1.2.1 has1 hsl
    rw[fj h0 hg,show cn srt f d R=(.mk 8 0 0 [] (dp (aR srt f (d+1)) (R.s.length+2) true [] (aT R)).1 [],aq (dp (aR srt f (d+1)) (R.s.length+2) true [] (aT R)).2 [93]) by unfold cn;rw[if_neg (fun q=>n2 q.1),if_neg n2,if_neg n3,if_neg n4];exact if_pos x1]
    rw[hs]
    generalize dp (aR srt f (d+1)) (s.length+2) true [] (aT R)=q at *
    generalize aT R=L1 at *
    simp only[rdB,rdC,tkP,Un] at hadv hb ⊢
    refine aI.intro Q46.2 (by simp[Q46]) ?_
    simp(disch:=try exact dI) only[Q46,h0I,hdI,n2,n3,n4,n1,b1,push_cast,seval]
    refine ae.lentK hadv [0] rfl qsZ qsZ ?_
    simp(disch:=try exact dI) only[n2,n3,n4,n1,b1,push_cast,seval]
    refine ae.lentK hb [0] rfl qsZ qsZ ?_
    refine zgZ ?_
    exact am [] qsZ
   have b1:decide (R.now.text=[91])=false:=decide_eq_false x1
   by_cases x2:R.now.text=[123]
   ·have b2:decide (R.now.text=[123])=true:=decide_eq_true x2
    have hg:cL R.now:=.inr (.inr (.inr (.inr (.inr x2))))
    have hb:=OS (T:=T) (p:=p) (aR srt f (d+1)) s d (by omega) ihS ih (aT R) a1.1 a1.2.1 has1 hsl
    rw[fj h0 hg,show cn srt f d R=(.mk 9 0 0 [] [] (srt (jH (aR srt f (d+1)) (R.s.length+2) true [] [] (aT R)).1),aq (jH (aR srt f (d+1)) (R.s.length+2) true [] [] (aT R)).2 [125]) by unfold cn;rw[if_neg (fun q=>n2 q.1),if_neg n2,if_neg n3,if_neg n4,if_neg x1];exact if_pos x2]
    rw[hs]
    generalize jH (aR srt f (d+1)) (s.length+2) true [] [] (aT R)=q at *
    generalize aT R=L1 at *
    simp only[rdB,rdC,tkP,Un] at hadv hb ⊢
    refine aI.intro Q46.2 (by simp[Q46]) ?_
    simp(disch:=try exact dI) only[Q46,h0I,hdI,n2,n3,n4,n1,b1,b2,push_cast,seval]
    refine ae.lentK hadv [0] rfl qsZ qsZ ?_
    simp(disch:=try exact dI) only[n2,n3,n4,n1,b1,b2,push_cast,seval]
    refine ae.lentK hb [0] rfl qsZ qsZ ?_
    refine zgZ ?_
    exact am [] qsZ
   have b2:decide (R.now.text=[123])=false:=decide_eq_false x2
   have hg:¬ cL R.now:=by
    rintro (h | h | h | h | h | h)
    ·exact n2 h
    ·exact n3 h
    ·exact n4 h
    ·exact n1 h
    ·exact x1 h
    ·exact x2 h
   rw[fG h0 hg]
   simp only[rdB,rdC,bh,Un] at hf13 ⊢
   refine aI.intro Q46.2 (by simp[Q46]) ?_
   simp(disch:=try exact dI) only[Q46,h0I,n2,n3,n4,n1,b1,b2,push_cast,seval]
   refine ae.lentK hf13 [0] rfl qsZ qsZ ?_
   refine zgZ ?_
   exact am [] qsZ
end
def TZ:List UInt8:=[48,49,50,51,52,53,54,55,56,57,97,98,99,100,101,102]
def hxB (n:Nat):UInt8:=TZ.getD n 0
def T2 (c:UInt8):List UInt8:=(if 16<=c.toNat then [hxB (c.toNat / 16)] else [])++[hxB (c.toNat % 16)]
def Q8 (c:UInt8):List UInt8:=
 if c.toNat=34\/c.toNat=92 then [92,c] else if c.toNat=10 then [92,110] else if c.toNat=13 then [92,114] else if c.toNat=9 then [92,116]
 else if c.toNat<32\/c.toNat=127 then 92::117::123::(T2 c++[125]) else [c]
def Bz (s:List UInt8):List UInt8:=34::(s.flatMap Q8++[34])
theorem cB (a b:List UInt8):aC (a++b)=aC a++aC b:=by simp[aC]
theorem dX (a:List UInt8):(aC a).length=a.length:=by simp[aC]
theorem Sn {c:UInt8}(h:¬ (c.toNat<32\/c.toNat=127))(h0:¬ (c.toNat=34\/c.toNat=92)):Q8 c=[c]:=by
 unfold Q8;rw[if_neg h0,if_neg (by omega),if_neg (by omega),if_neg (by omega),if_neg h]
def hx2 (c:UInt8):List UInt8:=[hxB (c.toNat / 16),hxB (c.toNat % 16)]
def T3 (s:List UInt8):List UInt8:=120::34::(s.flatMap hx2++[34])
end Go.Proofs.YtamoeblcphjbaaaGreatDoor
namespace Go.Ab
open Go
theorem zO (n:Int)(h0:0<=n):∀ k:Nat,n<eR ((k:Int)+1)->∃ y:Int,1<=y/\y<=k/\eR y<=n/\n<eR (y+1)
 | 0,h=>absurd h (by rw[show eR (((0:Nat):Int)+1)=0 from rfl];omega)
 | k+1,h=>by
   by_cases hk:eR ((k:Int)+1)<=n
   ·exact⟨(k:Int)+1,by omega,by omega,hk,by simpa using h⟩
   ·obtain⟨y,a,b,c,d⟩:=zO n h0 k (by omega)
    exact⟨y,a,by omega,c,d⟩
theorem uY (y r:Int)(h0:0<=r):∀ k:Nat,r<ew y k->∃ m:Nat,1<=m/\m<=k/\ew y (m - 1)<=r/\r<ew y m
 | 0,h=>absurd h (by rw[show ew y 0=0 from rfl];omega)
 | k+1,h=>by
   by_cases hk:ew y k<=r
   ·exact⟨k+1,by omega,by omega,hk,h⟩
   ·obtain⟨m,a,b,c,d⟩:=uY y r h0 k (by omega)
    exact⟨m,a,by omega,c,d⟩
theorem Jy {n:Int}(h0:0<=n)(h1:n<=3652058):∃ y m d,DateOk y m d/\n=kz y m d:=by
 have hb:eR (((9999:Nat):Int)+1)=3652059:=by decide
 obtain⟨y,y1,y2,b1,b2⟩:=zO n h0 9999 (by rw[hb];omega)
 have hs:=o8 y
 have h12:=IQ y
 obtain⟨m,m1,m2,c1,c2⟩:=uY y (n - eR y) (by omega) 12 (by omega)
 have hm:ew y m=ew y (m - 1)+mdI y m:=by
  obtain⟨k,rfl⟩:∃ k,m=k+1:=⟨m - 1,by omega⟩
  simp[ew]
 exact⟨y,m,n - eR y - ew y (m - 1)+1,⟨y1,by simpa using y2,m1,m2,by omega,by omega⟩,by unfold kz;omega⟩
end Go.Ab
namespace Go.Proofs.YtamoeblcphjbaaaGreatDoor
open Go Go.Ab
def fT (s:List UInt8):Prop:=s.flatMap Q8=s
theorem bC {a b:List UInt8}(ha:fT a)(hb:fT b):fT (a++b):=by
 unfold fT at *;rw[List.flatMap_append,ha,hb]
theorem cz:∀ (k n:Nat),fT (bQ k n)
 | 0,_=>rfl
 | k+1,n=>by
   rw[bQ]
   refine bC (cz k _) ?_
   unfold fT
   have hc:(UInt8.ofNat (48+n % 10)).toNat=48+n % 10:=by
    rw[UInt8.toNat_ofNat'];omega
   simp only[List.flatMap_cons,List.flatMap_nil,List.append_nil]
   exact Sn (by omega) (by omega)
theorem ln (y:Int)(m:Nat)(d:Int):fT (fI y m d):=by
 unfold fI
 exact bC (bC (bC (bC (cz _ _) rfl) (cz _ _)) rfl) (cz _ _)
theorem qI (y:Int)(m:Nat)(d:Int):(fI y m d).length=10:=by
 simp[fI,bG]
theorem sF {t:List UInt8}(ht:fT t)(h mi s ms:Nat):fT (mJ t h mi s ms):=by
 unfold mJ
 refine bC (bC (bC ht ?_) ?_) rfl
 ·exact bC (bC (bC (bC (bC rfl (cz _ _)) rfl) (cz _ _)) rfl) (cz _ _)
 ·split
  ·rfl
  ·exact bC rfl (cz _ _)
theorem CF (t:List UInt8)(h mi s ms:Nat):(mJ t h mi s ms).length<=t.length+14:=by
 unfold mJ
 split<;>simp[bG]<;>omega
theorem HS {n:Int}(h0:-719162<=n)(h1:n<=2932896):∃ s,(au Tryz.prog aH 43 [.int .i64 n] (.tup [.str s,.int .i64 0])/\fT s/\s.length<=10)/\∃ y m d,DateOk y m d/\n=kz y m d - 719162/\s=fI y m d:=by
 obtain⟨y,m,d,hd,he⟩:=Jy (n:=n+719162) (by omega) (by omega)
 refine⟨fI y m d,⟨?_,ln _ _ _,by rw[qI];omega⟩,y,m,d,hd,by omega,rfl⟩
 have:=IP hd
 rw[<- he,show n+719162 - 719162=n by omega] at this
 exact this
theorem Au {n:Int}(h0:-62135596800000<=n)(h1:n<=253402300799999):∃ s,(au Tryz.prog aH 44 [.int .i64 n] (.tup [.str s,.int .i64 0])/\fT s/\s.length<=24) /\
  ∃ y m d,∃ h mi sc ms:Nat,DateOk y m d/\h<=23/\mi<=59/\sc<=59/\ms<=999/\n=(kz y m d - 719162)*86400000+(((60*(h:Int)+mi)*60+sc)*1000+ms)/\s=mJ (fI y m d) h mi sc ms:=by
 obtain⟨D,hD⟩:∃ D,D=n / 86400000:=⟨_,rfl⟩
 obtain⟨r,hr⟩:∃ r:Nat,(r:Int)=n % 86400000:=⟨(n % 86400000).toNat,by omega⟩
 obtain⟨y,m,d,hd,he⟩:=Jy (n:=D+719162) (by omega) (by omega)
 have hr1:r<86400000:=by omega
 have hn:n=(kz y m d - 719162)*86400000+((((60*((r / 3600000:Nat):Int)+((r / 60000 % 60:Nat):Int))*60+((r / 1000 % 60:Nat):Int))*1000+((r % 1000:Nat):Int))):=by
  rw[<- he];omega
 refine⟨mJ (fI y m d) (r / 3600000) (r / 60000 % 60) (r / 1000 % 60) (r % 1000),⟨?_,sF (ln _ _ _) _ _ _ _,?_⟩,y,m,d,r / 3600000,r / 60000 % 60,r / 1000 % 60,r % 1000,hd,by omega,by omega,by omega,by omega,hn,rfl⟩
 ·have:=wH hd (h:=r / 3600000) (mi:=r / 60000 % 60) (s:=r / 1000 % 60) (ms:=r % 1000) (by omega) (by omega) (by omega) (by omega)
  rw[<- hn] at this
  exact this
 ·have:=CF (fI y m d) (r / 3600000) (r / 60000 % 60) (r / 1000 % 60) (r % 1000)
  rw[qI] at this
  exact this
attribute [local irreducible] vc
noncomputable def T7 (n:Int):List UInt8:=if h:-719162<=n/\n<=2932896 then (HS h.1 h.2).choose else []
noncomputable def RA (n:Int):List UInt8:=if h:-62135596800000<=n/\n<=253402300799999 then (Au h.1 h.2).choose else []
noncomputable def Fh:Nat->Val->List UInt8
 | 0,_=>[]
 | f+1,.mk k n s t l fs=>
   if k=0 then [110,117,108,108] else if k=1 then (if n=1 then [116,114,117,101] else [102,97,108,115,101]) else if k=2 then gR n
   else if k=3 then nL n s.toNat++(if s=0 then [100] else []) else if k=4 then Bz t else if k=5 then T3 t
   else if k=6 then [100,97,116,101,32]++Bz (T7 n) else if k=7 then [116,105,109,101,32]++Bz (RA n)
   else if k=8 then [91]++iH [44,32] (l.map (Fh f))++[93]
   else if k=9 then [123]++iH [44,32] (fs.map fun x=>x.name++[58,32]++Fh f x.value)++[125]
   else t++[40]++Fh f (l.headD (.mk 0 0 0 [] [] []))++[41]
section
variable (f:Nat)(n s:Int)(t:List UInt8)(l:List Val)(fs:List Fld)
end
section
variable (f:Nat)(n s:Int)(t:List UInt8)(l:List Val)(fs:List Fld)
end
section
variable (f:Nat)(n s:Int)(t:List UInt8)(l:List Val)(fs:List Fld)
end
section
variable (f:Nat)(n s:Int)(t:List UInt8)(l:List Val)(fs:List Fld)
end
section
variable (f:Nat)(n s:Int)(t:List UInt8)(l:List Val)(fs:List Fld)
end
section
variable (f:Nat)(n s:Int)(t:List UInt8)(l:List Val)(fs:List Fld)
end
open Go.RowKit
