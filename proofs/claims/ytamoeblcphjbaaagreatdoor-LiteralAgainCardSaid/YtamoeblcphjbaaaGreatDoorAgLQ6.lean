/- A part of the proof for LiteralAgainCardSaid. -/
import Derived.Test.YtamoeblcphjbaaaGreatDoorAgLQ5
set_option maxRecDepth 100000
set_option linter.unusedVariables false
set_option linter.unusedSimpArgs false
-- many steps
namespace Go.Proofs.YtamoeblcphjbaaaGreatDoor
open Go Go.Ab
attribute [local irreducible] vc
def cU (t:Tk):Prop:=t.kind=2∨t.kind=3∨t.kind=4∨t.kind=1∨t.text=[91]∨t.text=[123]
theorem qn {so:List Fld→List Fld}{f d:Nat}{R:Rd}(h:¬ R.e=0):aI so f d R=(aP,R):=by
 cases f<;>(unfold aI;rw[if_neg h])
theorem ij {so:List Fld→List Fld}{f d:Nat}{R:Rd}(h:R.e=0)(h2:¬ cU R.now):aI so f d R=(aP,aZ R R.now.pos 13):=by
 have h3:R.now.kind≠2∧R.now.kind≠3∧R.now.kind≠4∧R.now.kind≠1∧R.now.text≠[91]∧R.now.text≠[123]:=by
  unfold cU at h2
  refine⟨fun q=>h2 (.inl q),fun q=>h2 (.inr (.inl q)),fun q=>h2 (.inr (.inr (.inl q))),fun q=>h2 (.inr (.inr (.inr (.inl q)))),fun q=>h2 (.inr (.inr (.inr (.inr (.inl q))))),fun q=>h2 (.inr (.inr (.inr (.inr (.inr q)))))⟩
 cases f<;>(unfold aI;rw[if_pos h];exact if_pos h3)
theorem tE {t:Tk}(h:cU t):¬ (t.kind≠2∧t.kind≠3∧t.kind≠4∧t.kind≠1∧t.text≠[91]∧t.text≠[123]):=by
 rintro⟨q1,q2,q3,q4,q5,q6⟩
 rcases h with h | h | h | h | h | h
 ·exact q1 h
 ·exact q2 h
 ·exact q3 h
 ·exact q4 h
 ·exact q5 h
 ·exact q6 h
theorem dE {so:List Fld→List Fld}{d:Nat}{R:Rd}(h:R.e=0)(h2:cU R.now):aI so 0 d R=(aP,aZ R R.now.pos 23):=by
 unfold aI;rw[if_pos h];exact if_neg (tE h2)
def bj (so:List Fld→List Fld)(f d:Nat)(R:Rd):Val×Rd:=
 if R.now.kind=2∧R.now.dec=true then (.mk 3 R.now.num R.now.sc [] [] [],bm R)
 else if R.now.kind=2 then (.mk 2 R.now.num 0 [] [] [],bm R)
 else if R.now.kind=3 then (.mk 4 0 0 R.now.bytes [] [],bm R)
 else if R.now.kind=4 then (.mk 5 0 0 R.now.bytes [] [],bm R)
 else if R.now.text=[91] then (.mk 8 0 0 [] (cw (aI so f (d+1)) (R.s.length+2) true [] (bm R)).1 [],aD (cw (aI so f (d+1)) (R.s.length+2) true [] (bm R)).2 [93])
 else if R.now.text=[123] then (.mk 9 0 0 [] [] (so (gC (aI so f (d+1)) (R.s.length+2) true [] [] (bm R)).1),aD (gC (aI so f (d+1)) (R.s.length+2) true [] [] (bm R)).2 [125])
 else bJ (aI so f (d+1)) (bm R) R.now d
theorem cj {so:List Fld→List Fld}{f d:Nat}{R:Rd}(h:R.e=0)(h2:cU R.now):aI so (f+1) d R=bj so f d R:=by
 rw[aI,if_pos h];exact if_neg (tE h2)
theorem LX {l:List Fld}(h:∀ x∈l,x.ok):∀ x∈srt l,x.ok:=fun x hx=>h x ((jx l).mem_iff.1 hx)
theorem pn {R:Rd}(hT:OkT R)(h0:R.e=0)(h:cU R.now):R.now.kind≠0:=by
 intro hk
 have ht:=(hT h0).2.2.2.2 hk
 rcases h with h | h | h | h | h | h
 ·rw[hk] at h;cases h
 ·rw[hk] at h;cases h
 ·rw[hk] at h;cases h
 ·rw[hk] at h;cases h
 ·rw[ht] at h;cases h
 ·rw[ht] at h;cases h
theorem nS (s:List UInt8)(hsl:s.length≤65536):∀ f d,xe (aI srt f d) s
 | 0,d=>fun R hR hT hs=>by
   by_cases h0:R.e=0
   ·by_cases hg:cU R.now
    ·rw[dE h0 hg];exact⟨dL,cb (by decide),fun h=>absurd h (aX (by decide))⟩
    ·rw[ij h0 hg];exact⟨dL,cb (by decide),fun h=>absurd h (aX (by decide))⟩
   ·rw[qn h0];exact⟨dL,.refl hR hT,fun h=>absurd h h0⟩
 | f+1,d=>fun R hR hT hs=>by
   by_cases h0:¬ R.e=0
   ·rw[qn h0];exact⟨dL,.refl hR hT,fun h=>absurd h h0⟩
   have h0:R.e=0:=Classical.not_not.1 h0
   by_cases hg:¬ cU R.now
   ·rw[ij h0 hg];exact⟨dL,cb (by decide),fun h=>absurd h (aX (by decide))⟩
   have hg:cU R.now:=Classical.not_not.1 hg
   rw[cj h0 hg]
   have ih:=nS s hsl f (d+1)
   obtain⟨a1,a2⟩:=cL hR hT
   have hk:=pn hT h0 hg
   obtain⟨t1,t2,t3,t4,_⟩:=hT h0
   have has1:=a1.2.2.1.trans hs
   have key:∀ (v:Val) (R':Rd),v.ok→fR (bm R) R'→v.ok∧fR R R'∧(R'.e=0→R.now.pos<R'.now.pos):=by
    intro v R' hv hst
    refine⟨hv,a1.trans hst,fun he=>?_⟩
    have q1:=hst.2.2.2 he
    have q2:=a2 q1.1 hk
    omega
   have hst:=fR.refl a1.1 a1.2.1
   unfold bj
   split
   ·exact key _ _ (eE (iK (by omega) (by omega)) t1 (iK (by omega) (by omega)) (by simp)) hst
   split
   ·exact key _ _ (eE (iK (by omega) (by omega)) t1 cB (by simp)) hst
   split
   ·exact key _ _ (eE (iK (by omega) (by omega)) cB cB t4) hst
   split
   ·exact key _ _ (eE (iK (by omega) (by omega)) cB cB t4) hst
   split
   ·obtain⟨k1,k2,k3⟩:=jE ih (R.s.length+2) true [] (bm R) a1.1 a1.2.1 has1 (fun x hx=>by cases hx)
    refine key _ _ ?_ (k2.trans (br k2.1 k2.2.1))
    rw[Val.ok_mk]
    rw[hs] at k3 ⊢
    simp only[List.length_nil] at k3
    rw[hs] at k1
    exact⟨iK (by omega) (by omega),cB,cB,by simp,by omega,k1,by simp,fun x hx=>by cases hx⟩
   split
   ·obtain⟨k1,k2,k3⟩:=mM ih (R.s.length+2) true [] [] (bm R) a1.1 a1.2.1 has1 (fun x hx=>by cases hx)
    refine key _ _ ?_ (k2.trans (br k2.1 k2.2.1))
    rw[Val.ok_mk]
    rw[hs] at k3 ⊢
    simp only[List.length_nil] at k3
    rw[hs] at k1
    exact⟨iK (by omega) (by omega),cB,cB,by simp,by simp,(fun x hx=>by cases hx),by rw[ip];omega,LX k1⟩
   ·have q:=G5 (d:=d) ih a1.1 a1.2.1 has1 t3
    exact key _ _ q.1 q.2
section
variable {T:Nat}{p:PV}
set_option maxHeartbeats 16000000 in
theorem LP (s:List UInt8)(hsl:s.length≤65536):∀ f d,f+d=8→Pk T p (aI srt f d) s d:=by
 intro f
 induction f with
 | zero=>
   intro d hd R hR hT hs
   obtain rfl:d=8:=by omega
   have hf13:=cW (T:=T) (p:=p) R R.now.pos 13
   have hf23:=cW (T:=T) (p:=p) R R.now.pos 23
   by_cases h0:¬ R.e=0
   ·rw[qn h0]
    simp only[rdB,rdC,aP,Val.pv_mk]
    refine aQ.intro cp (by simp[F46]) ?_
    simp(disch:=try exact dI) only[F46,h0,push_cast,seval]
    exact ap [] qsZ
   have h0:R.e=0:=Classical.not_not.1 h0
   have h0I:(R.e=0)=True:=eq_true h0
   by_cases n2:R.now.kind=2
   ·have k2:(R.now.kind=2)=True:=eq_true n2
    have hg:cU R.now:=.inl n2
    rw[dE h0 hg]
    simp only[rdB,rdC,aP,Val.pv_mk] at hf23 ⊢
    refine aQ.intro cp (by simp[F46]) ?_
    simp(disch:=try exact dI) only[F46,h0I,k2,push_cast,seval]
    refine ab.lentK hf23 [0] rfl qsZ qsZ ?_
    simp(disch:=try exact dI) only[push_cast,seval]
    exact ap [] qsZ
   by_cases n3:R.now.kind=3
   ·have k3:(R.now.kind=3)=True:=eq_true n3
    have hg:cU R.now:=.inr (.inl n3)
    rw[dE h0 hg]
    simp only[rdB,rdC,aP,Val.pv_mk] at hf23 ⊢
    refine aQ.intro cp (by simp[F46]) ?_
    simp(disch:=try exact dI) only[F46,h0I,n2,k3,push_cast,seval]
    refine ab.lentK hf23 [0] rfl qsZ qsZ ?_
    simp(disch:=try exact dI) only[push_cast,seval]
    exact ap [] qsZ
   by_cases n4:R.now.kind=4
   ·have k4:(R.now.kind=4)=True:=eq_true n4
    have hg:cU R.now:=.inr (.inr (.inl n4))
    rw[dE h0 hg]
    simp only[rdB,rdC,aP,Val.pv_mk] at hf23 ⊢
    refine aQ.intro cp (by simp[F46]) ?_
    simp(disch:=try exact dI) only[F46,h0I,n2,n3,k4,push_cast,seval]
    refine ab.lentK hf23 [0] rfl qsZ qsZ ?_
    simp(disch:=try exact dI) only[push_cast,seval]
    exact ap [] qsZ
   by_cases n1:R.now.kind=1
   ·have k1:(R.now.kind=1)=True:=eq_true n1
    have hg:cU R.now:=.inr (.inr (.inr (.inl n1)))
    rw[dE h0 hg]
    simp only[rdB,rdC,aP,Val.pv_mk] at hf23 ⊢
    refine aQ.intro cp (by simp[F46]) ?_
    simp(disch:=try exact dI) only[F46,h0I,n2,n3,n4,k1,push_cast,seval]
    refine ab.lentK hf23 [0] rfl qsZ qsZ ?_
    simp(disch:=try exact dI) only[push_cast,seval]
    exact ap [] qsZ
   by_cases x1:R.now.text=[91]
   ·have b1:decide (R.now.text=[91])=true:=decide_eq_true x1
    have hg:cU R.now:=.inr (.inr (.inr (.inr (.inl x1))))
    rw[dE h0 hg]
    simp only[rdB,rdC,aP,Val.pv_mk] at hf23 ⊢
    refine aQ.intro cp (by simp[F46]) ?_
    simp(disch:=try exact dI) only[F46,h0I,n2,n3,n4,n1,b1,push_cast,seval]
    refine ab.lentK hf23 [0] rfl qsZ qsZ ?_
    simp(disch:=try exact dI) only[push_cast,seval]
    exact ap [] qsZ
   have b1:decide (R.now.text=[91])=false:=decide_eq_false x1
   by_cases x2:R.now.text=[123]
   ·have b2:decide (R.now.text=[123])=true:=decide_eq_true x2
    have hg:cU R.now:=.inr (.inr (.inr (.inr (.inr x2))))
    rw[dE h0 hg]
    simp only[rdB,rdC,aP,Val.pv_mk] at hf23 ⊢
    refine aQ.intro cp (by simp[F46]) ?_
    simp(disch:=try exact dI) only[F46,h0I,n2,n3,n4,n1,b1,b2,push_cast,seval]
    refine ab.lentK hf23 [0] rfl qsZ qsZ ?_
    simp(disch:=try exact dI) only[push_cast,seval]
    exact ap [] qsZ
   have b2:decide (R.now.text=[123])=false:=decide_eq_false x2
   have hg:¬ cU R.now:=by
    rintro (h | h | h | h | h | h)
    ·exact n2 h
    ·exact n3 h
    ·exact n4 h
    ·exact n1 h
    ·exact x1 h
    ·exact x2 h
   rw[ij h0 hg]
   simp only[rdB,rdC,aP,Val.pv_mk] at hf13 ⊢
   refine aQ.intro cp (by simp[F46]) ?_
   simp(disch:=try exact dI) only[F46,h0I,n2,n3,n4,n1,b1,b2,push_cast,seval]
   refine ab.lentK hf13 [0] rfl qsZ qsZ ?_
   simp(disch:=try exact dI) only[push_cast,seval]
   exact ap [] qsZ
 | succ f ih=>
   intro d hd R hR hT hs
   have ih:=ih (d+1) (by omega)
   have ihS:=nS s hsl f (d+1)
   have hf13:=cW (T:=T) (p:=p) R R.now.pos 13
   have hdI:¬ (8:Int)≤(d:Int):=by omega
   by_cases h0:¬ R.e=0
   ·rw[qn h0]
    simp only[rdB,rdC,aP,Val.pv_mk]
    refine aQ.intro cp (by simp[F46]) ?_
    simp(disch:=try exact dI) only[F46,h0,push_cast,seval]
    exact ap [] qsZ
   have h0:R.e=0:=Classical.not_not.1 h0
   have h0I:(R.e=0)=True:=eq_true h0
   obtain⟨t1,t2,t3,t4,_⟩:=hT h0
   have hadv:=en (T:=T) (p:=p) R hR
   obtain⟨a1,a2⟩:=cL hR hT
   have has1:=a1.2.2.1.trans hs
   by_cases n2:R.now.kind=2
   ·have k2:(R.now.kind=2)=True:=eq_true n2
    have hg:cU R.now:=.inl n2
    cases hdc:R.now.dec with
    | true=>
      have hb:=toE (T:=T) (p:=p) (Qx R.now.num R.now.sc)
      rw[cj h0 hg,show bj srt f d R=(.mk 3 R.now.num R.now.sc [] [] [],bm R) by unfold bj;exact if_pos ⟨n2,hdc⟩]
      generalize bm R=L1 at *
      simp only[rdB,rdC,tkP,Val.pv_mk] at hadv hb ⊢
      refine aQ.intro cp (by simp[F46]) ?_
      simp(disch:=try exact dI) only[F46,h0I,hdI,k2,hdc,push_cast,seval]
      refine ab.lentK hadv [0] rfl qsZ (by simp(disch:=try exact dI) only[k2,hdc,push_cast,seval]) ?_
      simp(disch:=try exact dI) only[k2,hdc,push_cast,seval]
      refine ab.pure hb rfl ?_
      simp(disch:=try exact dI) only[push_cast,seval]
      exact ap [] qsZ
    | false=>
      have hb:=toE (T:=T) (p:=p) (Qb R.now.num)
      rw[cj h0 hg,show bj srt f d R=(.mk 2 R.now.num 0 [] [] [],bm R) by unfold bj;rw[if_neg (fun q=>by rw[hdc] at q;cases q.2)];exact if_pos n2]
      generalize bm R=L1 at *
      simp only[rdB,rdC,tkP,Val.pv_mk] at hadv hb ⊢
      refine aQ.intro cp (by simp[F46]) ?_
      simp(disch:=try exact dI) only[F46,h0I,hdI,k2,hdc,push_cast,seval]
      refine ab.lentK hadv [0] rfl qsZ (by simp(disch:=try exact dI) only[k2,hdc,push_cast,seval]) ?_
      simp(disch:=try exact dI) only[k2,hdc,push_cast,seval]
      refine ab.pure hb rfl ?_
      simp(disch:=try exact dI) only[push_cast,seval]
      exact ap [] qsZ
   by_cases n3:R.now.kind=3
   ·have k3:(R.now.kind=3)=True:=eq_true n3
    have hg:cU R.now:=.inr (.inl n3)
    have hb:=toE (T:=T) (p:=p) (LR R.now.bytes)
    rw[cj h0 hg,show bj srt f d R=(.mk 4 0 0 R.now.bytes [] [],bm R) by unfold bj;rw[if_neg (fun q=>n2 q.1),if_neg n2];exact if_pos n3]
    generalize bm R=L1 at *
    simp only[rdB,rdC,tkP,Val.pv_mk] at hadv hb ⊢
    refine aQ.intro cp (by simp[F46]) ?_
    simp(disch:=try exact dI) only[F46,h0I,hdI,n2,k3,push_cast,seval]
    refine ab.lentK hadv [0] rfl qsZ (by simp(disch:=try exact dI) only[n2,k3,push_cast,seval]) ?_
    simp(disch:=try exact dI) only[n2,k3,push_cast,seval]
    refine ab.pure hb rfl ?_
    simp(disch:=try exact dI) only[push_cast,seval]
    exact ap [] qsZ
   by_cases n4:R.now.kind=4
   ·have k4:(R.now.kind=4)=True:=eq_true n4
    have hg:cU R.now:=.inr (.inr (.inl n4))
    have hb:=toE (T:=T) (p:=p) (QG R.now.bytes)
    rw[cj h0 hg,show bj srt f d R=(.mk 5 0 0 R.now.bytes [] [],bm R) by unfold bj;rw[if_neg (fun q=>n2 q.1),if_neg n2,if_neg n3];exact if_pos n4]
    generalize bm R=L1 at *
    simp only[rdB,rdC,tkP,Val.pv_mk] at hadv hb ⊢
    refine aQ.intro cp (by simp[F46]) ?_
    simp(disch:=try exact dI) only[F46,h0I,hdI,n2,n3,k4,push_cast,seval]
    refine ab.lentK hadv [0] rfl qsZ (by simp(disch:=try exact dI) only[n2,n3,k4,push_cast,seval]) ?_
    simp(disch:=try exact dI) only[n2,n3,k4,push_cast,seval]
    refine ab.pure hb rfl ?_
    simp(disch:=try exact dI) only[push_cast,seval]
    exact ap [] qsZ
   by_cases n1:R.now.kind=1
   ·have k1:(R.now.kind=1)=True:=eq_true n1
    have hg:cU R.now:=.inr (.inr (.inr (.inl n1)))
    by_cases x1:R.now.text=[91]
    ·have b1:decide (R.now.text=[91])=true:=decide_eq_true x1
     have hb:=Hb (T:=T) (p:=p) (aI srt f (d+1)) s d (by omega) ihS ih (bm R) a1.1 a1.2.1 has1 hsl
     rw[cj h0 hg,show bj srt f d R=(.mk 8 0 0 [] (cw (aI srt f (d+1)) (R.s.length+2) true [] (bm R)).1 [],aD (cw (aI srt f (d+1)) (R.s.length+2) true [] (bm R)).2 [93]) by unfold bj;rw[if_neg (fun q=>n2 q.1),if_neg n2,if_neg n3,if_neg n4];exact if_pos x1]
     rw[hs]
     generalize cw (aI srt f (d+1)) (s.length+2) true [] (bm R)=q at *
     generalize bm R=L1 at *
     simp only[rdB,rdC,tkP,Val.pv_mk] at hadv hb ⊢
     refine aQ.intro cp (by simp[F46]) ?_
     simp(disch:=try exact dI) only[F46,h0I,hdI,n2,n3,n4,k1,b1,push_cast,seval]
     refine ab.lentK hadv [0] rfl qsZ qsZ ?_
     simp(disch:=try exact dI) only[n2,n3,n4,k1,b1,push_cast,seval]
     refine ab.lentK hb [0] rfl qsZ qsZ ?_
     simp(disch:=try exact dI) only[push_cast,seval]
     exact ap [] qsZ
    have b1:decide (R.now.text=[91])=false:=decide_eq_false x1
    by_cases x2:R.now.text=[123]
    ·have b2:decide (R.now.text=[123])=true:=decide_eq_true x2
     have hb:=MA (T:=T) (p:=p) (aI srt f (d+1)) s d (by omega) ihS ih (bm R) a1.1 a1.2.1 has1 hsl
     rw[cj h0 hg,show bj srt f d R=(.mk 9 0 0 [] [] (srt (gC (aI srt f (d+1)) (R.s.length+2) true [] [] (bm R)).1),aD (gC (aI srt f (d+1)) (R.s.length+2) true [] [] (bm R)).2 [125]) by unfold bj;rw[if_neg (fun q=>n2 q.1),if_neg n2,if_neg n3,if_neg n4,if_neg x1];exact if_pos x2]
     rw[hs]
     generalize gC (aI srt f (d+1)) (s.length+2) true [] [] (bm R)=q at *
     generalize bm R=L1 at *
     simp only[rdB,rdC,tkP,Val.pv_mk] at hadv hb ⊢
     refine aQ.intro cp (by simp[F46]) ?_
     simp(disch:=try exact dI) only[F46,h0I,hdI,n2,n3,n4,k1,b1,b2,push_cast,seval]
     refine ab.lentK hadv [0] rfl qsZ qsZ ?_
     simp(disch:=try exact dI) only[n2,n3,n4,k1,b1,b2,push_cast,seval]
     refine ab.lentK hb [0] rfl qsZ qsZ ?_
     simp(disch:=try exact dI) only[push_cast,seval]
     exact ap [] qsZ
    have b2:decide (R.now.text=[123])=false:=decide_eq_false x2
    have hb:=Ff (T:=T) (p:=p) (aI srt f (d+1)) s d (by omega) ihS ih (bm R) R.now a1.1 a1.2.1 has1 t3
    rw[cj h0 hg,show bj srt f d R=bJ (aI srt f (d+1)) (bm R) R.now d by unfold bj;rw[if_neg (fun q=>n2 q.1),if_neg n2,if_neg n3,if_neg n4,if_neg x1];exact if_neg x2]
    generalize bJ (aI srt f (d+1)) (bm R) R.now d=q at *
    obtain⟨⟨w1,w2,w3,w4,w5,w6⟩,L2⟩:=q
    generalize bm R=L1 at *
    simp only[rdB,rdC,tkP,Val.pv_mk] at hadv hb ⊢
    refine aQ.intro cp (by simp[F46]) ?_
    simp(disch:=try exact dI) only[F46,h0I,hdI,n2,n3,n4,k1,b1,b2,push_cast,seval]
    refine ab.lentK hadv [0] rfl qsZ qsZ ?_
    simp(disch:=try exact dI) only[n2,n3,n4,k1,b1,b2,push_cast,seval]
    refine ab.lentK hb [0] rfl qsZ qsZ ?_
    simp(disch:=try exact dI) only[push_cast,seval]
    exact ap [] qsZ
   by_cases x1:R.now.text=[91]
   ·have b1:decide (R.now.text=[91])=true:=decide_eq_true x1
    have hg:cU R.now:=.inr (.inr (.inr (.inr (.inl x1))))
    have hb:=Hb (T:=T) (p:=p) (aI srt f (d+1)) s d (by omega) ihS ih (bm R) a1.1 a1.2.1 has1 hsl
    rw[cj h0 hg,show bj srt f d R=(.mk 8 0 0 [] (cw (aI srt f (d+1)) (R.s.length+2) true [] (bm R)).1 [],aD (cw (aI srt f (d+1)) (R.s.length+2) true [] (bm R)).2 [93]) by unfold bj;rw[if_neg (fun q=>n2 q.1),if_neg n2,if_neg n3,if_neg n4];exact if_pos x1]
    rw[hs]
    generalize cw (aI srt f (d+1)) (s.length+2) true [] (bm R)=q at *
    generalize bm R=L1 at *
    simp only[rdB,rdC,tkP,Val.pv_mk] at hadv hb ⊢
    refine aQ.intro cp (by simp[F46]) ?_
    simp(disch:=try exact dI) only[F46,h0I,hdI,n2,n3,n4,n1,b1,push_cast,seval]
    refine ab.lentK hadv [0] rfl qsZ qsZ ?_
    simp(disch:=try exact dI) only[n2,n3,n4,n1,b1,push_cast,seval]
    refine ab.lentK hb [0] rfl qsZ qsZ ?_
    simp(disch:=try exact dI) only[push_cast,seval]
    exact ap [] qsZ
   have b1:decide (R.now.text=[91])=false:=decide_eq_false x1
   by_cases x2:R.now.text=[123]
   ·have b2:decide (R.now.text=[123])=true:=decide_eq_true x2
    have hg:cU R.now:=.inr (.inr (.inr (.inr (.inr x2))))
    have hb:=MA (T:=T) (p:=p) (aI srt f (d+1)) s d (by omega) ihS ih (bm R) a1.1 a1.2.1 has1 hsl
    rw[cj h0 hg,show bj srt f d R=(.mk 9 0 0 [] [] (srt (gC (aI srt f (d+1)) (R.s.length+2) true [] [] (bm R)).1),aD (gC (aI srt f (d+1)) (R.s.length+2) true [] [] (bm R)).2 [125]) by unfold bj;rw[if_neg (fun q=>n2 q.1),if_neg n2,if_neg n3,if_neg n4,if_neg x1];exact if_pos x2]
    rw[hs]
    generalize gC (aI srt f (d+1)) (s.length+2) true [] [] (bm R)=q at *
    generalize bm R=L1 at *
    simp only[rdB,rdC,tkP,Val.pv_mk] at hadv hb ⊢
    refine aQ.intro cp (by simp[F46]) ?_
    simp(disch:=try exact dI) only[F46,h0I,hdI,n2,n3,n4,n1,b1,b2,push_cast,seval]
    refine ab.lentK hadv [0] rfl qsZ qsZ ?_
    simp(disch:=try exact dI) only[n2,n3,n4,n1,b1,b2,push_cast,seval]
    refine ab.lentK hb [0] rfl qsZ qsZ ?_
    simp(disch:=try exact dI) only[push_cast,seval]
    exact ap [] qsZ
   have b2:decide (R.now.text=[123])=false:=decide_eq_false x2
   have hg:¬ cU R.now:=by
    rintro (h | h | h | h | h | h)
    ·exact n2 h
    ·exact n3 h
    ·exact n4 h
    ·exact n1 h
    ·exact x1 h
    ·exact x2 h
   rw[ij h0 hg]
   simp only[rdB,rdC,aP,Val.pv_mk] at hf13 ⊢
   refine aQ.intro cp (by simp[F46]) ?_
   simp(disch:=try exact dI) only[F46,h0I,n2,n3,n4,n1,b1,b2,push_cast,seval]
   refine ab.lentK hf13 [0] rfl qsZ qsZ ?_
   simp(disch:=try exact dI) only[push_cast,seval]
   exact ap [] qsZ
end
end Go.Proofs.YtamoeblcphjbaaaGreatDoor
