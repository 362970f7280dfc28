/- A part of the proof. -/
import Derived.Test.YtamoeblcphjbaaaGreatDoorPaLQ5
set_option maxHeartbeats 16000000
set_option maxRecDepth 100000
set_option linter.unusedVariables false
set_option linter.unusedSimpArgs false
-- many steps
namespace Go.Proofs.YtamoeblcphjbaaaGreatDoor
open Go Go.Ab
attribute [local irreducible] vc
def cn (t:Tk):Prop:=t.kind=2∨t.kind=3∨t.kind=4∨t.kind=1∨t.text=[91]∨t.text=[123]
theorem oc {so:List Fld→List Fld}{f d:Nat}{R:Rd}(h:¬ R.e=0):aG so f d R=(aH,R):=by
 cases f<;>(unfold aG;rw[if_neg h])
theorem f8 {so:List Fld→List Fld}{f d:Nat}{R:Rd}(h:R.e=0)(h2:¬ cn R.now):aG so f d R=(aH,aI R R.now.pos 13):=by
 have h3:R.now.kind≠2∧R.now.kind≠3∧R.now.kind≠4∧R.now.kind≠1∧R.now.text≠[91]∧R.now.text≠[123]:=by
  unfold cn at h2
  refine⟨fun q=>h2 (.inl q),fun q=>h2 (.inr (.inl q)),fun q=>h2 (.inr (.inr (.inl q))),fun q=>h2 (.inr (.inr (.inr (.inl q)))),fun q=>h2 (.inr (.inr (.inr (.inr (.inl q))))),fun q=>h2 (.inr (.inr (.inr (.inr (.inr q)))))⟩
 cases f<;>(unfold aG;rw[if_pos h];exact if_pos h3)
theorem ul {t:Tk}(h:cn t):¬ (t.kind≠2∧t.kind≠3∧t.kind≠4∧t.kind≠1∧t.text≠[91]∧t.text≠[123]):=by
 rintro⟨q1,q2,q3,q4,q5,q6⟩
 rcases h with h | h | h | h | h | h
 ·exact q1 h
 ·exact q2 h
 ·exact q3 h
 ·exact q4 h
 ·exact q5 h
 ·exact q6 h
theorem dc {so:List Fld→List Fld}{d:Nat}{R:Rd}(h:R.e=0)(h2:cn R.now):aG so 0 d R=(aH,aI R R.now.pos 23):=by
 unfold aG;rw[if_pos h];exact if_neg (ul h2)
def bc (so:List Fld→List Fld)(f d:Nat)(R:Rd):Val×Rd:=
 if R.now.kind=2∧R.now.dec=true then (.mk 3 R.now.num R.now.sc [] [] [],aY R)
 else if R.now.kind=2 then (.mk 2 R.now.num 0 [] [] [],aY R)
 else if R.now.kind=3 then (.mk 4 0 0 R.now.bytes [] [],aY R)
 else if R.now.kind=4 then (.mk 5 0 0 R.now.bytes [] [],aY R)
 else if R.now.text=[91] then (.mk 8 0 0 [] (cJ (aG so f (d+1)) (R.s.length+2) true [] (aY R)).1 [],aq (cJ (aG so f (d+1)) (R.s.length+2) true [] (aY R)).2 [93])
 else if R.now.text=[123] then (.mk 9 0 0 [] [] (so (iZ (aG so f (d+1)) (R.s.length+2) true [] [] (aY R)).1),aq (iZ (aG so f (d+1)) (R.s.length+2) true [] [] (aY R)).2 [125])
 else bu (aG so f (d+1)) (aY R) R.now d
theorem eO {so:List Fld→List Fld}{f d:Nat}{R:Rd}(h:R.e=0)(h2:cn R.now):aG so (f+1) d R=bc so f d R:=by
 rw[aG,if_pos h];exact if_neg (ul h2)
theorem MR {l:List Fld}(h:∀ x∈l,x.ok):∀ x∈srt l,x.ok:=fun x hx=>h x ((ta l).mem_iff.1 hx)
theorem By {R:Rd}(hT:OkT R)(h0:R.e=0)(h:cn R.now):R.now.kind≠0:=by
 intro hk
 have ht:=(hT h0).2.2.2.2 hk
 rcases h with h | h | h | h | h | h
 ·rw[hk] at h;cases h
 ·rw[hk] at h;cases h
 ·rw[hk] at h;cases h
 ·rw[hk] at h;cases h
 ·rw[ht] at h;cases h
 ·rw[ht] at h;cases h
theorem ob (s:List UInt8)(hsl:s.length≤65536):∀ f d,xB (aG srt f d) s
 | 0,d=>fun R hR hT hs=>by
   by_cases h0:R.e=0
   ·by_cases hg:cn R.now
    ·rw[dc h0 hg];exact⟨cU,bY (by decide),fun h=>absurd h (aZ (by decide))⟩
    ·rw[f8 h0 hg];exact⟨cU,bY (by decide),fun h=>absurd h (aZ (by decide))⟩
   ·rw[oc h0];exact⟨cU,.refl hR hT,fun h=>absurd h h0⟩
 | f+1,d=>fun R hR hT hs=>by
   by_cases h0:¬ R.e=0
   ·rw[oc h0];exact⟨cU,.refl hR hT,fun h=>absurd h h0⟩
   have h0:R.e=0:=Classical.not_not.1 h0
   by_cases hg:¬ cn R.now
   ·rw[f8 h0 hg];exact⟨cU,bY (by decide),fun h=>absurd h (aZ (by decide))⟩
   have hg:cn R.now:=Classical.not_not.1 hg
   rw[eO h0 hg]
   have ih:=ob s hsl f (d+1)
   obtain⟨a1,a2⟩:=df hR hT
   have hk:=By hT h0 hg
   obtain⟨t1,t2,t3,t4,_⟩:=hT h0
   have has1:=a1.2.2.1.trans hs
   have key:∀ (v:Val) (R':Rd),v.ok→fO (aY R) R'→v.ok∧fO R R'∧(R'.e=0→R.now.pos<R'.now.pos):=by
    intro v R' hv hst
    refine⟨hv,a1.trans hst,fun he=>?_⟩
    have q1:=hst.2.2.2 he
    have q2:=a2 q1.1 hk
    omega
   have hst:=fO.refl a1.1 a1.2.1
   unfold bc
   split
   ·exact key _ _ (eD (iN (by omega) (by omega)) t1 (iN (by omega) (by omega)) (by simp)) hst
   split
   ·exact key _ _ (eD (iN (by omega) (by omega)) t1 cD (by simp)) hst
   split
   ·exact key _ _ (eD (iN (by omega) (by omega)) cD cD t4) hst
   split
   ·exact key _ _ (eD (iN (by omega) (by omega)) cD cD t4) hst
   split
   ·obtain⟨k1,k2,k3⟩:=tY ih (R.s.length+2) true [] (aY R) a1.1 a1.2.1 has1 (fun x hx=>by cases hx)
    refine key _ _ ?_ (k2.trans (bN k2.1 k2.2.1))
    rw[Val.ok_mk]
    rw[hs] at k3 ⊢
    simp only[List.length_nil] at k3
    rw[hs] at k1
    exact⟨iN (by omega) (by omega),cD,cD,by simp,by omega,k1,by simp,fun x hx=>by cases hx⟩
   split
   ·obtain⟨k1,k2,k3⟩:=y9 ih (R.s.length+2) true [] [] (aY R) a1.1 a1.2.1 has1 (fun x hx=>by cases hx)
    refine key _ _ ?_ (k2.trans (bN k2.1 k2.2.1))
    rw[Val.ok_mk]
    rw[hs] at k3 ⊢
    simp only[List.length_nil] at k3
    rw[hs] at k1
    exact⟨iN (by omega) (by omega),cD,cD,by simp,by simp,(fun x hx=>by cases hx),by rw[iw];omega,MR k1⟩
   ·have q:=NM (d:=d) ih a1.1 a1.2.1 has1 t3
    exact key _ _ q.1 q.2
section
variable {T:Nat}{p:PV}
theorem Mw (s:List UInt8)(hsl:s.length≤65536):∀ f d,f+d=8→Qm T p (aG srt f d) s d:=by
 intro f
 induction f with
 | zero=>
   intro d hd R hR hT hs
   obtain rfl:d=8:=by omega
   have hf13:=cR (T:=T) (p:=p) R R.now.pos 13
   have hf23:=cR (T:=T) (p:=p) R R.now.pos 23
   by_cases h0:¬ R.e=0
   ·rw[oc h0]
    simp only[rdB,rdC,aH,Val.pv_mk]
    refine aF.intro cm (by simp[F46]) ?_
    simp(disch:=try exact dI) only[F46,h0,push_cast,seval]
    exact am [] qsZ
   have h0:R.e=0:=Classical.not_not.1 h0
   have h0I:(R.e=0)=True:=eq_true h0
   by_cases n2:R.now.kind=2
   ·have k2:(R.now.kind=2)=True:=eq_true n2
    have hg:cn R.now:=.inl n2
    rw[dc h0 hg]
    simp only[rdB,rdC,aH,Val.pv_mk] at hf23 ⊢
    refine aF.intro cm (by simp[F46]) ?_
    simp(disch:=try exact dI) only[F46,h0I,k2,push_cast,seval]
    refine ab.lentK hf23 [0] rfl qsZ qsZ ?_
    refine zgZ ?_
    exact am [] qsZ
   by_cases n3:R.now.kind=3
   ·have k3:(R.now.kind=3)=True:=eq_true n3
    have hg:cn R.now:=.inr (.inl n3)
    rw[dc h0 hg]
    simp only[rdB,rdC,aH,Val.pv_mk] at hf23 ⊢
    refine aF.intro cm (by simp[F46]) ?_
    simp(disch:=try exact dI) only[F46,h0I,n2,k3,push_cast,seval]
    refine ab.lentK hf23 [0] rfl qsZ qsZ ?_
    refine zgZ ?_
    exact am [] qsZ
   by_cases n4:R.now.kind=4
   ·have k4:(R.now.kind=4)=True:=eq_true n4
    have hg:cn R.now:=.inr (.inr (.inl n4))
    rw[dc h0 hg]
    simp only[rdB,rdC,aH,Val.pv_mk] at hf23 ⊢
    refine aF.intro cm (by simp[F46]) ?_
    simp(disch:=try exact dI) only[F46,h0I,n2,n3,k4,push_cast,seval]
    refine ab.lentK hf23 [0] rfl qsZ qsZ ?_
    refine zgZ ?_
    exact am [] qsZ
   by_cases n1:R.now.kind=1
   ·have k1:(R.now.kind=1)=True:=eq_true n1
    have hg:cn R.now:=.inr (.inr (.inr (.inl n1)))
    rw[dc h0 hg]
    simp only[rdB,rdC,aH,Val.pv_mk] at hf23 ⊢
    refine aF.intro cm (by simp[F46]) ?_
    simp(disch:=try exact dI) only[F46,h0I,n2,n3,n4,k1,push_cast,seval]
    refine ab.lentK hf23 [0] rfl qsZ qsZ ?_
    refine zgZ ?_
    exact am [] qsZ
   by_cases x1:R.now.text=[91]
   ·have b1:decide (R.now.text=[91])=true:=decide_eq_true x1
    have hg:cn R.now:=.inr (.inr (.inr (.inr (.inl x1))))
    rw[dc h0 hg]
    simp only[rdB,rdC,aH,Val.pv_mk] at hf23 ⊢
    refine aF.intro cm (by simp[F46]) ?_
    simp(disch:=try exact dI) only[F46,h0I,n2,n3,n4,n1,b1,push_cast,seval]
    refine ab.lentK hf23 [0] rfl qsZ qsZ ?_
    refine zgZ ?_
    exact am [] qsZ
   have b1:decide (R.now.text=[91])=false:=decide_eq_false x1
   by_cases x2:R.now.text=[123]
   ·have b2:decide (R.now.text=[123])=true:=decide_eq_true x2
    have hg:cn R.now:=.inr (.inr (.inr (.inr (.inr x2))))
    rw[dc h0 hg]
    simp only[rdB,rdC,aH,Val.pv_mk] at hf23 ⊢
    refine aF.intro cm (by simp[F46]) ?_
    simp(disch:=try exact dI) only[F46,h0I,n2,n3,n4,n1,b1,b2,push_cast,seval]
    refine ab.lentK hf23 [0] rfl qsZ qsZ ?_
    refine zgZ ?_
    exact am [] qsZ
   have b2:decide (R.now.text=[123])=false:=decide_eq_false x2
   have hg:¬ cn R.now:=by
    rintro (h | h | h | h | h | h)
    ·exact n2 h
    ·exact n3 h
    ·exact n4 h
    ·exact n1 h
    ·exact x1 h
    ·exact x2 h
   rw[f8 h0 hg]
   simp only[rdB,rdC,aH,Val.pv_mk] at hf13 ⊢
   refine aF.intro cm (by simp[F46]) ?_
   simp(disch:=try exact dI) only[F46,h0I,n2,n3,n4,n1,b1,b2,push_cast,seval]
   refine ab.lentK hf13 [0] rfl qsZ qsZ ?_
   refine zgZ ?_
   exact am [] qsZ
 | succ f ih=>
   intro d hd R hR hT hs
   have ih:=ih (d+1) (by omega)
   have ihS:=ob s hsl f (d+1)
   have hf13:=cR (T:=T) (p:=p) R R.now.pos 13
   have hdI:¬ (8:Int)≤(d:Int):=by omega
   by_cases h0:¬ R.e=0
   ·rw[oc h0]
    simp only[rdB,rdC,aH,Val.pv_mk]
    refine aF.intro cm (by simp[F46]) ?_
    simp(disch:=try exact dI) only[F46,h0,push_cast,seval]
    exact am [] qsZ
   have h0:R.e=0:=Classical.not_not.1 h0
   have h0I:(R.e=0)=True:=eq_true h0
   obtain⟨t1,t2,t3,t4,_⟩:=hT h0
   have hadv:=ep (T:=T) (p:=p) R hR
   obtain⟨a1,a2⟩:=df hR hT
   have has1:=a1.2.2.1.trans hs
   by_cases n2:R.now.kind=2
   ·have k2:(R.now.kind=2)=True:=eq_true n2
    have hg:cn R.now:=.inl n2
    cases hdc:R.now.dec with
    | true=>
      have hb:=toE (T:=T) (p:=p) (RC R.now.num R.now.sc)
      rw[eO h0 hg,show bc srt f d R=(.mk 3 R.now.num R.now.sc [] [] [],aY R) by unfold bc;exact if_pos ⟨n2,hdc⟩]
      generalize aY R=L1 at *
      simp only[rdB,rdC,tkP,Val.pv_mk] at hadv hb ⊢
      refine aF.intro cm (by simp[F46]) ?_
      simp(disch:=try exact dI) only[F46,h0I,hdI,k2,hdc,push_cast,seval]
      refine ab.lentK hadv [0] rfl qsZ (by simp(disch:=try exact dI) only[k2,hdc,push_cast,seval]) ?_
      simp(disch:=try exact dI) only[k2,hdc,push_cast,seval]
      refine ab.pure hb rfl ?_
      refine zgZ ?_
      exact am [] qsZ
    | false=>
      have hb:=toE (T:=T) (p:=p) (Re R.now.num)
      rw[eO h0 hg,show bc srt f d R=(.mk 2 R.now.num 0 [] [] [],aY R) by unfold bc;rw[if_neg (fun q=>by rw[hdc] at q;cases q.2)];exact if_pos n2]
      generalize aY R=L1 at *
      simp only[rdB,rdC,tkP,Val.pv_mk] at hadv hb ⊢
      refine aF.intro cm (by simp[F46]) ?_
      simp(disch:=try exact dI) only[F46,h0I,hdI,k2,hdc,push_cast,seval]
      refine ab.lentK hadv [0] rfl qsZ (by simp(disch:=try exact dI) only[k2,hdc,push_cast,seval]) ?_
      simp(disch:=try exact dI) only[k2,hdc,push_cast,seval]
      refine ab.pure hb rfl ?_
      refine zgZ ?_
      exact am [] qsZ
   by_cases n3:R.now.kind=3
   ·have k3:(R.now.kind=3)=True:=eq_true n3
    have hg:cn R.now:=.inr (.inl n3)
    have hb:=toE (T:=T) (p:=p) (MG R.now.bytes)
    rw[eO h0 hg,show bc srt f d R=(.mk 4 0 0 R.now.bytes [] [],aY R) by unfold bc;rw[if_neg (fun q=>n2 q.1),if_neg n2];exact if_pos n3]
    generalize aY R=L1 at *
    simp only[rdB,rdC,tkP,Val.pv_mk] at hadv hb ⊢
    refine aF.intro cm (by simp[F46]) ?_
    simp(disch:=try exact dI) only[F46,h0I,hdI,n2,k3,push_cast,seval]
    refine ab.lentK hadv [0] rfl qsZ (by simp(disch:=try exact dI) only[n2,k3,push_cast,seval]) ?_
    simp(disch:=try exact dI) only[n2,k3,push_cast,seval]
    refine ab.pure hb rfl ?_
    refine zgZ ?_
    exact am [] qsZ
   by_cases n4:R.now.kind=4
   ·have k4:(R.now.kind=4)=True:=eq_true n4
    have hg:cn R.now:=.inr (.inr (.inl n4))
    have hb:=toE (T:=T) (p:=p) (RM R.now.bytes)
    rw[eO h0 hg,show bc srt f d R=(.mk 5 0 0 R.now.bytes [] [],aY R) by unfold bc;rw[if_neg (fun q=>n2 q.1),if_neg n2,if_neg n3];exact if_pos n4]
    generalize aY R=L1 at *
    simp only[rdB,rdC,tkP,Val.pv_mk] at hadv hb ⊢
    refine aF.intro cm (by simp[F46]) ?_
    simp(disch:=try exact dI) only[F46,h0I,hdI,n2,n3,k4,push_cast,seval]
    refine ab.lentK hadv [0] rfl qsZ (by simp(disch:=try exact dI) only[n2,n3,k4,push_cast,seval]) ?_
    simp(disch:=try exact dI) only[n2,n3,k4,push_cast,seval]
    refine ab.pure hb rfl ?_
    refine zgZ ?_
    exact am [] qsZ
   by_cases n1:R.now.kind=1
   ·have k1:(R.now.kind=1)=True:=eq_true n1
    have hg:cn R.now:=.inr (.inr (.inr (.inl n1)))
    by_cases x1:R.now.text=[91]
    ·have b1:decide (R.now.text=[91])=true:=decide_eq_true x1
     have hb:=Hg (T:=T) (p:=p) (aG srt f (d+1)) s d (by omega) ihS ih (aY R) a1.1 a1.2.1 has1 hsl
     rw[eO h0 hg,show bc srt f d R=(.mk 8 0 0 [] (cJ (aG srt f (d+1)) (R.s.length+2) true [] (aY R)).1 [],aq (cJ (aG srt f (d+1)) (R.s.length+2) true [] (aY R)).2 [93]) by unfold bc;rw[if_neg (fun q=>n2 q.1),if_neg n2,if_neg n3,if_neg n4];exact if_pos x1]
     rw[hs]
     generalize cJ (aG srt f (d+1)) (s.length+2) true [] (aY R)=q at *
     generalize aY R=L1 at *
     simp only[rdB,rdC,tkP,Val.pv_mk] at hadv hb ⊢
     refine aF.intro cm (by simp[F46]) ?_
     simp(disch:=try exact dI) only[F46,h0I,hdI,n2,n3,n4,k1,b1,push_cast,seval]
     refine ab.lentK hadv [0] rfl qsZ qsZ ?_
     simp(disch:=try exact dI) only[n2,n3,n4,k1,b1,push_cast,seval]
     refine ab.lentK hb [0] rfl qsZ qsZ ?_
     refine zgZ ?_
     exact am [] qsZ
    have b1:decide (R.now.text=[91])=false:=decide_eq_false x1
    by_cases x2:R.now.text=[123]
    ·have b2:decide (R.now.text=[123])=true:=decide_eq_true x2
     have hb:=Nr (T:=T) (p:=p) (aG srt f (d+1)) s d (by omega) ihS ih (aY R) a1.1 a1.2.1 has1 hsl
     rw[eO h0 hg,show bc srt f d R=(.mk 9 0 0 [] [] (srt (iZ (aG srt f (d+1)) (R.s.length+2) true [] [] (aY R)).1),aq (iZ (aG srt f (d+1)) (R.s.length+2) true [] [] (aY R)).2 [125]) by unfold bc;rw[if_neg (fun q=>n2 q.1),if_neg n2,if_neg n3,if_neg n4,if_neg x1];exact if_pos x2]
     rw[hs]
     generalize iZ (aG srt f (d+1)) (s.length+2) true [] [] (aY R)=q at *
     generalize aY R=L1 at *
     simp only[rdB,rdC,tkP,Val.pv_mk] at hadv hb ⊢
     refine aF.intro cm (by simp[F46]) ?_
     simp(disch:=try exact dI) only[F46,h0I,hdI,n2,n3,n4,k1,b1,b2,push_cast,seval]
     refine ab.lentK hadv [0] rfl qsZ qsZ ?_
     simp(disch:=try exact dI) only[n2,n3,n4,k1,b1,b2,push_cast,seval]
     refine ab.lentK hb [0] rfl qsZ qsZ ?_
     refine zgZ ?_
     exact am [] qsZ
    have b2:decide (R.now.text=[123])=false:=decide_eq_false x2
    have hb:=Fc (T:=T) (p:=p) (aG srt f (d+1)) s d (by omega) ihS ih (aY R) R.now a1.1 a1.2.1 has1 t3
    rw[eO h0 hg,show bc srt f d R=bu (aG srt f (d+1)) (aY R) R.now d by unfold bc;rw[if_neg (fun q=>n2 q.1),if_neg n2,if_neg n3,if_neg n4,if_neg x1];exact if_neg x2]
    generalize bu (aG srt f (d+1)) (aY R) R.now d=q at *
    obtain⟨⟨w1,w2,w3,w4,w5,w6⟩,L2⟩:=q
    generalize aY R=L1 at *
    simp only[rdB,rdC,tkP,Val.pv_mk] at hadv hb ⊢
    refine aF.intro cm (by simp[F46]) ?_
    simp(disch:=try exact dI) only[F46,h0I,hdI,n2,n3,n4,k1,b1,b2,push_cast,seval]
    refine ab.lentK hadv [0] rfl qsZ qsZ ?_
    simp(disch:=try exact dI) only[n2,n3,n4,k1,b1,b2,push_cast,seval]
    refine ab.lentK hb [0] rfl qsZ qsZ ?_
    refine zgZ ?_
    exact am [] qsZ
   by_cases x1:R.now.text=[91]
   ·have b1:decide (R.now.text=[91])=true:=decide_eq_true x1
    have hg:cn R.now:=.inr (.inr (.inr (.inr (.inl x1))))
    have hb:=Hg (T:=T) (p:=p) (aG srt f (d+1)) s d (by omega) ihS ih (aY R) a1.1 a1.2.1 has1 hsl
    rw[eO h0 hg,show bc srt f d R=(.mk 8 0 0 [] (cJ (aG srt f (d+1)) (R.s.length+2) true [] (aY R)).1 [],aq (cJ (aG srt f (d+1)) (R.s.length+2) true [] (aY R)).2 [93]) by unfold bc;rw[if_neg (fun q=>n2 q.1),if_neg n2,if_neg n3,if_neg n4];exact if_pos x1]
    rw[hs]
    generalize cJ (aG srt f (d+1)) (s.length+2) true [] (aY R)=q at *
    generalize aY R=L1 at *
    simp only[rdB,rdC,tkP,Val.pv_mk] at hadv hb ⊢
    refine aF.intro cm (by simp[F46]) ?_
    simp(disch:=try exact dI) only[F46,h0I,hdI,n2,n3,n4,n1,b1,push_cast,seval]
    refine ab.lentK hadv [0] rfl qsZ qsZ ?_
    simp(disch:=try exact dI) only[n2,n3,n4,n1,b1,push_cast,seval]
    refine ab.lentK hb [0] rfl qsZ qsZ ?_
    refine zgZ ?_
    exact am [] qsZ
   have b1:decide (R.now.text=[91])=false:=decide_eq_false x1
   by_cases x2:R.now.text=[123]
   ·have b2:decide (R.now.text=[123])=true:=decide_eq_true x2
    have hg:cn R.now:=.inr (.inr (.inr (.inr (.inr x2))))
    have hb:=Nr (T:=T) (p:=p) (aG srt f (d+1)) s d (by omega) ihS ih (aY R) a1.1 a1.2.1 has1 hsl
    rw[eO h0 hg,show bc srt f d R=(.mk 9 0 0 [] [] (srt (iZ (aG srt f (d+1)) (R.s.length+2) true [] [] (aY R)).1),aq (iZ (aG srt f (d+1)) (R.s.length+2) true [] [] (aY R)).2 [125]) by unfold bc;rw[if_neg (fun q=>n2 q.1),if_neg n2,if_neg n3,if_neg n4,if_neg x1];exact if_pos x2]
    rw[hs]
    generalize iZ (aG srt f (d+1)) (s.length+2) true [] [] (aY R)=q at *
    generalize aY R=L1 at *
    simp only[rdB,rdC,tkP,Val.pv_mk] at hadv hb ⊢
    refine aF.intro cm (by simp[F46]) ?_
    simp(disch:=try exact dI) only[F46,h0I,hdI,n2,n3,n4,n1,b1,b2,push_cast,seval]
    refine ab.lentK hadv [0] rfl qsZ qsZ ?_
    simp(disch:=try exact dI) only[n2,n3,n4,n1,b1,b2,push_cast,seval]
    refine ab.lentK hb [0] rfl qsZ qsZ ?_
    refine zgZ ?_
    exact am [] qsZ
   have b2:decide (R.now.text=[123])=false:=decide_eq_false x2
   have hg:¬ cn R.now:=by
    rintro (h | h | h | h | h | h)
    ·exact n2 h
    ·exact n3 h
    ·exact n4 h
    ·exact n1 h
    ·exact x1 h
    ·exact x2 h
   rw[f8 h0 hg]
   simp only[rdB,rdC,aH,Val.pv_mk] at hf13 ⊢
   refine aF.intro cm (by simp[F46]) ?_
   simp(disch:=try exact dI) only[F46,h0I,n2,n3,n4,n1,b1,b2,push_cast,seval]
   refine ab.lentK hf13 [0] rfl qsZ qsZ ?_
   refine zgZ ?_
   exact am [] qsZ
end
end Go.Proofs.YtamoeblcphjbaaaGreatDoor
-- many steps
namespace Go.Proofs.YtamoeblcphjbaaaGreatDoor
open Go Go.Ab
attribute [local irreducible] vc
def SP:List UInt8:=[48,49,50,51,52,53,54,55,56,57,97,98,99,100,101,102]
def hxB (n:Nat):UInt8:=SP.getD n 0
def SS (c:UInt8):List UInt8:=(if 16≤c.toNat then [hxB (c.toNat / 16)] else [])++[hxB (c.toNat % 16)]
def Qh (c:UInt8):List UInt8:=
 if c.toNat=34∨c.toNat=92 then [92,c] else if c.toNat=10 then [92,110] else if c.toNat=13 then [92,114] else if c.toNat=9 then [92,116]
 else if c.toNat<32∨c.toNat=127 then 92::117::123::(SS c++[125]) else [c]
def zy (s:List UInt8):List UInt8:=34::(s.flatMap Qh++[34])
theorem cl (a b:List UInt8):az (a++b)=az a++az b:=by simp[az]
theorem eL (a:List UInt8):(az a).length=a.length:=by simp[az]
theorem Rt {c:UInt8}(h:¬ (c.toNat<32∨c.toNat=127))(h0:¬ (c.toNat=34∨c.toNat=92)):Qh c=[c]:=by
 unfold Qh;rw[if_neg h0,if_neg (by omega),if_neg (by omega),if_neg (by omega),if_neg h]
end Go.Proofs.YtamoeblcphjbaaaGreatDoor
-- many steps
namespace Go.Proofs.YtamoeblcphjbaaaGreatDoor
open Go Go.Ab
attribute [local irreducible] vc
def hx2 (c:UInt8):List UInt8:=[hxB (c.toNat / 16),hxB (c.toNat % 16)]
def ST (s:List UInt8):List UInt8:=120::34::(s.flatMap hx2++[34])
end Go.Proofs.YtamoeblcphjbaaaGreatDoor
-- many steps
namespace Go.Proofs.YtamoeblcphjbaaaGreatDoor
open Go Go.Ab
attribute [local irreducible] vc
end Go.Proofs.YtamoeblcphjbaaaGreatDoor
-- many steps
namespace Go.Proofs.YtamoeblcphjbaaaGreatDoor
open Go Go.Ab
attribute [local irreducible] vc
end Go.Proofs.YtamoeblcphjbaaaGreatDoor
-- many steps
namespace Go.Proofs.YtamoeblcphjbaaaGreatDoor
open Go Go.Ab
attribute [local irreducible] vc
end Go.Proofs.YtamoeblcphjbaaaGreatDoor
namespace Go.Ab
open Go
theorem xE (n:Int)(h0:0≤n):∀ k:Nat,n<ew ((k:Int)+1)→∃ y:Int,1≤y∧y≤k∧ew y≤n∧n<ew (y+1)
 | 0,h=>absurd h (by rw[show ew (((0:Nat):Int)+1)=0 from rfl];omega)
 | k+1,h=>by
   by_cases hk:ew ((k:Int)+1)≤n
   ·exact⟨(k:Int)+1,by omega,by omega,hk,by simpa using h⟩
   ·obtain⟨y,a,b,c,d⟩:=xE n h0 k (by omega)
    exact⟨y,a,by omega,c,d⟩
theorem tS (y r:Int)(h0:0≤r):∀ k:Nat,r<dY y k→∃ m:Nat,1≤m∧m≤k∧dY y (m - 1)≤r∧r<dY y m
 | 0,h=>absurd h (by rw[show dY y 0=0 from rfl];omega)
 | k+1,h=>by
   by_cases hk:dY y k≤r
   ·exact⟨k+1,by omega,by omega,hk,h⟩
   ·obtain⟨m,a,b,c,d⟩:=tS y r h0 k (by omega)
    exact⟨m,a,by omega,c,d⟩
theorem Hv {n:Int}(h0:0≤n)(h1:n≤3652058):∃ y m d,DateOk y m d∧n=jM y m d:=by
 have hb:ew (((9999:Nat):Int)+1)=3652059:=by decide
 obtain⟨y,y1,y2,b1,b2⟩:=xE n h0 9999 (by rw[hb];omega)
 have hs:=nI y
 have h12:=GJ y
 obtain⟨m,m1,m2,c1,c2⟩:=tS y (n - ew y) (by omega) 12 (by omega)
 have hm:dY y m=dY y (m - 1)+mdI y m:=by
  obtain⟨k,rfl⟩:∃ k,m=k+1:=⟨m - 1,by omega⟩
  simp[dY]
 exact⟨y,m,n - ew y - dY y (m - 1)+1,⟨y1,by simpa using y2,m1,m2,by omega,by omega⟩,by unfold jM;omega⟩
end Go.Ab
