/- A part of the proof for LiteralQuotesCardSaid. -/
import Derived.Test.YtamoeblcphjbaaaGreatDoorQuLP7
set_option maxRecDepth 100000
set_option linter.unusedVariables false
set_option linter.unusedSimpArgs false
-- many steps
namespace Go.Proofs.YtamoeblcphjbaaaGreatDoor
open Go Go.Ab
attribute [local irreducible] vc
theorem yE {s:List UInt8}{i:Nat}{c a b:UInt8}(hc:s[i]? = some c):fl [a,b] (s.drop i)=(decide (c=a)&&decide (s[i+1]? = some b)):=by
 rw[bx hc,fl]
 cases hd:s[i+1]? with
 | none=>
   have:s.drop (i+1)=[]:=List.drop_eq_nil_of_le (List.getElem?_eq_none_iff.1 hd)
   rw[this]
   simp
 | some x=>
   rw[bx hd]
   simp[Bool.decide_and]
section
variable {T:Nat}{p:PV}
theorem Pi {R:Rd}{i:Nat}{c:UInt8}(h:c.toNat=34):eb R i c=rg R i:=if_pos h
theorem Ph {R:Rd}{i:Nat}{c:UInt8}(h:c.toNat=120∧R.s[i+1]? = some 34):eb R i c=rS R i:=by unfold eb;rw[if_neg (by omega),if_pos h]
theorem My {R:Rd}{i:Nat}{c:UInt8}(h1:¬ c.toNat=34)(h2:¬ (c.toNat=120∧R.s[i+1]? = some 34))(h3:aX c=true):eb R i c = { R with next:=bz ec R.s i,now:={ R.now with kind:=1 } }:=by unfold eb;rw[if_neg h1,if_neg h2,if_pos h3]
theorem Pg {R:Rd}{i:Nat}{c:UInt8}(h1:¬ c.toNat=34)(h2:¬ (c.toNat=120∧R.s[i+1]? = some 34))(h3:¬ aX c=true)(h4:isD c=true∨c.toNat=45):eb R i c=px R i:=by unfold eb;rw[if_neg h1,if_neg h2,if_neg h3,if_pos h4]
theorem Pf {R:Rd}{i:Nat}{c:UInt8}(h1:¬ c.toNat=34)(h2:¬ (c.toNat=120∧R.s[i+1]? = some 34))(h3:¬ aX c=true)(h4:¬ (isD c=true∨c.toNat=45))(h5:c.toNat=46∧R.s[i+1]? = some 46):eb R i c = { R with next:=i+2,now:={ R.now with kind:=5 } }:=by unfold eb;rw[if_neg h1,if_neg h2,if_neg h3,if_neg h4,if_pos h5]
theorem Pe {R:Rd}{i:Nat}{c:UInt8}(h1:¬ c.toNat=34)(h2:¬ (c.toNat=120∧R.s[i+1]? = some 34))(h3:¬ aX c=true)(h4:¬ (isD c=true∨c.toNat=45))(h5:¬ (c.toNat=46∧R.s[i+1]? = some 46))(h6:Ln c=true):eb R i c = { R with next:=i+1,now:={ R.now with kind:=5 } }:=by unfold eb;rw[if_neg h1,if_neg h2,if_neg h3,if_neg h4,if_neg h5,if_pos h6]
theorem Pd {R:Rd}{i:Nat}{c:UInt8}(h1:¬ c.toNat=34)(h2:¬ (c.toNat=120∧R.s[i+1]? = some 34))(h3:¬ aX c=true)(h4:¬ (isD c=true∨c.toNat=45))(h5:¬ (c.toNat=46∧R.s[i+1]? = some 46))(h6:¬ Ln c=true):eb R i c=aQ R i 13:=by unfold eb;rw[if_neg h1,if_neg h2,if_neg h3,if_neg h4,if_neg h5,if_neg h6]
theorem gE {R:Rd}{i:Nat}(h:R.e=0):eO R i = { R with now:={ R.now with text:=(R.s.take R.next).drop i } }:=if_pos h
theorem qZ {R:Rd}{i:Nat}(h:¬ R.e=0):eO R i=R:=if_neg h
set_option maxHeartbeats 16000000 in
theorem dC (R:Rd)(hR:OkR R):aL Tryz.prog (di T p) 1 93 [.ptr 0 0] [rdB R] (.pv (tkP R.now)) [rdB (bi R)]:=by
 by_cases h0:¬ R.e=0
 ·rw[vV h0]
  refine aL.intro dD (by simp[F93]) ?_
  simp(maxSteps:=9^7) (disch:=first|exact dI|fail) only[F93,rdB,rdC,h0,push_cast,seval]
  exact ap [] (by simp(maxSteps:=9^7) (disch:=first|exact dI|fail) only[rdB,rdC,tkP,push_cast,seval])
 have h0:R.e=0:=Classical.not_not.1 h0
 have h0I:(R.e=0)=True:=eq_true h0
 obtain⟨hs,_,hnx,_⟩:=hR h0
 have hrun:=oS (T:=T) (p:=p) R R.next 158 ba Fy hs hnx
 have hi2:bz ba R.s R.next≤R.s.length:=cK hnx
 have hadv0:=BT (R:=R) h0
 have hadvc:=fun c=>BS (R:=R) (c:=c) h0
 simp only[rdB,rdC] at hrun
 generalize bz ba R.s R.next=i at *
 by_cases hi:R.s.length≤i
 ·rw[hadv0 hi]
  obtain rfl:i=R.s.length:=by omega
  refine aL.intro dD (by simp[F93]) ?_
  simp(maxSteps:=9^7) (disch:=first|exact dI|fail) only[F93,rdB,rdC,h0I,push_cast,seval]
  refine ab.lentK hrun [0] rfl (by simp(maxSteps:=9^7) (disch:=first|exact dI|fail) only[push_cast,seval]) (by simp(maxSteps:=9^7) (disch:=first|exact dI|fail) only[push_cast,seval]) ?_
  simp(maxSteps:=9^7) (disch:=first|exact dI|fail) only[push_cast,seval]
  exact ap [] (by simp(maxSteps:=9^7) (disch:=first|exact dI|fail) only[rdB,rdC,tkP,push_cast,seval])
 have hlt:i<R.s.length:=by omega
 have hltI:¬ (i:Int)=(R.s.length:Int):=by omega
 have hltI2:(i:Int)<(R.s.length:Int):=by omega
 obtain⟨c,hc⟩:∃ c,R.s[i]? = some c:=⟨_,List.getElem?_eq_getElem hlt⟩
 rw[hadvc c hc]
 obtain⟨R1,hR1⟩:∃ R1:Rd,R1 = { R with now:={ pos:=i },next:=i }:=⟨_,rfl⟩
 have q1:R1.s=R.s:=by rw[hR1]
 have hb1:rdC R1=[.pv (.str R.s),.pv (.int .i64 (i:Int)),.pv (.int .i64 0),.pv (.int .i64 (i:Int)),.pv (.str []),.pv (.str []),.pv (.int .i64 0),.pv (.int .i64 0),.pv (.bool false),.pv (.bool false),.pv (.int .i64 R.e),.pv (.int .i64 (R.off:Int))]:=by rw[hR1];rfl
 rw[← hR1]
 have hln:=rJ (R:=R1) (i:=i) (c:=c) (by rw[hR1];exact h0) (by rw[hR1];exact hc)
 have hls:=EO R1 i c
 rw[q1] at hln hls
 by_cases h34:c.toNat=34
 ·have h34I:((c.toNat:Int)=34)=True:=eq_true (by omega)
  have k1:=Lr (T:=T) (p:=p) R1 i (by rw[q1];exact hs) (by rw[q1];exact hlt) (by rw[hR1];exact h0)
  rw[Pi h34] at hln hls ⊢
  generalize rg R1 i=L at *
  simp only[rdB] at k1
  rw[hb1] at k1
  by_cases hL:L.e=0
  ·have hLI:(L.e=0)=True:=eq_true hL
   obtain⟨n1,n2⟩:=hln hL
   have n1I:(i:Int)≤(L.next:Int):=by omega
   have n2I:(L.next:Int)≤(R.s.length:Int):=by omega
   rw[gE hL]
   refine aL.intro dD (by simp[F93]) ?_
   simp(maxSteps:=9^7) (disch:=first|exact dI|fail) only[F93,rdB,rdC,h0I,push_cast,seval]
   refine ab.lentK hrun [0] rfl (by simp(maxSteps:=9^7) (disch:=first|exact dI|fail) only[push_cast,seval]) (by simp(maxSteps:=9^7) (disch:=first|exact dI|fail) only[push_cast,seval]) ?_
   simp(maxSteps:=9^7) (disch:=first|exact dI|fail) only[hltI,hltI2,hc,ag,h34I,push_cast,seval]
   refine ab.lentK k1 [0] rfl (by simp(maxSteps:=9^7) (disch:=first|exact dI|fail) only[push_cast,seval]) (by simp(maxSteps:=9^7) (disch:=first|exact dI|fail) only[push_cast,seval]) ?_
   simp(maxSteps:=9^7) (disch:=first|exact dI|fail) only[rdC,hLI,hls,n1I,n2I,push_cast,seval]
   exact ap [] (by simp(maxSteps:=9^7) (disch:=first|exact dI|fail) only[rdB,rdC,tkP,hls,push_cast,seval])
  ·rw[qZ hL]
   refine aL.intro dD (by simp[F93]) ?_
   simp(maxSteps:=9^7) (disch:=first|exact dI|fail) only[F93,rdB,rdC,h0I,push_cast,seval]
   refine ab.lentK hrun [0] rfl (by simp(maxSteps:=9^7) (disch:=first|exact dI|fail) only[push_cast,seval]) (by simp(maxSteps:=9^7) (disch:=first|exact dI|fail) only[push_cast,seval]) ?_
   simp(maxSteps:=9^7) (disch:=first|exact dI|fail) only[hltI,hltI2,hc,ag,h34I,push_cast,seval]
   refine ab.lentK k1 [0] rfl (by simp(maxSteps:=9^7) (disch:=first|exact dI|fail) only[push_cast,seval]) (by simp(maxSteps:=9^7) (disch:=first|exact dI|fail) only[push_cast,seval]) ?_
   simp(maxSteps:=9^7) (disch:=first|exact dI|fail) only[rdC,hL,push_cast,seval]
   exact ap [] (by simp(maxSteps:=9^7) (disch:=first|exact dI|fail) only[rdB,rdC,tkP,push_cast,seval])
 have h34I:¬ (c.toNat:Int)=34:=by omega
 have hpre:=toE (T:=T) (p:=p) (yF (R.s.drop i) [120,34])
 rw[yE hc] at hpre
 have htk:List.drop i (List.take R.s.length R.s)=R.s.drop i:=by rw[List.take_length]
 by_cases h2:c.toNat=120∧R.s[i+1]? = some 34
 ·have h120I:((c.toNat:Int)=120)=True:=eq_true (by omega)
  have hc120:c=120:=UInt8.toNat_inj.1 (by simpa using h2.1)
  rw[show (decide (c=120)&&decide (R.s[i+1]? = some 34))=true by rw[decide_eq_true hc120,decide_eq_true h2.2];rfl] at hpre
  have k1:=Fv (T:=T) (p:=p) R1 i (by rw[q1];exact hs) (by rw[q1];exact (List.getElem?_eq_some_iff.1 h2.2).1) (by rw[hR1];exact h0)
  rw[Ph (by rw[q1];exact h2)] at hln hls ⊢
  generalize rS R1 i=L at *
  simp only[rdB] at k1
  rw[hb1] at k1
  by_cases hL:L.e=0
  ·have hLI:(L.e=0)=True:=eq_true hL
   obtain⟨n1,n2⟩:=hln hL
   have n1I:(i:Int)≤(L.next:Int):=by omega
   have n2I:(L.next:Int)≤(R.s.length:Int):=by omega
   rw[gE hL]
   refine aL.intro dD (by simp[F93]) ?_
   simp(maxSteps:=9^7) (disch:=first|exact dI|fail) only[F93,rdB,rdC,h0I,push_cast,seval]
   refine ab.lentK hrun [0] rfl (by simp(maxSteps:=9^7) (disch:=first|exact dI|fail) only[push_cast,seval]) (by simp(maxSteps:=9^7) (disch:=first|exact dI|fail) only[push_cast,seval]) ?_
   simp(maxSteps:=9^7) (disch:=first|exact dI|fail) only[hltI,hltI2,hc,ag,h34I,h120I,push_cast,seval]
   refine ab.pure hpre (by simp(maxSteps:=9^7) (disch:=first|exact dI|fail) only[htk,push_cast,seval]) ?_
   simp(maxSteps:=9^7) (disch:=first|exact dI|fail) only[push_cast,seval]
   refine ab.lentK k1 [0] rfl (by simp(maxSteps:=9^7) (disch:=first|exact dI|fail) only[push_cast,seval]) (by simp(maxSteps:=9^7) (disch:=first|exact dI|fail) only[push_cast,seval]) ?_
   simp(maxSteps:=9^7) (disch:=first|exact dI|fail) only[rdC,hLI,hls,n1I,n2I,push_cast,seval]
   exact ap [] (by simp(maxSteps:=9^7) (disch:=first|exact dI|fail) only[rdB,rdC,tkP,hls,push_cast,seval])
  ·rw[qZ hL]
   refine aL.intro dD (by simp[F93]) ?_
   simp(maxSteps:=9^7) (disch:=first|exact dI|fail) only[F93,rdB,rdC,h0I,push_cast,seval]
   refine ab.lentK hrun [0] rfl (by simp(maxSteps:=9^7) (disch:=first|exact dI|fail) only[push_cast,seval]) (by simp(maxSteps:=9^7) (disch:=first|exact dI|fail) only[push_cast,seval]) ?_
   simp(maxSteps:=9^7) (disch:=first|exact dI|fail) only[hltI,hltI2,hc,ag,h34I,h120I,push_cast,seval]
   refine ab.pure hpre (by simp(maxSteps:=9^7) (disch:=first|exact dI|fail) only[htk,push_cast,seval]) ?_
   simp(maxSteps:=9^7) (disch:=first|exact dI|fail) only[push_cast,seval]
   refine ab.lentK k1 [0] rfl (by simp(maxSteps:=9^7) (disch:=first|exact dI|fail) only[push_cast,seval]) (by simp(maxSteps:=9^7) (disch:=first|exact dI|fail) only[push_cast,seval]) ?_
   simp(maxSteps:=9^7) (disch:=first|exact dI|fail) only[rdC,hL,push_cast,seval]
   exact ap [] (by simp(maxSteps:=9^7) (disch:=first|exact dI|fail) only[rdB,rdC,tkP,push_cast,seval])
 rw[show (decide (c=120)&&decide (R.s[i+1]? = some 34))=false by
  by_cases hx:c=120
  ·rw[decide_eq_false (fun q=>h2 ⟨by rw[hx];rfl,q⟩),Bool.and_false]
  ·rw[decide_eq_false hx,Bool.false_and]] at hpre
 have h2':¬ (c.toNat=120∧R1.s[i+1]? = some 34):=by rw[q1];exact h2
 have hlet:=toE (T:=T) (p:=p) (nF c)
 by_cases hx:c.toNat=120
 ·-- an x that begins no bytes is a letter
  have h120I:((c.toNat:Int)=120)=True:=eq_true (by omega)
  have h3:aX c=true:=by simp[aX,hx]
  rw[h3] at hlet
  rw[My h34 h2' h3,gE (by rw[hR1];exact h0)]
  have hr2:=oS (T:=T) (p:=p) R1 i 163 ec wy (by rw[q1];exact hs) (by rw[q1];omega)
  have e1:i≤bz ec R1.s i:=eS
  have e2:bz ec R1.s i≤R1.s.length:=cK (by rw[q1];omega)
  rw[q1] at e1 e2 hr2 ⊢
  generalize bz ec R.s i=z at *
  have n1I:(i:Int)≤(z:Int):=by omega
  have n2I:(z:Int)≤(R.s.length:Int):=by omega
  simp only[rdB] at hr2
  rw[hb1] at hr2
  subst hR1
  refine aL.intro dD (by simp[F93]) ?_
  simp(maxSteps:=9^7) (disch:=first|exact dI|fail) only[F93,rdB,rdC,h0I,push_cast,seval]
  refine ab.lentK hrun [0] rfl (by simp(maxSteps:=9^7) (disch:=first|exact dI|fail) only[push_cast,seval]) (by simp(maxSteps:=9^7) (disch:=first|exact dI|fail) only[push_cast,seval]) ?_
  simp(maxSteps:=9^7) (disch:=first|exact dI|fail) only[hltI,hltI2,hc,ag,h34I,h120I,push_cast,seval]
  refine ab.pure hpre (by simp(maxSteps:=9^7) (disch:=first|exact dI|fail) only[htk,push_cast,seval]) ?_
  simp(maxSteps:=9^7) (disch:=first|exact dI|fail) only[push_cast,seval]
  refine ab.pure hlet rfl ?_
  simp(maxSteps:=9^7) (disch:=first|exact dI|fail) only[push_cast,seval]
  refine ab.lentK hr2 [0] rfl (by simp(maxSteps:=9^7) (disch:=first|exact dI|fail) only[push_cast,seval]) (by simp(maxSteps:=9^7) (disch:=first|exact dI|fail) only[push_cast,seval]) ?_
  simp(maxSteps:=9^7) (disch:=first|exact dI|fail) only[h0I,n1I,n2I,push_cast,seval]
  exact ap [] (by simp(maxSteps:=9^7) (disch:=first|exact dI|fail) only[rdB,rdC,tkP,push_cast,seval])
 have h120I:¬ (c.toNat:Int)=120:=by omega
 by_cases h3:aX c=true
 ·rw[h3] at hlet
  rw[My h34 h2' h3,gE (by rw[hR1];exact h0)]
  have hr2:=oS (T:=T) (p:=p) R1 i 163 ec wy (by rw[q1];exact hs) (by rw[q1];omega)
  have e1:i≤bz ec R1.s i:=eS
  have e2:bz ec R1.s i≤R1.s.length:=cK (by rw[q1];omega)
  rw[q1] at e1 e2 hr2 ⊢
  generalize bz ec R.s i=z at *
  have n1I:(i:Int)≤(z:Int):=by omega
  have n2I:(z:Int)≤(R.s.length:Int):=by omega
  simp only[rdB] at hr2
  rw[hb1] at hr2
  subst hR1
  refine aL.intro dD (by simp[F93]) ?_
  simp(maxSteps:=9^7) (disch:=first|exact dI|fail) only[F93,rdB,rdC,h0I,push_cast,seval]
  refine ab.lentK hrun [0] rfl (by simp(maxSteps:=9^7) (disch:=first|exact dI|fail) only[push_cast,seval]) (by simp(maxSteps:=9^7) (disch:=first|exact dI|fail) only[push_cast,seval]) ?_
  simp(maxSteps:=9^7) (disch:=first|exact dI|fail) only[hltI,hltI2,hc,ag,h34I,h120I,push_cast,seval]
  refine ab.pure hlet rfl ?_
  simp(maxSteps:=9^7) (disch:=first|exact dI|fail) only[push_cast,seval]
  refine ab.lentK hr2 [0] rfl (by simp(maxSteps:=9^7) (disch:=first|exact dI|fail) only[push_cast,seval]) (by simp(maxSteps:=9^7) (disch:=first|exact dI|fail) only[push_cast,seval]) ?_
  simp(maxSteps:=9^7) (disch:=first|exact dI|fail) only[h0I,n1I,n2I,push_cast,seval]
  exact ap [] (by simp(maxSteps:=9^7) (disch:=first|exact dI|fail) only[rdB,rdC,tkP,push_cast,seval])
 rw[show aX c=false by simpa using h3] at hlet
 have hdig:=toE (T:=T) (p:=p) (dS c)
 by_cases h4:isD c=true∨c.toNat=45
 ·have k1:=Mm (T:=T) (p:=p) R1 i (by rw[q1];exact hs) (by rw[q1];exact hlt) (by rw[hR1];exact h0) (by rw[hR1];exact⟨rfl,rfl⟩)
  rw[Pg h34 h2' h3 h4] at hln hls ⊢
  generalize px R1 i=L at *
  simp only[rdB] at k1
  rw[hb1] at k1
  have hfin:∀ (dg:Bool),dg=isD c→(dg=false→(c.toNat:Int)=45)→aL Tryz.prog (di T p) 1 93 [.ptr 0 0] [rdB R] (.pv (tkP R.now)) [rdB (eO L i)]:=by
   intro dg hdg h45
   rw[← hdg] at hdig
   by_cases hL:L.e=0
   ·have hLI:(L.e=0)=True:=eq_true hL
    obtain⟨n1,n2⟩:=hln hL
    have n1I:(i:Int)≤(L.next:Int):=by omega
    have n2I:(L.next:Int)≤(R.s.length:Int):=by omega
    rw[gE hL]
    refine aL.intro dD (by simp[F93]) ?_
    simp(maxSteps:=9^7) (disch:=first|exact dI|fail) only[F93,rdB,rdC,h0I,push_cast,seval]
    refine ab.lentK hrun [0] rfl (by simp(maxSteps:=9^7) (disch:=first|exact dI|fail) only[push_cast,seval]) (by simp(maxSteps:=9^7) (disch:=first|exact dI|fail) only[push_cast,seval]) ?_
    simp(maxSteps:=9^7) (disch:=first|exact dI|fail) only[hltI,hltI2,hc,ag,h34I,h120I,push_cast,seval]
    refine ab.pure hlet rfl ?_
    simp(maxSteps:=9^7) (disch:=first|exact dI|fail) only[push_cast,seval]
    refine ab.pure hdig rfl ?_
    cases dg with
    | true=>
      simp(maxSteps:=9^7) (disch:=first|exact dI|fail) only[push_cast,seval]
      refine ab.lentK k1 [0] rfl (by simp(maxSteps:=9^7) (disch:=first|exact dI|fail) only[push_cast,seval]) (by simp(maxSteps:=9^7) (disch:=first|exact dI|fail) only[push_cast,seval]) ?_
      simp(maxSteps:=9^7) (disch:=first|exact dI|fail) only[rdC,hLI,hls,n1I,n2I,push_cast,seval]
      exact ap [] (by simp(maxSteps:=9^7) (disch:=first|exact dI|fail) only[rdB,rdC,tkP,hls,push_cast,seval])
    | false=>
      have h45I:((c.toNat:Int)=45)=True:=eq_true (h45 rfl)
      simp(maxSteps:=9^7) (disch:=first|exact dI|fail) only[h45I,push_cast,seval]
      refine ab.lentK k1 [0] rfl (by simp(maxSteps:=9^7) (disch:=first|exact dI|fail) only[push_cast,seval]) (by simp(maxSteps:=9^7) (disch:=first|exact dI|fail) only[push_cast,seval]) ?_
      simp(maxSteps:=9^7) (disch:=first|exact dI|fail) only[rdC,hLI,hls,n1I,n2I,push_cast,seval]
      exact ap [] (by simp(maxSteps:=9^7) (disch:=first|exact dI|fail) only[rdB,rdC,tkP,hls,push_cast,seval])
   ·rw[qZ hL]
    refine aL.intro dD (by simp[F93]) ?_
    simp(maxSteps:=9^7) (disch:=first|exact dI|fail) only[F93,rdB,rdC,h0I,push_cast,seval]
    refine ab.lentK hrun [0] rfl (by simp(maxSteps:=9^7) (disch:=first|exact dI|fail) only[push_cast,seval]) (by simp(maxSteps:=9^7) (disch:=first|exact dI|fail) only[push_cast,seval]) ?_
    simp(maxSteps:=9^7) (disch:=first|exact dI|fail) only[hltI,hltI2,hc,ag,h34I,h120I,push_cast,seval]
    refine ab.pure hlet rfl ?_
    simp(maxSteps:=9^7) (disch:=first|exact dI|fail) only[push_cast,seval]
    refine ab.pure hdig rfl ?_
    cases dg with
    | true=>
      simp(maxSteps:=9^7) (disch:=first|exact dI|fail) only[push_cast,seval]
      refine ab.lentK k1 [0] rfl (by simp(maxSteps:=9^7) (disch:=first|exact dI|fail) only[push_cast,seval]) (by simp(maxSteps:=9^7) (disch:=first|exact dI|fail) only[push_cast,seval]) ?_
      simp(maxSteps:=9^7) (disch:=first|exact dI|fail) only[rdC,hL,push_cast,seval]
      exact ap [] (by simp(maxSteps:=9^7) (disch:=first|exact dI|fail) only[rdB,rdC,tkP,push_cast,seval])
    | false=>
      have h45I:((c.toNat:Int)=45)=True:=eq_true (h45 rfl)
      simp(maxSteps:=9^7) (disch:=first|exact dI|fail) only[h45I,push_cast,seval]
      refine ab.lentK k1 [0] rfl (by simp(maxSteps:=9^7) (disch:=first|exact dI|fail) only[push_cast,seval]) (by simp(maxSteps:=9^7) (disch:=first|exact dI|fail) only[push_cast,seval]) ?_
      simp(maxSteps:=9^7) (disch:=first|exact dI|fail) only[rdC,hL,push_cast,seval]
      exact ap [] (by simp(maxSteps:=9^7) (disch:=first|exact dI|fail) only[rdB,rdC,tkP,push_cast,seval])
  refine hfin (isD c) rfl fun hd=>?_
  rcases h4 with h4 | h4
  ·rw[h4] at hd;cases hd
  ·omega
 have h45I:¬ (c.toNat:Int)=45:=fun h=>h4 (.inr (by omega))
 rw[show isD c=false by
  cases hh:isD c with
  | true=>exact absurd (.inl hh) h4
  | false=>rfl] at hdig
 have hdot:=toE (T:=T) (p:=p) (yF (R.s.drop i) [46,46])
 rw[yE hc] at hdot
 by_cases h5:c.toNat=46∧R.s[i+1]? = some 46
 ·have hc46:c=46:=UInt8.toNat_inj.1 (by simpa using h5.1)
  rw[show (decide (c=46)&&decide (R.s[i+1]? = some 46))=true by rw[decide_eq_true hc46,decide_eq_true h5.2];rfl] at hdot
  rw[Pf h34 h2' h3 h4 (by rw[q1];exact h5),gE (by rw[hR1];exact h0)]
  have hl2:i+1<R.s.length:=(List.getElem?_eq_some_iff.1 h5.2).1
  have n2I:(i:Int)+2≤(R.s.length:Int):=by omega
  have n1I:(i:Int)≤(i:Int)+2:=by omega
  have e2:((i:Int)+2).toNat=i+2:=by omega
  subst hR1
  refine aL.intro dD (by simp[F93]) ?_
  simp(maxSteps:=9^7) (disch:=first|exact dI|fail) only[F93,rdB,rdC,h0I,push_cast,seval]
  refine ab.lentK hrun [0] rfl (by simp(maxSteps:=9^7) (disch:=first|exact dI|fail) only[push_cast,seval]) (by simp(maxSteps:=9^7) (disch:=first|exact dI|fail) only[push_cast,seval]) ?_
  simp(maxSteps:=9^7) (disch:=first|exact dI|fail) only[hltI,hltI2,hc,ag,h34I,h120I,push_cast,seval]
  refine ab.pure hlet rfl ?_
  simp(maxSteps:=9^7) (disch:=first|exact dI|fail) only[push_cast,seval]
  refine ab.pure hdig rfl ?_
  simp(maxSteps:=9^7) (disch:=first|exact dI|fail) only[h45I,push_cast,seval]
  refine ab.pure hdot (by simp(maxSteps:=9^7) (disch:=first|exact dI|fail) only[htk,push_cast,seval]) ?_
  simp(maxSteps:=9^7) (disch:=first|exact dI|fail) only[h0I,n1I,n2I,e2,push_cast,seval]
  exact ap [] (by simp(maxSteps:=9^7) (disch:=first|exact dI|fail) only[rdB,rdC,tkP,push_cast,seval];omega)
 rw[show (decide (c=46)&&decide (R.s[i+1]? = some 46))=false by
  by_cases hx:c=46
  ·rw[decide_eq_false (fun q=>h5 ⟨by rw[hx];rfl,q⟩),Bool.and_false]
  ·rw[decide_eq_false hx,Bool.false_and]] at hdot
 have h5':¬ (c.toNat=46∧R1.s[i+1]? = some 46):=by rw[q1];exact h5
 have hsy:=toE (T:=T) (p:=p) (il [91,93,123,125,40,41,58,44,61,63,124] c)
 have hsf:=I8 c
 generalize d8 c [91,93,123,125,40,41,58,44,61,63,124] 0=q at *
 by_cases h6:Ln c=true
 ·have hq:0≤q:=hsf.2 h6
  rw[Pe h34 h2' h3 h4 h5' h6,gE (by rw[hR1];exact h0)]
  have n2I:(i:Int)+1≤(R.s.length:Int):=by omega
  have n1I:(i:Int)≤(i:Int)+1:=by omega
  have e2:((i:Int)+1).toNat=i+1:=by omega
  subst hR1
  refine aL.intro dD (by simp[F93]) ?_
  simp(maxSteps:=9^7) (disch:=first|exact dI|fail) only[F93,rdB,rdC,h0I,push_cast,seval]
  refine ab.lentK hrun [0] rfl (by simp(maxSteps:=9^7) (disch:=first|exact dI|fail) only[push_cast,seval]) (by simp(maxSteps:=9^7) (disch:=first|exact dI|fail) only[push_cast,seval]) ?_
  simp(maxSteps:=9^7) (disch:=first|exact dI|fail) only[hltI,hltI2,hc,ag,h34I,h120I,push_cast,seval]
  refine ab.pure hlet rfl ?_
  simp(maxSteps:=9^7) (disch:=first|exact dI|fail) only[push_cast,seval]
  refine ab.pure hdig rfl ?_
  simp(maxSteps:=9^7) (disch:=first|exact dI|fail) only[h45I,push_cast,seval]
  refine ab.pure hdot (by simp(maxSteps:=9^7) (disch:=first|exact dI|fail) only[htk,push_cast,seval]) ?_
  simp(maxSteps:=9^7) (disch:=first|exact dI|fail) only[push_cast,seval]
  refine ab.pure hsy rfl ?_
  simp(maxSteps:=9^7) (disch:=first|exact dI|fail) only[hq,h0I,n1I,n2I,e2,push_cast,seval]
  exact ap [] (by simp(maxSteps:=9^7) (disch:=first|exact dI|fail) only[rdB,rdC,tkP,push_cast,seval])
 ·have hq:¬ 0≤q:=fun h=>h6 (hsf.1 h)
  rw[Pd h34 h2' h3 h4 h5' h6]
  have hfa:=cl (T:=T) (p:=p) R1 i 13
  have hfe:=bJ (R:=R1) (i:=i) (e:=13) (by decide)
  rw[qZ hfe]
  simp only[rdB] at hfa
  rw[hb1] at hfa
  generalize aQ R1 i 13=L at *
  refine aL.intro dD (by simp[F93]) ?_
  simp(maxSteps:=9^7) (disch:=first|exact dI|fail) only[F93,rdB,rdC,h0I,push_cast,seval]
  refine ab.lentK hrun [0] rfl (by simp(maxSteps:=9^7) (disch:=first|exact dI|fail) only[push_cast,seval]) (by simp(maxSteps:=9^7) (disch:=first|exact dI|fail) only[push_cast,seval]) ?_
  simp(maxSteps:=9^7) (disch:=first|exact dI|fail) only[hltI,hltI2,hc,ag,h34I,h120I,push_cast,seval]
  refine ab.pure hlet rfl ?_
  simp(maxSteps:=9^7) (disch:=first|exact dI|fail) only[push_cast,seval]
  refine ab.pure hdig rfl ?_
  simp(maxSteps:=9^7) (disch:=first|exact dI|fail) only[h45I,push_cast,seval]
  refine ab.pure hdot (by simp(maxSteps:=9^7) (disch:=first|exact dI|fail) only[htk,push_cast,seval]) ?_
  simp(maxSteps:=9^7) (disch:=first|exact dI|fail) only[push_cast,seval]
  refine ab.pure hsy rfl ?_
  simp(maxSteps:=9^7) (disch:=first|exact dI|fail) only[hq,push_cast,seval]
  refine ab.lentK hfa [0] rfl (by simp(maxSteps:=9^7) (disch:=first|exact dI|fail) only[push_cast,seval]) (by simp(maxSteps:=9^7) (disch:=first|exact dI|fail) only[push_cast,seval]) ?_
  simp(maxSteps:=9^7) (disch:=first|exact dI|fail) only[push_cast,seval]
  exact ap [] (by simp(maxSteps:=9^7) (disch:=first|exact dI|fail) only[rdB,rdC,tkP,push_cast,seval])
end
end Go.Proofs.YtamoeblcphjbaaaGreatDoor
