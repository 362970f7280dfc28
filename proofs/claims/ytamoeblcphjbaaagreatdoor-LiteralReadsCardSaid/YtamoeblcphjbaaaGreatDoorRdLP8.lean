/- A part of the proof for LiteralReadsCardSaid. -/
import Derived.Test.YtamoeblcphjbaaaGreatDoorRdLP7
set_option maxRecDepth 100000
set_option linter.unusedVariables false
set_option linter.unusedSimpArgs false
-- many steps
namespace Go.Proofs.YtamoeblcphjbaaaGreatDoor
open Go Go.Ab
attribute [local irreducible] vc
theorem za {s:List UInt8}{i:Nat}{c a b:UInt8}(hc:s[i]? = some c):fF [a,b] (s.drop i)=(decide (c=a)&&decide (s[i+1]? = some b)):=by
 rw[bP hc,fF]
 cases hd:s[i+1]? with
 | none=>
   have:s.drop (i+1)=[]:=List.drop_eq_nil_of_le (List.getElem?_eq_none_iff.1 hd)
   rw[this]
   simp
 | some x=>
   rw[bP hd]
   simp[Bool.decide_and]
section
variable {T:Nat}{p:PV}
theorem PU {R:Rd}{i:Nat}{c:UInt8}(h:c.toNat=34):ed R i c=sd R i:=if_pos h
theorem PT {R:Rd}{i:Nat}{c:UInt8}(h:c.toNat=120∧R.s[i+1]? = some 34):ed R i c=th R i:=by unfold ed;rw[if_neg (by omega),if_pos h]
theorem MI {R:Rd}{i:Nat}{c:UInt8}(h1:¬ c.toNat=34)(h2:¬ (c.toNat=120∧R.s[i+1]? = some 34))(h3:aN c=true):ed R i c = { R with next:=bx cH R.s i,now:={ R.now with kind:=1 } }:=by unfold ed;rw[if_neg h1,if_neg h2,if_pos h3]
theorem PS {R:Rd}{i:Nat}{c:UInt8}(h1:¬ c.toNat=34)(h2:¬ (c.toNat=120∧R.s[i+1]? = some 34))(h3:¬ aN c=true)(h4:isD c=true∨c.toNat=45):ed R i c=pJ R i:=by unfold ed;rw[if_neg h1,if_neg h2,if_neg h3,if_pos h4]
theorem PR {R:Rd}{i:Nat}{c:UInt8}(h1:¬ c.toNat=34)(h2:¬ (c.toNat=120∧R.s[i+1]? = some 34))(h3:¬ aN c=true)(h4:¬ (isD c=true∨c.toNat=45))(h5:c.toNat=46∧R.s[i+1]? = some 46):ed R i c = { R with next:=i+2,now:={ R.now with kind:=5 } }:=by unfold ed;rw[if_neg h1,if_neg h2,if_neg h3,if_neg h4,if_pos h5]
theorem PQ {R:Rd}{i:Nat}{c:UInt8}(h1:¬ c.toNat=34)(h2:¬ (c.toNat=120∧R.s[i+1]? = some 34))(h3:¬ aN c=true)(h4:¬ (isD c=true∨c.toNat=45))(h5:¬ (c.toNat=46∧R.s[i+1]? = some 46))(h6:Cq c=true):ed R i c = { R with next:=i+1,now:={ R.now with kind:=5 } }:=by unfold ed;rw[if_neg h1,if_neg h2,if_neg h3,if_neg h4,if_neg h5,if_pos h6]
theorem PP {R:Rd}{i:Nat}{c:UInt8}(h1:¬ c.toNat=34)(h2:¬ (c.toNat=120∧R.s[i+1]? = some 34))(h3:¬ aN c=true)(h4:¬ (isD c=true∨c.toNat=45))(h5:¬ (c.toNat=46∧R.s[i+1]? = some 46))(h6:¬ Cq c=true):ed R i c=aZ R i 13:=by unfold ed;rw[if_neg h1,if_neg h2,if_neg h3,if_neg h4,if_neg h5,if_neg h6]
theorem iJ {R:Rd}{i:Nat}(h:R.e=0):en R i = { R with now:={ R.now with text:=(R.s.take R.next).drop i } }:=if_pos h
theorem r6 {R:Rd}{i:Nat}(h:¬ R.e=0):en R i=R:=if_neg h
set_option maxHeartbeats 16000000 in
theorem d6 (R:Rd)(hR:OkR R):aP Tryz.prog (dD T p) 1 93 [.ptr 0 0] [rdB R] (.pv (tkP R.now)) [rdB (bq R)]:=by
 by_cases h0:¬ R.e=0
 ·rw[wG h0]
  refine aP.intro d8 (by simp[F93]) ?_
  simp(disch:=try exact dI) only[F93,rdB,rdC,h0,push_cast,seval]
  exact ap [] (by simp(disch:=try exact dI) only[rdB,rdC,tkP,push_cast,seval])
 have h0:R.e=0:=Classical.not_not.1 h0
 have h0I:(R.e=0)=True:=eq_true h0
 obtain⟨hs,_,hnx,_⟩:=hR h0
 have hrun:=p6 (T:=T) (p:=p) R R.next 158 aY FO hs hnx
 have hi2:bx aY R.s R.next≤R.s.length:=df hnx
 have hadv0:=B1 (R:=R) h0
 have hadvc:=fun c=>B0 (R:=R) (c:=c) h0
 simp only[rdB,rdC] at hrun
 generalize bx aY R.s R.next=i at *
 by_cases hi:R.s.length≤i
 ·rw[hadv0 hi]
  obtain rfl:i=R.s.length:=by omega
  refine aP.intro d8 (by simp[F93]) ?_
  simp(disch:=try exact dI) only[F93,rdB,rdC,h0I,push_cast,seval]
  refine ab.lentK hrun [0] rfl qsZ qsZ ?_
  simp(disch:=try exact dI) only[push_cast,seval]
  exact ap [] (by simp(disch:=try exact dI) only[rdB,rdC,tkP,push_cast,seval])
 have hlt:i<R.s.length:=by omega
 have hltI:¬ (i:Int)=(R.s.length:Int):=by omega
 have hltI2:(i:Int)<(R.s.length:Int):=by omega
 obtain⟨c,hc⟩:∃ c,R.s[i]? = some c:=⟨_,List.getElem?_eq_getElem hlt⟩
 rw[hadvc c hc]
 obtain⟨R1,hR1⟩:∃ R1:Rd,R1 = { R with now:={ pos:=i },next:=i }:=⟨_,rfl⟩
 have q1:R1.s=R.s:=by rw[hR1]
 have hb1:rdC R1=[.pv (.str R.s),.pv (.int .i64 (i:Int)),.pv (.int .i64 0),.pv (.int .i64 (i:Int)),.pv (.str []),.pv (.str []),.pv (.int .i64 0),.pv (.int .i64 0),.pv (.bool false),.pv (.bool false),.pv (.int .i64 R.e),.pv (.int .i64 (R.off:Int))]:=by rw[hR1];rfl
 rw[← hR1]
 have hln:=sX (R:=R1) (i:=i) (c:=c) (by rw[hR1];exact h0) (by rw[hR1];exact hc)
 have hls:=E1 R1 i c
 rw[q1] at hln hls
 by_cases h34:c.toNat=34
 ·have h34I:((c.toNat:Int)=34)=True:=eq_true (by omega)
  have k1:=LB (T:=T) (p:=p) R1 i (by rw[q1];exact hs) (by rw[q1];exact hlt) (by rw[hR1];exact h0)
  rw[PU h34] at hln hls ⊢
  generalize sd R1 i=L at *
  simp only[rdB] at k1
  rw[hb1] at k1
  by_cases hL:L.e=0
  ·have hLI:(L.e=0)=True:=eq_true hL
   obtain⟨n1,n2⟩:=hln hL
   have n1I:(i:Int)≤(L.next:Int):=by omega
   have n2I:(L.next:Int)≤(R.s.length:Int):=by omega
   rw[iJ hL]
   refine aP.intro d8 (by simp[F93]) ?_
   simp(disch:=try exact dI) only[F93,rdB,rdC,h0I,push_cast,seval]
   refine ab.lentK hrun [0] rfl qsZ qsZ ?_
   simp(disch:=try exact dI) only[hltI,hltI2,hc,ag,h34I,push_cast,seval]
   refine ab.lentK k1 [0] rfl qsZ qsZ ?_
   simp(disch:=try exact dI) only[rdC,hLI,hls,n1I,n2I,push_cast,seval]
   exact ap [] (by simp(disch:=try exact dI) only[rdB,rdC,tkP,hls,push_cast,seval])
  ·rw[r6 hL]
   refine aP.intro d8 (by simp[F93]) ?_
   simp(disch:=try exact dI) only[F93,rdB,rdC,h0I,push_cast,seval]
   refine ab.lentK hrun [0] rfl qsZ qsZ ?_
   simp(disch:=try exact dI) only[hltI,hltI2,hc,ag,h34I,push_cast,seval]
   refine ab.lentK k1 [0] rfl qsZ qsZ ?_
   simp(disch:=try exact dI) only[rdC,hL,push_cast,seval]
   exact ap [] (by simp(disch:=try exact dI) only[rdB,rdC,tkP,push_cast,seval])
 have h34I:¬ (c.toNat:Int)=34:=by omega
 have hpre:=toE (T:=T) (p:=p) (zb (R.s.drop i) [120,34])
 rw[za hc] at hpre
 have htk:List.drop i (List.take R.s.length R.s)=R.s.drop i:=by rw[List.take_length]
 by_cases h2:c.toNat=120∧R.s[i+1]? = some 34
 ·have h120I:((c.toNat:Int)=120)=True:=eq_true (by omega)
  have hc120:c=120:=UInt8.toNat_inj.1 (by simpa using h2.1)
  rw[show (decide (c=120)&&decide (R.s[i+1]? = some 34))=true by rw[decide_eq_true hc120,decide_eq_true h2.2];rfl] at hpre
  have k1:=FL (T:=T) (p:=p) R1 i (by rw[q1];exact hs) (by rw[q1];exact (List.getElem?_eq_some_iff.1 h2.2).1) (by rw[hR1];exact h0)
  rw[PT (by rw[q1];exact h2)] at hln hls ⊢
  generalize th R1 i=L at *
  simp only[rdB] at k1
  rw[hb1] at k1
  by_cases hL:L.e=0
  ·have hLI:(L.e=0)=True:=eq_true hL
   obtain⟨n1,n2⟩:=hln hL
   have n1I:(i:Int)≤(L.next:Int):=by omega
   have n2I:(L.next:Int)≤(R.s.length:Int):=by omega
   rw[iJ hL]
   refine aP.intro d8 (by simp[F93]) ?_
   simp(disch:=try exact dI) only[F93,rdB,rdC,h0I,push_cast,seval]
   refine ab.lentK hrun [0] rfl qsZ qsZ ?_
   simp(disch:=try exact dI) only[hltI,hltI2,hc,ag,h34I,h120I,push_cast,seval]
   refine ab.pure hpre (by simp(disch:=try exact dI) only[htk,push_cast,seval]) ?_
   simp(disch:=try exact dI) only[push_cast,seval]
   refine ab.lentK k1 [0] rfl qsZ qsZ ?_
   simp(disch:=try exact dI) only[rdC,hLI,hls,n1I,n2I,push_cast,seval]
   exact ap [] (by simp(disch:=try exact dI) only[rdB,rdC,tkP,hls,push_cast,seval])
  ·rw[r6 hL]
   refine aP.intro d8 (by simp[F93]) ?_
   simp(disch:=try exact dI) only[F93,rdB,rdC,h0I,push_cast,seval]
   refine ab.lentK hrun [0] rfl qsZ qsZ ?_
   simp(disch:=try exact dI) only[hltI,hltI2,hc,ag,h34I,h120I,push_cast,seval]
   refine ab.pure hpre (by simp(disch:=try exact dI) only[htk,push_cast,seval]) ?_
   simp(disch:=try exact dI) only[push_cast,seval]
   refine ab.lentK k1 [0] rfl qsZ qsZ ?_
   simp(disch:=try exact dI) only[rdC,hL,push_cast,seval]
   exact ap [] (by simp(disch:=try exact dI) only[rdB,rdC,tkP,push_cast,seval])
 rw[show (decide (c=120)&&decide (R.s[i+1]? = some 34))=false by
  by_cases hx:c=120
  ·rw[decide_eq_false (fun q=>h2 ⟨by rw[hx];rfl,q⟩),Bool.and_false]
  ·rw[decide_eq_false hx,Bool.false_and]] at hpre
 have h2':¬ (c.toNat=120∧R1.s[i+1]? = some 34):=by rw[q1];exact h2
 have hlet:=toE (T:=T) (p:=p) (oS c)
 by_cases hx:c.toNat=120
 ·-- an x that begins no bytes is a letter
  have h120I:((c.toNat:Int)=120)=True:=eq_true (by omega)
  have h3:aN c=true:=by simp[aN,hx]
  rw[h3] at hlet
  rw[MI h34 h2' h3,iJ (by rw[hR1];exact h0)]
  have hr2:=p6 (T:=T) (p:=p) R1 i 163 cH w9 (by rw[q1];exact hs) (by rw[q1];omega)
  have e1:i≤bx cH R1.s i:=fD
  have e2:bx cH R1.s i≤R1.s.length:=df (by rw[q1];omega)
  rw[q1] at e1 e2 hr2 ⊢
  generalize bx cH R.s i=z at *
  have n1I:(i:Int)≤(z:Int):=by omega
  have n2I:(z:Int)≤(R.s.length:Int):=by omega
  simp only[rdB] at hr2
  rw[hb1] at hr2
  subst hR1
  refine aP.intro d8 (by simp[F93]) ?_
  simp(disch:=try exact dI) only[F93,rdB,rdC,h0I,push_cast,seval]
  refine ab.lentK hrun [0] rfl qsZ qsZ ?_
  simp(disch:=try exact dI) only[hltI,hltI2,hc,ag,h34I,h120I,push_cast,seval]
  refine ab.pure hpre (by simp(disch:=try exact dI) only[htk,push_cast,seval]) ?_
  simp(disch:=try exact dI) only[push_cast,seval]
  refine ab.pure hlet rfl ?_
  simp(disch:=try exact dI) only[push_cast,seval]
  refine ab.lentK hr2 [0] rfl qsZ qsZ ?_
  simp(disch:=try exact dI) only[h0I,n1I,n2I,push_cast,seval]
  exact ap [] (by simp(disch:=try exact dI) only[rdB,rdC,tkP,push_cast,seval])
 have h120I:¬ (c.toNat:Int)=120:=by omega
 by_cases h3:aN c=true
 ·rw[h3] at hlet
  rw[MI h34 h2' h3,iJ (by rw[hR1];exact h0)]
  have hr2:=p6 (T:=T) (p:=p) R1 i 163 cH w9 (by rw[q1];exact hs) (by rw[q1];omega)
  have e1:i≤bx cH R1.s i:=fD
  have e2:bx cH R1.s i≤R1.s.length:=df (by rw[q1];omega)
  rw[q1] at e1 e2 hr2 ⊢
  generalize bx cH R.s i=z at *
  have n1I:(i:Int)≤(z:Int):=by omega
  have n2I:(z:Int)≤(R.s.length:Int):=by omega
  simp only[rdB] at hr2
  rw[hb1] at hr2
  subst hR1
  refine aP.intro d8 (by simp[F93]) ?_
  simp(disch:=try exact dI) only[F93,rdB,rdC,h0I,push_cast,seval]
  refine ab.lentK hrun [0] rfl qsZ qsZ ?_
  simp(disch:=try exact dI) only[hltI,hltI2,hc,ag,h34I,h120I,push_cast,seval]
  refine ab.pure hlet rfl ?_
  simp(disch:=try exact dI) only[push_cast,seval]
  refine ab.lentK hr2 [0] rfl qsZ qsZ ?_
  simp(disch:=try exact dI) only[h0I,n1I,n2I,push_cast,seval]
  exact ap [] (by simp(disch:=try exact dI) only[rdB,rdC,tkP,push_cast,seval])
 rw[show aN c=false by simpa using h3] at hlet
 have hdig:=toE (T:=T) (p:=p) (eH c)
 by_cases h4:isD c=true∨c.toNat=45
 ·have k1:=Mx (T:=T) (p:=p) R1 i (by rw[q1];exact hs) (by rw[q1];exact hlt) (by rw[hR1];exact h0) (by rw[hR1];exact⟨rfl,rfl⟩)
  rw[PS h34 h2' h3 h4] at hln hls ⊢
  generalize pJ R1 i=L at *
  simp only[rdB] at k1
  rw[hb1] at k1
  have hfin:∀ (dg:Bool),dg=isD c→(dg=false→(c.toNat:Int)=45)→aP Tryz.prog (dD T p) 1 93 [.ptr 0 0] [rdB R] (.pv (tkP R.now)) [rdB (en L i)]:=by
   intro dg hdg h45
   rw[← hdg] at hdig
   by_cases hL:L.e=0
   ·have hLI:(L.e=0)=True:=eq_true hL
    obtain⟨n1,n2⟩:=hln hL
    have n1I:(i:Int)≤(L.next:Int):=by omega
    have n2I:(L.next:Int)≤(R.s.length:Int):=by omega
    rw[iJ hL]
    refine aP.intro d8 (by simp[F93]) ?_
    simp(disch:=try exact dI) only[F93,rdB,rdC,h0I,push_cast,seval]
    refine ab.lentK hrun [0] rfl qsZ qsZ ?_
    simp(disch:=try exact dI) only[hltI,hltI2,hc,ag,h34I,h120I,push_cast,seval]
    refine ab.pure hlet rfl ?_
    simp(disch:=try exact dI) only[push_cast,seval]
    refine ab.pure hdig rfl ?_
    cases dg with
    | true=>
      simp(disch:=try exact dI) only[push_cast,seval]
      refine ab.lentK k1 [0] rfl qsZ qsZ ?_
      simp(disch:=try exact dI) only[rdC,hLI,hls,n1I,n2I,push_cast,seval]
      exact ap [] (by simp(disch:=try exact dI) only[rdB,rdC,tkP,hls,push_cast,seval])
    | false=>
      have h45I:((c.toNat:Int)=45)=True:=eq_true (h45 rfl)
      simp(disch:=try exact dI) only[h45I,push_cast,seval]
      refine ab.lentK k1 [0] rfl qsZ qsZ ?_
      simp(disch:=try exact dI) only[rdC,hLI,hls,n1I,n2I,push_cast,seval]
      exact ap [] (by simp(disch:=try exact dI) only[rdB,rdC,tkP,hls,push_cast,seval])
   ·rw[r6 hL]
    refine aP.intro d8 (by simp[F93]) ?_
    simp(disch:=try exact dI) only[F93,rdB,rdC,h0I,push_cast,seval]
    refine ab.lentK hrun [0] rfl qsZ qsZ ?_
    simp(disch:=try exact dI) only[hltI,hltI2,hc,ag,h34I,h120I,push_cast,seval]
    refine ab.pure hlet rfl ?_
    simp(disch:=try exact dI) only[push_cast,seval]
    refine ab.pure hdig rfl ?_
    cases dg with
    | true=>
      simp(disch:=try exact dI) only[push_cast,seval]
      refine ab.lentK k1 [0] rfl qsZ qsZ ?_
      simp(disch:=try exact dI) only[rdC,hL,push_cast,seval]
      exact ap [] (by simp(disch:=try exact dI) only[rdB,rdC,tkP,push_cast,seval])
    | false=>
      have h45I:((c.toNat:Int)=45)=True:=eq_true (h45 rfl)
      simp(disch:=try exact dI) only[h45I,push_cast,seval]
      refine ab.lentK k1 [0] rfl qsZ qsZ ?_
      simp(disch:=try exact dI) only[rdC,hL,push_cast,seval]
      exact ap [] (by simp(disch:=try exact dI) only[rdB,rdC,tkP,push_cast,seval])
  refine hfin (isD c) rfl fun hd=>?_
  rcases h4 with h4 | h4
  ·rw[h4] at hd;cases hd
  ·omega
 have h45I:¬ (c.toNat:Int)=45:=fun h=>h4 (.inr (by omega))
 rw[show isD c=false by
  cases hh:isD c with
  | true=>exact absurd (.inl hh) h4
  | false=>rfl] at hdig
 have hdot:=toE (T:=T) (p:=p) (zb (R.s.drop i) [46,46])
 rw[za hc] at hdot
 by_cases h5:c.toNat=46∧R.s[i+1]? = some 46
 ·have hc46:c=46:=UInt8.toNat_inj.1 (by simpa using h5.1)
  rw[show (decide (c=46)&&decide (R.s[i+1]? = some 46))=true by rw[decide_eq_true hc46,decide_eq_true h5.2];rfl] at hdot
  rw[PR h34 h2' h3 h4 (by rw[q1];exact h5),iJ (by rw[hR1];exact h0)]
  have hl2:i+1<R.s.length:=(List.getElem?_eq_some_iff.1 h5.2).1
  have n2I:(i:Int)+2≤(R.s.length:Int):=by omega
  have n1I:(i:Int)≤(i:Int)+2:=by omega
  have e2:((i:Int)+2).toNat=i+2:=by omega
  subst hR1
  refine aP.intro d8 (by simp[F93]) ?_
  simp(disch:=try exact dI) only[F93,rdB,rdC,h0I,push_cast,seval]
  refine ab.lentK hrun [0] rfl qsZ qsZ ?_
  simp(disch:=try exact dI) only[hltI,hltI2,hc,ag,h34I,h120I,push_cast,seval]
  refine ab.pure hlet rfl ?_
  simp(disch:=try exact dI) only[push_cast,seval]
  refine ab.pure hdig rfl ?_
  simp(disch:=try exact dI) only[h45I,push_cast,seval]
  refine ab.pure hdot (by simp(disch:=try exact dI) only[htk,push_cast,seval]) ?_
  simp(disch:=try exact dI) only[h0I,n1I,n2I,e2,push_cast,seval]
  exact ap [] (by simp(disch:=try exact dI) only[rdB,rdC,tkP,push_cast,seval];omega)
 rw[show (decide (c=46)&&decide (R.s[i+1]? = some 46))=false by
  by_cases hx:c=46
  ·rw[decide_eq_false (fun q=>h5 ⟨by rw[hx];rfl,q⟩),Bool.and_false]
  ·rw[decide_eq_false hx,Bool.false_and]] at hdot
 have h5':¬ (c.toNat=46∧R1.s[i+1]? = some 46):=by rw[q1];exact h5
 have hsy:=toE (T:=T) (p:=p) (jn [91,93,123,125,40,41,58,44,61,63,124] c)
 have hsf:=Jg c
 generalize eR c [91,93,123,125,40,41,58,44,61,63,124] 0=q at *
 by_cases h6:Cq c=true
 ·have hq:0≤q:=hsf.2 h6
  rw[PQ h34 h2' h3 h4 h5' h6,iJ (by rw[hR1];exact h0)]
  have n2I:(i:Int)+1≤(R.s.length:Int):=by omega
  have n1I:(i:Int)≤(i:Int)+1:=by omega
  have e2:((i:Int)+1).toNat=i+1:=by omega
  subst hR1
  refine aP.intro d8 (by simp[F93]) ?_
  simp(disch:=try exact dI) only[F93,rdB,rdC,h0I,push_cast,seval]
  refine ab.lentK hrun [0] rfl qsZ qsZ ?_
  simp(disch:=try exact dI) only[hltI,hltI2,hc,ag,h34I,h120I,push_cast,seval]
  refine ab.pure hlet rfl ?_
  simp(disch:=try exact dI) only[push_cast,seval]
  refine ab.pure hdig rfl ?_
  simp(disch:=try exact dI) only[h45I,push_cast,seval]
  refine ab.pure hdot (by simp(disch:=try exact dI) only[htk,push_cast,seval]) ?_
  simp(disch:=try exact dI) only[push_cast,seval]
  refine ab.pure hsy rfl ?_
  simp(disch:=try exact dI) only[hq,h0I,n1I,n2I,e2,push_cast,seval]
  exact ap [] (by simp(disch:=try exact dI) only[rdB,rdC,tkP,push_cast,seval])
 ·have hq:¬ 0≤q:=fun h=>h6 (hsf.1 h)
  rw[PP h34 h2' h3 h4 h5' h6]
  have hfa:=cL (T:=T) (p:=p) R1 i 13
  have hfe:=bX (R:=R1) (i:=i) (e:=13) (by decide)
  rw[r6 hfe]
  simp only[rdB] at hfa
  rw[hb1] at hfa
  generalize aZ R1 i 13=L at *
  refine aP.intro d8 (by simp[F93]) ?_
  simp(disch:=try exact dI) only[F93,rdB,rdC,h0I,push_cast,seval]
  refine ab.lentK hrun [0] rfl qsZ qsZ ?_
  simp(disch:=try exact dI) only[hltI,hltI2,hc,ag,h34I,h120I,push_cast,seval]
  refine ab.pure hlet rfl ?_
  simp(disch:=try exact dI) only[push_cast,seval]
  refine ab.pure hdig rfl ?_
  simp(disch:=try exact dI) only[h45I,push_cast,seval]
  refine ab.pure hdot (by simp(disch:=try exact dI) only[htk,push_cast,seval]) ?_
  simp(disch:=try exact dI) only[push_cast,seval]
  refine ab.pure hsy rfl ?_
  simp(disch:=try exact dI) only[hq,push_cast,seval]
  refine ab.lentK hfa [0] rfl qsZ qsZ ?_
  simp(disch:=try exact dI) only[push_cast,seval]
  exact ap [] (by simp(disch:=try exact dI) only[rdB,rdC,tkP,push_cast,seval])
end
end Go.Proofs.YtamoeblcphjbaaaGreatDoor
