/- A part of the proof. -/
import Derived.Test.YtamoeblcphjbaaaGreatDoorPaLP7
set_option maxHeartbeats 16000000
set_option maxRecDepth 100000
set_option linter.unusedVariables false
set_option linter.unusedSimpArgs false
-- many steps
namespace Go.Proofs.YtamoeblcphjbaaaGreatDoor
open Go Go.Ab
attribute [local irreducible] vc
theorem zH {s:List UInt8}{i:Nat}{c a b:UInt8}(hc:s[i]? = some c):fP [a,b] (s.drop i)=(decide (c=a)&&decide (s[i+1]? = some b)):=by
 rw[aP hc,fP]
 cases hd:s[i+1]? with
 | none=>
   have:s.drop (i+1)=[]:=List.drop_eq_nil_of_le (List.getElem?_eq_none_iff.1 hd)
   rw[this]
   simp
 | some x=>
   rw[aP hd]
   simp[Bool.decide_and]
section
variable {T:Nat}{p:PV}
theorem Rb {R:Rd}{i:Nat}{c:UInt8}(h:c.toNat=34):eS R i c=xr R i:=if_pos h
theorem Ra {R:Rd}{i:Nat}{c:UInt8}(h:c.toNat=120∧R.s[i+1]? = some 34):eS R i c=xw R i:=by unfold eS;rw[if_neg (by omega),if_pos h]
theorem NX {R:Rd}{i:Nat}{c:UInt8}(h1:¬ c.toNat=34)(h2:¬ (c.toNat=120∧R.s[i+1]? = some 34))(h3:aJ c=true):eS R i c = { R with next:=aK bM R.s i,now:={ R.now with kind:=1 } }:=by unfold eS;rw[if_neg h1,if_neg h2,if_pos h3]
theorem Q9 {R:Rd}{i:Nat}{c:UInt8}(h1:¬ c.toNat=34)(h2:¬ (c.toNat=120∧R.s[i+1]? = some 34))(h3:¬ aJ c=true)(h4:isD c=true∨c.toNat=45):eS R i c=rp R i:=by unfold eS;rw[if_neg h1,if_neg h2,if_neg h3,if_pos h4]
theorem Q8 {R:Rd}{i:Nat}{c:UInt8}(h1:¬ c.toNat=34)(h2:¬ (c.toNat=120∧R.s[i+1]? = some 34))(h3:¬ aJ c=true)(h4:¬ (isD c=true∨c.toNat=45))(h5:c.toNat=46∧R.s[i+1]? = some 46):eS R i c = { R with next:=i+2,now:={ R.now with kind:=5 } }:=by unfold eS;rw[if_neg h1,if_neg h2,if_neg h3,if_neg h4,if_pos h5]
theorem Q7 {R:Rd}{i:Nat}{c:UInt8}(h1:¬ c.toNat=34)(h2:¬ (c.toNat=120∧R.s[i+1]? = some 34))(h3:¬ aJ c=true)(h4:¬ (isD c=true∨c.toNat=45))(h5:¬ (c.toNat=46∧R.s[i+1]? = some 46))(h6:lq c=true):eS R i c = { R with next:=i+1,now:={ R.now with kind:=5 } }:=by unfold eS;rw[if_neg h1,if_neg h2,if_neg h3,if_neg h4,if_neg h5,if_pos h6]
theorem Q6 {R:Rd}{i:Nat}{c:UInt8}(h1:¬ c.toNat=34)(h2:¬ (c.toNat=120∧R.s[i+1]? = some 34))(h3:¬ aJ c=true)(h4:¬ (isD c=true∨c.toNat=45))(h5:¬ (c.toNat=46∧R.s[i+1]? = some 46))(h6:¬ lq c=true):eS R i c=aI R i 13:=by unfold eS;rw[if_neg h1,if_neg h2,if_neg h3,if_neg h4,if_neg h5,if_neg h6]
theorem fa {R:Rd}{i:Nat}(h:R.e=0):fb R i = { R with now:={ R.now with text:=(R.s.take R.next).drop i } }:=if_pos h
theorem lM {R:Rd}{i:Nat}(h:¬ R.e=0):fb R i=R:=if_neg h
theorem ep (R:Rd)(hR:OkR R):aF Tryz.prog (bG T p) 1 93 [.ptr 0 0] [rdB R] (.pv (tkP R.now)) [rdB (aY R)]:=by
 by_cases h0:¬ R.e=0
 ·rw[p8 h0]
  refine aF.intro eq (by simp[F93]) ?_
  simp(disch:=try exact dI) only[F93,rdB,rdC,h0,push_cast,seval]
  exact am [] (by simp(disch:=try exact dI) only[rdB,rdC,tkP,push_cast,seval])
 have h0:R.e=0:=Classical.not_not.1 h0
 have h0I:(R.e=0)=True:=eq_true h0
 obtain⟨hs,_,hnx,_⟩:=hR h0
 have hrun:=qI (T:=T) (p:=p) R R.next 158 aC Gh hs hnx
 have hi2:aK aC R.s R.next≤R.s.length:=bq hnx
 have hadv0:=sm (R:=R) h0
 have hadvc:=fun c=>sl (R:=R) (c:=c) h0
 simp only[rdB,rdC] at hrun
 generalize aK aC R.s R.next=i at *
 by_cases hi:R.s.length≤i
 ·rw[hadv0 hi]
  obtain rfl:i=R.s.length:=by omega
  refine aF.intro eq (by simp[F93]) ?_
  simp(disch:=try exact dI) only[F93,rdB,rdC,h0I,push_cast,seval]
  refine ab.lentK hrun [0] rfl qsZ qsZ ?_
  refine zgZ ?_
  exact am [] (by simp(disch:=try exact dI) only[rdB,rdC,tkP,push_cast,seval])
 have hlt:i<R.s.length:=by omega
 have hltI:¬ (i:Int)=(R.s.length:Int):=by omega
 have hltI2:(i:Int)<(R.s.length:Int):=by omega
 obtain⟨c,hc⟩:∃ c,R.s[i]? = some c:=⟨_,List.getElem?_eq_getElem hlt⟩
 rw[hadvc c hc]
 obtain⟨R1,hR1⟩:∃ R1:Rd,R1 = { R with now:={ pos:=i },next:=i }:=⟨_,rfl⟩
 have q1:R1.s=R.s:=by rw[hR1]
 have hb1:rdC R1=[.pv (.str R.s),.pv (.int .i64 (i:Int)),.pv (.int .i64 0),.pv (.int .i64 (i:Int)),.pv (.str []),.pv (.str []),.pv (.int .i64 0),.pv (.int .i64 0),.pv (.bool false),.pv (.bool false),.pv (.int .i64 R.e),.pv (.int .i64 (R.off:Int))]:=by rw[hR1];rfl
 rw[← hR1]
 have hln:=tZ (R:=R1) (i:=i) (c:=c) (by rw[hR1];exact h0) (by rw[hR1];exact hc)
 have hls:=Fs R1 i c
 rw[q1] at hln hls
 by_cases h34:c.toNat=34
 ·have h34I:((c.toNat:Int)=34)=True:=eq_true (by omega)
  have k1:=MN (T:=T) (p:=p) R1 i (by rw[q1];exact hs) (by rw[q1];exact hlt) (by rw[hR1];exact h0)
  rw[Rb h34] at hln hls ⊢
  generalize xr R1 i=L at *
  simp only[rdB] at k1
  rw[hb1] at k1
  by_cases hL:L.e=0
  ·have hLI:(L.e=0)=True:=eq_true hL
   obtain⟨n1,n2⟩:=hln hL
   have n1I:(i:Int)≤(L.next:Int):=by omega
   have n2I:(L.next:Int)≤(R.s.length:Int):=by omega
   rw[fa hL]
   refine aF.intro eq (by simp[F93]) ?_
   simp(disch:=try exact dI) only[F93,rdB,rdC,h0I,push_cast,seval]
   refine ab.lentK hrun [0] rfl qsZ qsZ ?_
   simp(disch:=try exact dI) only[hltI,hltI2,hc,ae,h34I,push_cast,seval]
   refine ab.lentK k1 [0] rfl qsZ qsZ ?_
   simp(disch:=try exact dI) only[rdC,hLI,hls,n1I,n2I,push_cast,seval]
   exact am [] (by simp(disch:=try exact dI) only[rdB,rdC,tkP,hls,push_cast,seval])
  ·rw[lM hL]
   refine aF.intro eq (by simp[F93]) ?_
   simp(disch:=try exact dI) only[F93,rdB,rdC,h0I,push_cast,seval]
   refine ab.lentK hrun [0] rfl qsZ qsZ ?_
   simp(disch:=try exact dI) only[hltI,hltI2,hc,ae,h34I,push_cast,seval]
   refine ab.lentK k1 [0] rfl qsZ qsZ ?_
   simp(disch:=try exact dI) only[rdC,hL,push_cast,seval]
   exact am [] (by simp(disch:=try exact dI) only[rdB,rdC,tkP,push_cast,seval])
 have h34I:¬ (c.toNat:Int)=34:=by omega
 have hpre:=toE (T:=T) (p:=p) (zI (R.s.drop i) [120,34])
 rw[zH hc] at hpre
 have htk:List.drop i (List.take R.s.length R.s)=R.s.drop i:=by rw[List.take_length]
 by_cases h2:c.toNat=120∧R.s[i+1]? = some 34
 ·have h120I:((c.toNat:Int)=120)=True:=eq_true (by omega)
  have hc120:c=120:=UInt8.toNat_inj.1 (by simpa using h2.1)
  rw[show (decide (c=120)&&decide (R.s[i+1]? = some 34))=true by rw[decide_eq_true hc120,decide_eq_true h2.2];rfl] at hpre
  have k1:=Gc (T:=T) (p:=p) R1 i (by rw[q1];exact hs) (by rw[q1];exact (List.getElem?_eq_some_iff.1 h2.2).1) (by rw[hR1];exact h0)
  rw[Ra (by rw[q1];exact h2)] at hln hls ⊢
  generalize xw R1 i=L at *
  simp only[rdB] at k1
  rw[hb1] at k1
  by_cases hL:L.e=0
  ·have hLI:(L.e=0)=True:=eq_true hL
   obtain⟨n1,n2⟩:=hln hL
   have n1I:(i:Int)≤(L.next:Int):=by omega
   have n2I:(L.next:Int)≤(R.s.length:Int):=by omega
   rw[fa hL]
   refine aF.intro eq (by simp[F93]) ?_
   simp(disch:=try exact dI) only[F93,rdB,rdC,h0I,push_cast,seval]
   refine ab.lentK hrun [0] rfl qsZ qsZ ?_
   simp(disch:=try exact dI) only[hltI,hltI2,hc,ae,h34I,h120I,push_cast,seval]
   refine ab.pure hpre (by simp(disch:=try exact dI) only[htk,push_cast,seval]) ?_
   refine zgZ ?_
   refine ab.lentK k1 [0] rfl qsZ qsZ ?_
   simp(disch:=try exact dI) only[rdC,hLI,hls,n1I,n2I,push_cast,seval]
   exact am [] (by simp(disch:=try exact dI) only[rdB,rdC,tkP,hls,push_cast,seval])
  ·rw[lM hL]
   refine aF.intro eq (by simp[F93]) ?_
   simp(disch:=try exact dI) only[F93,rdB,rdC,h0I,push_cast,seval]
   refine ab.lentK hrun [0] rfl qsZ qsZ ?_
   simp(disch:=try exact dI) only[hltI,hltI2,hc,ae,h34I,h120I,push_cast,seval]
   refine ab.pure hpre (by simp(disch:=try exact dI) only[htk,push_cast,seval]) ?_
   refine zgZ ?_
   refine ab.lentK k1 [0] rfl qsZ qsZ ?_
   simp(disch:=try exact dI) only[rdC,hL,push_cast,seval]
   exact am [] (by simp(disch:=try exact dI) only[rdB,rdC,tkP,push_cast,seval])
 rw[show (decide (c=120)&&decide (R.s[i+1]? = some 34))=false by
  by_cases hx:c=120
  ·rw[decide_eq_false (fun q=>h2 ⟨by rw[hx];rfl,q⟩),Bool.and_false]
  ·rw[decide_eq_false hx,Bool.false_and]] at hpre
 have h2':¬ (c.toNat=120∧R1.s[i+1]? = some 34):=by rw[q1];exact h2
 have hlet:=toE (T:=T) (p:=p) (pw c)
 by_cases hx:c.toNat=120
 ·-- an x that begins no bytes is a letter
  have h120I:((c.toNat:Int)=120)=True:=eq_true (by omega)
  have h3:aJ c=true:=by simp[aJ,hx]
  rw[h3] at hlet
  rw[NX h34 h2' h3,fa (by rw[hR1];exact h0)]
  have hr2:=qI (T:=T) (p:=p) R1 i 163 bM xM (by rw[q1];exact hs) (by rw[q1];omega)
  have e1:i≤aK bM R1.s i:=da
  have e2:aK bM R1.s i≤R1.s.length:=bq (by rw[q1];omega)
  rw[q1] at e1 e2 hr2 ⊢
  generalize aK bM R.s i=z at *
  have n1I:(i:Int)≤(z:Int):=by omega
  have n2I:(z:Int)≤(R.s.length:Int):=by omega
  simp only[rdB] at hr2
  rw[hb1] at hr2
  subst hR1
  refine aF.intro eq (by simp[F93]) ?_
  simp(disch:=try exact dI) only[F93,rdB,rdC,h0I,push_cast,seval]
  refine ab.lentK hrun [0] rfl qsZ qsZ ?_
  simp(disch:=try exact dI) only[hltI,hltI2,hc,ae,h34I,h120I,push_cast,seval]
  refine ab.pure hpre (by simp(disch:=try exact dI) only[htk,push_cast,seval]) ?_
  refine zgZ ?_
  refine ab.pure hlet rfl ?_
  refine zgZ ?_
  refine ab.lentK hr2 [0] rfl qsZ qsZ ?_
  simp(disch:=try exact dI) only[h0I,n1I,n2I,push_cast,seval]
  exact am [] (by simp(disch:=try exact dI) only[rdB,rdC,tkP,push_cast,seval])
 have h120I:¬ (c.toNat:Int)=120:=by omega
 by_cases h3:aJ c=true
 ·rw[h3] at hlet
  rw[NX h34 h2' h3,fa (by rw[hR1];exact h0)]
  have hr2:=qI (T:=T) (p:=p) R1 i 163 bM xM (by rw[q1];exact hs) (by rw[q1];omega)
  have e1:i≤aK bM R1.s i:=da
  have e2:aK bM R1.s i≤R1.s.length:=bq (by rw[q1];omega)
  rw[q1] at e1 e2 hr2 ⊢
  generalize aK bM R.s i=z at *
  have n1I:(i:Int)≤(z:Int):=by omega
  have n2I:(z:Int)≤(R.s.length:Int):=by omega
  simp only[rdB] at hr2
  rw[hb1] at hr2
  subst hR1
  refine aF.intro eq (by simp[F93]) ?_
  simp(disch:=try exact dI) only[F93,rdB,rdC,h0I,push_cast,seval]
  refine ab.lentK hrun [0] rfl qsZ qsZ ?_
  simp(disch:=try exact dI) only[hltI,hltI2,hc,ae,h34I,h120I,push_cast,seval]
  refine ab.pure hlet rfl ?_
  refine zgZ ?_
  refine ab.lentK hr2 [0] rfl qsZ qsZ ?_
  simp(disch:=try exact dI) only[h0I,n1I,n2I,push_cast,seval]
  exact am [] (by simp(disch:=try exact dI) only[rdB,rdC,tkP,push_cast,seval])
 rw[show aJ c=false by simpa using h3] at hlet
 have hdig:=toE (T:=T) (p:=p) (eK c)
 by_cases h4:isD c=true∨c.toNat=45
 ·have k1:=NK (T:=T) (p:=p) R1 i (by rw[q1];exact hs) (by rw[q1];exact hlt) (by rw[hR1];exact h0) (by rw[hR1];exact⟨rfl,rfl⟩)
  rw[Q9 h34 h2' h3 h4] at hln hls ⊢
  generalize rp R1 i=L at *
  simp only[rdB] at k1
  rw[hb1] at k1
  have hfin:∀ (dg:Bool),dg=isD c→(dg=false→(c.toNat:Int)=45)→aF Tryz.prog (bG T p) 1 93 [.ptr 0 0] [rdB R] (.pv (tkP R.now)) [rdB (fb L i)]:=by
   intro dg hdg h45
   rw[← hdg] at hdig
   by_cases hL:L.e=0
   ·have hLI:(L.e=0)=True:=eq_true hL
    obtain⟨n1,n2⟩:=hln hL
    have n1I:(i:Int)≤(L.next:Int):=by omega
    have n2I:(L.next:Int)≤(R.s.length:Int):=by omega
    rw[fa hL]
    refine aF.intro eq (by simp[F93]) ?_
    simp(disch:=try exact dI) only[F93,rdB,rdC,h0I,push_cast,seval]
    refine ab.lentK hrun [0] rfl qsZ qsZ ?_
    simp(disch:=try exact dI) only[hltI,hltI2,hc,ae,h34I,h120I,push_cast,seval]
    refine ab.pure hlet rfl ?_
    refine zgZ ?_
    refine ab.pure hdig rfl ?_
    cases dg with
    | true=>
      refine zgZ ?_
      refine ab.lentK k1 [0] rfl qsZ qsZ ?_
      simp(disch:=try exact dI) only[rdC,hLI,hls,n1I,n2I,push_cast,seval]
      exact am [] (by simp(disch:=try exact dI) only[rdB,rdC,tkP,hls,push_cast,seval])
    | false=>
      have h45I:((c.toNat:Int)=45)=True:=eq_true (h45 rfl)
      simp(disch:=try exact dI) only[h45I,push_cast,seval]
      refine ab.lentK k1 [0] rfl qsZ qsZ ?_
      simp(disch:=try exact dI) only[rdC,hLI,hls,n1I,n2I,push_cast,seval]
      exact am [] (by simp(disch:=try exact dI) only[rdB,rdC,tkP,hls,push_cast,seval])
   ·rw[lM hL]
    refine aF.intro eq (by simp[F93]) ?_
    simp(disch:=try exact dI) only[F93,rdB,rdC,h0I,push_cast,seval]
    refine ab.lentK hrun [0] rfl qsZ qsZ ?_
    simp(disch:=try exact dI) only[hltI,hltI2,hc,ae,h34I,h120I,push_cast,seval]
    refine ab.pure hlet rfl ?_
    refine zgZ ?_
    refine ab.pure hdig rfl ?_
    cases dg with
    | true=>
      refine zgZ ?_
      refine ab.lentK k1 [0] rfl qsZ qsZ ?_
      simp(disch:=try exact dI) only[rdC,hL,push_cast,seval]
      exact am [] (by simp(disch:=try exact dI) only[rdB,rdC,tkP,push_cast,seval])
    | false=>
      have h45I:((c.toNat:Int)=45)=True:=eq_true (h45 rfl)
      simp(disch:=try exact dI) only[h45I,push_cast,seval]
      refine ab.lentK k1 [0] rfl qsZ qsZ ?_
      simp(disch:=try exact dI) only[rdC,hL,push_cast,seval]
      exact am [] (by simp(disch:=try exact dI) only[rdB,rdC,tkP,push_cast,seval])
  refine hfin (isD c) rfl fun hd=>?_
  rcases h4 with h4 | h4
  ·rw[h4] at hd;cases hd
  ·omega
 have h45I:¬ (c.toNat:Int)=45:=fun h=>h4 (.inr (by omega))
 rw[show isD c=false by
  cases hh:isD c with
  | true=>exact absurd (.inl hh) h4
  | false=>rfl] at hdig
 have hdot:=toE (T:=T) (p:=p) (zI (R.s.drop i) [46,46])
 rw[zH hc] at hdot
 by_cases h5:c.toNat=46∧R.s[i+1]? = some 46
 ·have hc46:c=46:=UInt8.toNat_inj.1 (by simpa using h5.1)
  rw[show (decide (c=46)&&decide (R.s[i+1]? = some 46))=true by rw[decide_eq_true hc46,decide_eq_true h5.2];rfl] at hdot
  rw[Q8 h34 h2' h3 h4 (by rw[q1];exact h5),fa (by rw[hR1];exact h0)]
  have hl2:i+1<R.s.length:=(List.getElem?_eq_some_iff.1 h5.2).1
  have n2I:(i:Int)+2≤(R.s.length:Int):=by omega
  have n1I:(i:Int)≤(i:Int)+2:=by omega
  have e2:((i:Int)+2).toNat=i+2:=by omega
  subst hR1
  refine aF.intro eq (by simp[F93]) ?_
  simp(disch:=try exact dI) only[F93,rdB,rdC,h0I,push_cast,seval]
  refine ab.lentK hrun [0] rfl qsZ qsZ ?_
  simp(disch:=try exact dI) only[hltI,hltI2,hc,ae,h34I,h120I,push_cast,seval]
  refine ab.pure hlet rfl ?_
  refine zgZ ?_
  refine ab.pure hdig rfl ?_
  simp(disch:=try exact dI) only[h45I,push_cast,seval]
  refine ab.pure hdot (by simp(disch:=try exact dI) only[htk,push_cast,seval]) ?_
  simp(disch:=try exact dI) only[h0I,n1I,n2I,e2,push_cast,seval]
  exact am [] (by simp(disch:=try exact dI) only[rdB,rdC,tkP,push_cast,seval];omega)
 rw[show (decide (c=46)&&decide (R.s[i+1]? = some 46))=false by
  by_cases hx:c=46
  ·rw[decide_eq_false (fun q=>h5 ⟨by rw[hx];rfl,q⟩),Bool.and_false]
  ·rw[decide_eq_false hx,Bool.false_and]] at hdot
 have h5':¬ (c.toNat=46∧R1.s[i+1]? = some 46):=by rw[q1];exact h5
 have hsy:=toE (T:=T) (p:=p) (jG [91,93,123,125,40,41,58,44,61,63,124] c)
 have hsf:=JM c
 generalize e6 c [91,93,123,125,40,41,58,44,61,63,124] 0=q at *
 by_cases h6:lq c=true
 ·have hq:0≤q:=hsf.2 h6
  rw[Q7 h34 h2' h3 h4 h5' h6,fa (by rw[hR1];exact h0)]
  have n2I:(i:Int)+1≤(R.s.length:Int):=by omega
  have n1I:(i:Int)≤(i:Int)+1:=by omega
  have e2:((i:Int)+1).toNat=i+1:=by omega
  subst hR1
  refine aF.intro eq (by simp[F93]) ?_
  simp(disch:=try exact dI) only[F93,rdB,rdC,h0I,push_cast,seval]
  refine ab.lentK hrun [0] rfl qsZ qsZ ?_
  simp(disch:=try exact dI) only[hltI,hltI2,hc,ae,h34I,h120I,push_cast,seval]
  refine ab.pure hlet rfl ?_
  refine zgZ ?_
  refine ab.pure hdig rfl ?_
  simp(disch:=try exact dI) only[h45I,push_cast,seval]
  refine ab.pure hdot (by simp(disch:=try exact dI) only[htk,push_cast,seval]) ?_
  refine zgZ ?_
  refine ab.pure hsy rfl ?_
  simp(disch:=try exact dI) only[hq,h0I,n1I,n2I,e2,push_cast,seval]
  exact am [] (by simp(disch:=try exact dI) only[rdB,rdC,tkP,push_cast,seval])
 ·have hq:¬ 0≤q:=fun h=>h6 (hsf.1 h)
  rw[Q6 h34 h2' h3 h4 h5' h6]
  have hfa:=cR (T:=T) (p:=p) R1 i 13
  have hfe:=aZ (R:=R1) (i:=i) (e:=13) (by decide)
  rw[lM hfe]
  simp only[rdB] at hfa
  rw[hb1] at hfa
  generalize aI R1 i 13=L at *
  refine aF.intro eq (by simp[F93]) ?_
  simp(disch:=try exact dI) only[F93,rdB,rdC,h0I,push_cast,seval]
  refine ab.lentK hrun [0] rfl qsZ qsZ ?_
  simp(disch:=try exact dI) only[hltI,hltI2,hc,ae,h34I,h120I,push_cast,seval]
  refine ab.pure hlet rfl ?_
  refine zgZ ?_
  refine ab.pure hdig rfl ?_
  simp(disch:=try exact dI) only[h45I,push_cast,seval]
  refine ab.pure hdot (by simp(disch:=try exact dI) only[htk,push_cast,seval]) ?_
  refine zgZ ?_
  refine ab.pure hsy rfl ?_
  simp(disch:=try exact dI) only[hq,push_cast,seval]
  refine ab.lentK hfa [0] rfl qsZ qsZ ?_
  refine zgZ ?_
  exact am [] (by simp(disch:=try exact dI) only[rdB,rdC,tkP,push_cast,seval])
end
end Go.Proofs.YtamoeblcphjbaaaGreatDoor
